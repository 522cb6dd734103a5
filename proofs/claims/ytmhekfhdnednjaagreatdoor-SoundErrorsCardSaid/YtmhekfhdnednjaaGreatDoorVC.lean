/-
  A part of the proof of SoundErrors.
-/
import Derived.Test.YtmhekfhdnednjaaGreatDoorVA
import Derived.Test.YtmhekfhdnednjaaGreatDoorVB
import Derived.Test.YtmhekfhdnednjaaGreatDoorProg
import Derived.KernelRfl
import Derived.Lib.LaidTab
import Derived.Stop.LaidErr
import Derived.Laws.Strings
set_option linter.unusedVariables false
set_option linter.unusedSimpArgs false
set_option linter.defProp false
set_option linter.unusedSectionVars false
namespace Go.Ds
noncomputable section
inductive Pth where
 | z
 | l (p : Pth)
 | r (p : Pth)
inductive Fr where
 | e
 | n (v : Value) (l r : Fr)
def a4y : Nat → Nat → Pth := fun f => Nat.rec (motive := fun _ => Nat → Pth) (fun _ => .z) (fun _ ih k => Nat.rec (motive := fun _ => Pth) .z (fun k _ => Bool.rec (motive := fun _ => Pth) (.r (ih (Nat.div k 2))) (.l (ih (Nat.div k 2))) (Nat.beq (Nat.mod k 2) 0)) k) f
def kR (k : Nat) : Pth := a4y k k
def nU (p : Pth) : Fr → Value := Pth.rec (motive := fun _ => Fr → Value)
 (fun f => Fr.rec (motive := fun _ => Value) undef (fun v _ _ _ _ => v) f)
 (fun _ ih f => Fr.rec (motive := fun _ => Value) undef (fun _ l _ _ _ => ih l) f)
 (fun _ ih f => Fr.rec (motive := fun _ => Value) undef (fun _ _ r _ _ => ih r) f) p
def pM {α : Type} (v : Value) (p : Pth) : Fr → (Fr → α) → α := Pth.rec (motive := fun _ => Fr → (Fr → α) → α)
 (fun f K => Fr.rec (motive := fun _ => α) (K (.n v .e .e)) (fun _ l r _ _ => K (.n v l r)) f)
 (fun _ ih f K => Fr.rec (motive := fun _ => α) (ih .e fun l => K (.n undef l .e)) (fun w l r _ _ => ih l fun l => K (.n w l r)) f)
 (fun _ ih f K => Fr.rec (motive := fun _ => α) (ih .e fun r => K (.n undef .e r)) (fun w l r _ _ => ih r fun r => K (.n w l r)) f) p
def lM {α : Type} (p : Pth) : (Pth → α) → α := Pth.rec (motive := fun _ => (Pth → α) → α) (fun K => K .z) (fun _ ih K => ih fun p => K (.l p)) (fun _ ih K => ih fun p => K (.r p)) p
inductive LArg where
 | t (p : Pth)
 | c (v : Value)
def mJ (f : Fr) (x : LArg) : Value := LArg.rec (motive := fun _ => Value) (fun p => nU p f) (fun v => v) x
inductive Rs where
 | no
 | ok (v : Value) (H : Heap)
 | th (v : Value) (H : Heap)
def oK {α : Type} (v : Value) (K : Value → α) : α :=
 match v with
 | .bool b => K (.bool b)
 | .int k n => K (.int k n)
 | .string s => K (.string s)
 | .pointer a => K (.pointer a)
 | .slice a n c => K (.slice a n c)
 | .map r => K (.map r)
 | .func fn a b => K (.func fn a b)
 | .agg cs => K (.agg cs)
 | .tuple vs => K (.tuple vs)
 | v => K v
inductive LOp where
 | bad
 | mv (x : LArg)
 | pick (c a b : LArg)
 | bin (g : IntKind → Int → Int → Option Value) (x y : LArg)
 | not (x : LArg)
 | ld1 (x : LArg)
 | ldn (n : Nat) (x : LArg)
 | st (n : Nat) (x y : LArg)
 | fa (off : Nat) (x : LArg)
 | ixs (size : Nat) (x i : LArg)
 | ixa (n size : Nat) (x i : LArg)
 | ext (i : Nat) (x : LArg)
 | f1 (off : Nat) (x : LArg)
 | fn (off n : Nat) (x : LArg)
 | len (x : LArg)
 | slen (x : LArg)
 | app (elem size bytes : Nat) (x y : LArg)
 | alloc (t : TypeId) (cs : List Value)
 | callF (f : FuncId) (p : Pth) (args : List LArg)
 | callV (g : LArg) (args : List LArg)
 | gen (o : Oper)
inductive LOps where
 | nil
 | cons (d : Option Pth) (o : LOp) (rest : LOps)
 | gcons (p : Pth) (w : Bool) (d : Option Pth) (o : LOp) (rest : LOps)
inductive LCode where
 | bad
 | skip
 | reg (ops : LOps)
 | drw (ops : LOps) (tab : List (Nat × Option Nat × Option (Pth × Bool) × LOp))
 | seq (a b : LCode)
 | cond (c : LArg) (x y : LCode)
 | block (id : Nat) (b : LCode)
 | loop (b : LCode)
 | exit (id : Nat)
 | ret
 | range (g : LArg) (ps : List Pth) (pp : List Pth) (params : Array Tmp) (assign body : Code) (a b : LCode)
inductive LRes where
 | t (p : Pth)
 | c1 (p : Pth)
 | cn (n : Nat) (p : Pth)
structure LFunc where
 ps : List Pth
 body : LCode
 res : List LRes
inductive LT where
 | e
 | n (g : Option LFunc) (l r : LT)
def a2h (p : Pth) : LT → Option LFunc := Pth.rec (motive := fun _ => LT → Option LFunc)
 (fun f => LT.rec (motive := fun _ => Option LFunc) none (fun v _ _ _ _ => v) f)
 (fun _ ih f => LT.rec (motive := fun _ => Option LFunc) none (fun _ l _ _ _ => ih l) f)
 (fun _ ih f => LT.rec (motive := fun _ => Option LFunc) none (fun _ _ r _ _ => ih r) f) p
def rT {α : Type} (v : LFunc) (p : Pth) : LT → (LT → α) → α := Pth.rec (motive := fun _ => LT → (LT → α) → α)
 (fun f K => LT.rec (motive := fun _ => α) (K (.n (some v) .e .e)) (fun _ l r _ _ => K (.n (some v) l r)) f)
 (fun _ ih f K => LT.rec (motive := fun _ => α) (ih .e fun l => K (.n none l .e)) (fun w l r _ _ => ih l fun l => K (.n w l r)) f)
 (fun _ ih f K => LT.rec (motive := fun _ => α) (ih .e fun r => K (.n none .e r)) (fun w l r _ _ => ih r fun r => K (.n w l r)) f) p
structure LEnv where
 L : Nat
 ps : List Pth
 pp : List Pth
 a : LCode
 b : LCode
def b9k (P : Program) (o : Oper) (ρ : Operand → Value) (H : Heap) : Option (Value × Heap) :=
 if o.op.operands.toList.all (fun x => flat (ρ x)) then
  match iL P (execOp ρ o) with
  | some (.value v) => if flat v then some (v, H) else none
  | _ => none
 else none
def c0R (P : Program) (o : Oper) (ρ : Operand → Value) (H : Heap) : Option (Value × Heap) :=
 let keep (v : Option Value) : Option (Value × Heap) := v.map fun v => (v, H)
 let plain : Option (Value × Heap) := b9k P o ρ H
 match o.op with
 | .move x | .assign x => some (ρ x, H)
 | .pick c a b => match ρ c with | .bool t => some (if t then ρ a else ρ b, H) | _ => none
 | .alloc t => (jB P t).bind fun z => if jC z then qE P H t z else none
 | .box t x => vW P H t (ρ x)
 | .build t parts =>
   let ps := parts.toList.map fun (i, x) => (i, ρ x)
   if (jB P t).any jC && ps.all (fun x => x.2.cells.toList.all oneCell) then
    (P.built t ps).map fun cs => (.agg cs, H)
   else none
 | .buildSlice t len parts =>
   (iJ P t).bind fun elem => (iE P elem).bind fun size => (jB P elem).bind fun z =>
   let ps := parts.toList.map fun (i, x) => (i, ρ x)
   if len == 0 && ps.isEmpty && size != 0 then some (.slice (some ⟨H.length, 0, some 0⟩) 0 size, rD H elem []) else
   if jC z && ps.all (fun x => x.2.cells.toList.all oneCell) && len * size ≤ 2 ^ 24 && len * size != 0 && z.cells.size == size then
    (Instr.fill (fun i => some (i * size, size)) ((Array.range (len * size)).map (z.cells[· % z.cells.size]!)) ps).map fun cs =>
      (.slice (some ⟨H.length, 0, some cs.toList.length⟩) len size, rD H elem cs.toList)
   else none
 | .makeSlice t n c =>
   (iJ P t).bind fun elem => (iE P elem).bind fun size => (nI P elem).bind fun bytes => (jB P elem).bind fun z =>
   match ρ n, ρ c with
   | .int .i64 a, .int .i64 b =>
     if jC z && decide (a ≤ b) && 0 ≤ a && b * (bytes + 1) ≤ (oO : Int) && size != 0 && z.cells.size == size then
      let cs := if size = 1 then List.replicate b.toNat (z.cells[0]!) else (madeCells z.cells (b.toNat * size)).toList
      some (.slice (some ⟨H.length, 0, some cs.length⟩) a.toNat size, rD H elem cs)
     else none
   | _, _ => none
 | .load t a => keep (lQ P H t (ρ a))
 | .store t a x => (qM P H t (ρ a) (ρ x)).map fun H => (undef, H)
 | .nilCheck x => match ρ x with
   | .pointer (some a) => some (.pointer (some a), H)
   | .func (.func f) a b => some (.func (.func f) a b, H)
   | _ => none
 | .fieldAddr s x f => match ρ x with
   | .pointer (some ⟨A, i, some e⟩) => (oF P s f).bind fun fd => (iE P fd.type).bind fun n => if n == 0 then none else some (.pointer (some ⟨A, i + fd.offset, some e⟩), H)
   | _ => none
 | .indexAddr t x ix => match P.underlying t, ρ x, ρ ix with
   | some (.slice elem), .slice (some ⟨A, i, some e⟩) n _, .int _ j => (iE P elem).bind fun size =>
     if 0 ≤ j && j < n then some (.pointer (some ⟨A, i + j.toNat * size, some e⟩), H) else none
   | some (.array n elem), .pointer (some ⟨A, i, some e⟩), .int _ j => (iE P elem).bind fun size =>
     if 0 ≤ j && j < n then some (.pointer (some ⟨A, i + j.toNat * size, some e⟩), H) else none
   | some (.array n elem), .pointer (some ⟨A, i, none⟩), .int _ j => (iE P elem).bind fun size =>
     if 0 ≤ j && j < n then some (.pointer (some ⟨A, i + j.toNat * size, none⟩), H) else none
   | _, _, _ => none
 | .slice t x lo hi none => if flat (ρ x) then plain else match jQ P t with
   | some (n, elem) => keep (a5k P H n elem (ρ x) (lo.map ρ) (hi.map ρ))
   | none => keep (wE P t (ρ x) (lo.map ρ) (hi.map ρ))
 | .field t x f => if flat (ρ x) then plain else
   match ρ x with
   | .agg cs => (oF P t f).bind fun fd => match jO P fd.type with
     | some true => (iE P fd.type).map fun n => (.agg (cs.extract fd.offset (fd.offset + n)), H)
     | some false => (cs[fd.offset]?).map fun v => (v, H)
     | none => none
   | _ => none
 | .extract t i => match ρ t with
   | .tuple vs => (vs[i]?).map fun v => (v, H)
   | _ => none
 | .makeFunc fn first captured => match fn with
   | .func f => if (first ++ captured).toList.all (fun x => pK (ρ x)) then some (.func (.func f) (first.map ρ) (captured.map ρ), H) else none
   | _ => none
 | .binOp op t x y _ => match op, ρ x, ρ y with
   | .eql, .slice (some _) _ _, .slice none 0 0 => if ((P.underlying t).map uO) == some true then some (.bool false, H) else none
   | .neq, .slice (some _) _ _, .slice none 0 0 => if ((P.underlying t).map uO) == some true then some (.bool true, H) else none
   | op, .int k a, .int k' b => if k = k' then (match mL op k a b with | some v => some (v, H) | none => plain) else plain
   | .eql, .pointer (some _), .pointer none => if sY P t then some (.bool false, H) else none
   | .neq, .pointer (some _), .pointer none => if sY P t then some (.bool true, H) else none
   | .eql, .pointer (some ⟨A, i, some e⟩), .pointer (some ⟨A', i', some e'⟩) => if sY P t && A == A' && i == i' && e == e' then some (.bool true, H) else none
   | .neq, .pointer (some ⟨A, i, some e⟩), .pointer (some ⟨A', i', some e'⟩) => if sY P t && A == A' && i == i' && e == e' then some (.bool false, H) else none
   | _, _, _ => plain
 | .call c => match c.callee with
   | .builtin .len => if c.args.size == 1 && c.argTypes.size == 1 then
      match (P.underlying (c.argTypes.getD 0 0)), ρ (c.args.getD 0 (.tmp 0)) with
      | some (.slice _), .slice a n k => keep (wD H (.slice a n k))
      | some .string, .string s => keep (wD H (.string s))
      | some (.map _ _), .map r => keep (wD H (.map r))
      | _, _ => none
     else none
   | .builtin .append => if c.args.size == 2 && c.argTypes.size == 2 && ((P.underlying (c.argTypes.getD 1 0)).map pL) == some true then
      nH P H (c.argTypes.getD 0 0) (ρ (c.args.getD 0 (.tmp 0))) (ρ (c.args.getD 1 (.tmp 0)))
     else none
   | .builtin .copy => if c.args.size == 2 && c.argTypes.size == 2 then a0E P H (c.argTypes.getD 0 0) (ρ (c.args.getD 0 (.tmp 0))) (ρ (c.args.getD 1 (.tmp 0))) else none
   | .builtin .clear => if c.args.size == 1 && c.argTypes.size == 1 then sO P H (c.argTypes.getD 0 0) (ρ (c.args.getD 0 (.tmp 0))) else none
   | .builtin .cap => plain
   | .builtin .unsafeSliceData => if c.args.size == 1 && c.argTypes.size == 1 then match ρ (c.args.getD 0 (.tmp 0)) with
      | .slice (some a) n _ => if n == 0 then none else some (.pointer (some a), H)
      | _ => none
     else none
   | .builtin .unsafeString => if c.args.size == 2 && c.argTypes.size == 2 then uQ P H (c.argTypes.getD 0 0) (ρ (c.args.getD 0 (.tmp 0))) (ρ (c.args.getD 1 (.tmp 0))) else none
   | .builtin .max => plain
   | .builtin .min => plain
   | _ => none
 | .unOp op _ x => match op, ρ x with
   | .not, .bool b => some (.bool (!b), H)
   | _, _ => plain
 | .makeMap t r => pH P H t (r.map ρ)
 | .lookup t x k c => keep (pA P H t (ρ x) (ρ k) c)
 | .mapUpdate t m k v => (a0W P H t (ρ m) (ρ k) (ρ v)).map fun H => (undef, H)
 | .mapEntry t m k => sC P H t (ρ m) (ρ k)
 | .entryStore _ m b v => (rI H (ρ m) (ρ b) (ρ v)).map fun H => (undef, H)
 | .convert s t x => if flat (ρ x) && !(kT P t) then plain else match ρ x with
   | .slice (some ⟨A, i, some e⟩) n _ => if kT P s && nR P t then keep ((jA H A i e n).bind fun l => (mC l).map .string) else none
   | .string b => if kT P t && nR P s && b.size ≤ 2 ^ 40 then (iJ P t).bind fun elem => some (.slice (some ⟨H.length, 0, some b.size⟩) b.size 1, b7i H elem (b.data.toList.map fun c => .int .u8 c.toNat)) else none
   | .pointer (some ⟨A, 0, some e⟩) => if a3z P H s t A e then some (.pointer (some ⟨A, 0, some e⟩), H) else none
   | _ => none
 | .index _ _ _ => plain
 | .makeInterface _ _ => plain
 | _ => none
def nS {α : Type} (b : Bool) (no : α) (x : α) : α := Bool.rec (motive := fun _ => α) no x b
def a7Q {α : Type} (cs : List α) : Nat → Bool := List.rec (motive := fun _ => Nat → Bool) (fun e => Nat.beq e 0) (fun _ _ ih e => Nat.rec (motive := fun _ => Bool) true (fun m _ => ih m) e) cs
def a3R {α : Type} (cs : List α) : Nat → Bool := List.rec (motive := fun _ => Nat → Bool) (fun e => Nat.beq e 0) (fun _ _ ih e => Nat.rec (motive := fun _ => Bool) false (fun m _ => ih m) e) cs
def a1b {α : Type} (cs : List α) : Nat → Option α := List.rec (motive := fun _ => Nat → Option α) (fun _ => none) (fun v _ ih e => Nat.rec (motive := fun _ => Option α) (some v) (fun m _ => ih m) e) cs
def a2S {α : Type} (cs : List α) : Nat → (List α → Rs) → Rs := List.rec (motive := fun _ => Nat → (List α → Rs) → Rs) (fun n K => Nat.rec (motive := fun _ => Rs) (K []) (fun _ _ => .no) n) (fun v _ ih n K => Nat.rec (motive := fun _ => Rs) (K []) (fun m _ => ih m fun l => K (v :: l)) n) cs
def b1t {α : Type} (cs : List α) : Nat → List α := List.rec (motive := fun _ => Nat → List α) (fun _ => []) (fun v t ih n => Nat.rec (motive := fun _ => List α) (v :: t) (fun m _ => ih m) n) cs
def kIx (k : IntKind) : Nat := IntKind.rec (motive := fun _ => Nat) 0 1 2 3 4 5 6 7 k
def hMv (x : LArg) (f : Fr) (H : Heap) : Rs := oK (mJ f x) fun v => .ok v H
def b6L (c a b : LArg) (f : Fr) (H : Heap) : Rs := match mJ f c with
 | .bool t => oK (mJ f (Bool.rec (motive := fun _ => LArg) b a t)) fun v => .ok v H
 | _ => .no
def oV (v : Option Value) (H : Heap) : Rs := Option.rec (motive := fun _ => Rs) .no (fun v => .th v H) v
def c0p (g : IntKind → Int → Int → Option Value) (k : IntKind) (a : Int) (H : Heap) (y : Value) : Rs := match y with
 | .int k' b => nS (Nat.beq (kIx k) (kIx k')) .no (oV (g k a b) H)
 | _ => .no
def c0S (g : IntKind → Int → Int → Option Value) (x y : LArg) (f : Fr) (H : Heap) : Rs := match mJ f x with
 | .int k a => c0p g k a H (mJ f y)
 | _ => .no
def c6n (x : LArg) (f : Fr) (H : Heap) : Rs := match mJ f x with
 | .bool b => .ok (.bool (Bool.rec (motive := fun _ => Bool) true false b)) H
 | _ => .no
def b9Q (b : Option Blk) (i e : Nat) (H : Heap) : Rs := match b with
 | some (.cells cs _ _ lo _) => nS (Nat.ble lo e) .no (nS (a7Q cs e) .no (nS (Nat.ble (Nat.succ i) e) .no (Option.rec (motive := fun _ => Rs) .no (fun v => oK v fun v => .ok v H) (a1b cs i))))
 | _ => .no
def c2F (b : Option Blk) (i : Nat) (H : Heap) : Rs := match b with
 | some (.cells cs _ false lo 1) => nS (a7Q cs lo) .no (Option.rec (motive := fun _ => Rs) .no (fun v => oK v fun v => .ok v H) (a1b cs i))
 | _ => .no
def b3U (x : LArg) (f : Fr) (H : Heap) : Rs := match mJ f x with
 | .pointer (some ⟨A, i, some e⟩) => b9Q (iQ H A) i e H
 | .pointer (some ⟨A, i, none⟩) => c2F (iQ H A) i H
 | _ => .no
def b9P (b : Option Blk) (n i e : Nat) (H : Heap) : Rs := match b with
 | some (.cells cs _ _ lo _) => nS (Nat.ble lo e) .no (nS (a7Q cs e) .no (nS (Nat.ble (Nat.add i n) e) .no (a2S (b1t cs i) n fun l => .ok (.agg ⟨l⟩) H)))
 | _ => .no
def b2O (n : Nat) (x : LArg) (f : Fr) (H : Heap) : Rs := match mJ f x with
 | .pointer (some ⟨A, i, some e⟩) => b9P (iQ H A) n i e H
 | _ => .no
def stB (b : Option Blk) (n A i e : Nat) (vs : List Value) (H : Heap) : Rs := match b with
 | some (.cells cs ty true lo ver) => nS (a3R vs n) .no (nS (vs.all oneCell) .no (nS (a3R cs e) .no (nS (Nat.ble (Nat.add i n) e) .no (nS (Nat.ble lo e) .no
    (.th undef (hset H A (.cells (iX cs i vs) ty true e ver)))))))
 | _ => .no
def hSt (n : Nat) (x y : LArg) (f : Fr) (H : Heap) : Rs := match mJ f x with
 | .pointer (some ⟨A, i, some e⟩) => stB (iQ H A) n A i e (mJ f y).cells.toList H
 | _ => .no
def hFa (off : Nat) (x : LArg) (f : Fr) (H : Heap) : Rs := match mJ f x with
 | .pointer (some ⟨A, i, some e⟩) => kD (Nat.add i off) fun i => .ok (.pointer (some ⟨A, i, some e⟩)) H
 | _ => .no
def ixP (A i e size n : Nat) (H : Heap) (j : Value) : Rs := match j with
 | .int _ (.ofNat j) => nS (Nat.blt j n) .no (kD (Nat.add i (Nat.mul j size)) fun i => .ok (.pointer (some ⟨A, i, some e⟩)) H)
 | _ => .no
def c1g (size : Nat) (x i : LArg) (f : Fr) (H : Heap) : Rs := match mJ f x with
 | .slice (some ⟨A, a, some e⟩) n _ => ixP A a e size n H (mJ f i)
 | _ => .no
def ixG (A i size n : Nat) (H : Heap) (j : Value) : Rs := match j with
 | .int _ (.ofNat j) => nS (Nat.blt j n) .no (kD (Nat.add i (Nat.mul j size)) fun i => .ok (.pointer (some ⟨A, i, none⟩)) H)
 | _ => .no
def c2M (n size : Nat) (x i : LArg) (f : Fr) (H : Heap) : Rs := match mJ f x with
 | .pointer (some ⟨A, a, some e⟩) => ixP A a e size n H (mJ f i)
 | .pointer (some ⟨A, a, none⟩) => ixG A a size n H (mJ f i)
 | _ => .no
def okV (v : Option Value) (H : Heap) : Rs := Option.rec (motive := fun _ => Rs) .no (fun v => oK v fun v => .ok v H) v
def c1A (i : Nat) (x : LArg) (f : Fr) (H : Heap) : Rs := match mJ f x with
 | .tuple ⟨vs⟩ => okV (a1b vs i) H
 | _ => .no
def hF1 (off : Nat) (x : LArg) (f : Fr) (H : Heap) : Rs := match mJ f x with
 | .agg ⟨cs⟩ => okV (a1b cs off) H
 | _ => .no
def hFn (off n : Nat) (x : LArg) (f : Fr) (H : Heap) : Rs := match mJ f x with
 | .agg ⟨cs⟩ => a2S (b1t cs off) n fun l => .ok (.agg ⟨l⟩) H
 | _ => .no
def c1O (x : LArg) (f : Fr) (H : Heap) : Rs := match mJ f x with
 | .slice _ n _ => .th (goInt n) H
 | _ => .no
def b5a (x : LArg) (f : Fr) (H : Heap) : Rs := match mJ f x with
 | .string s => .th (goInt s.size) H
 | _ => .no
def c3l (b : Option Blk) (elem size bytes A i e k : Nat) (n : Nat) (l : List Value) (P : Program) (H : Heap) : Rs := match b with
 | some (.cells cs ty true lo ver) => nS (Bool.rec (motive := fun _ => Bool) (iE P ty == some size) true (Nat.beq ty elem)) .no (nS (a3R cs e) .no (nS (Nat.ble lo e) .no
    (nS (Nat.beq (Nat.add i (Nat.mul k size)) e)
      (nS (Nat.beq n 0) (nS (Nat.ble (Nat.add i (Nat.mul (Nat.add k n) size)) e) .no (.th (.slice (some ⟨A, i, some e⟩) (k + n) size) (hset H A (.cells (iX cs (i + k * size) l) ty true e ver)))) .no)
      (nS (Nat.ble (Nat.mul (Nat.add k n) (Nat.succ bytes)) oO) .no (.th (.slice (some ⟨A, i, some (e + l.length)⟩) (k + n) size) (hset H A (.cells (a4O cs l) ty true lo (Bool.rec (motive := fun _ => Nat) 2 ver (Nat.beq ty elem)))))))))
 | _ => .no
def c4K (P : Program) (elem size bytes : Nat) (s : Value) (H : Heap) (n : Nat) (l : List Value) : Rs := match s with
 | .slice none k c => nS (Nat.beq k 0) .no (nS (Nat.beq c 0) .no (nS (Nat.ble (Nat.mul n (Nat.succ bytes)) oO) .no (nS (Nat.beq n 0) (.th (.slice (some ⟨H.length, 0, some l.length⟩) n size) (rD H elem l)) (.ok (.slice none 0 0) H))))
 | .slice (some ⟨A, i, some e⟩) k _ => c3l (iQ H A) elem size bytes A i e k n l P H
 | _ => .no
def c2Q (P : Program) (elem size bytes : Nat) (x y : LArg) (f : Fr) (H : Heap) : Rs := match zB H size (mJ f y) with
 | some (n, l) => c4K P elem size bytes (mJ f x) H n l
 | none => .no
def c1I (t : TypeId) (cs : List Value) (_ : Fr) (H : Heap) : Rs := .th (.pointer (some ⟨H.length, 0, some cs.length⟩)) (rD H t cs)
def evF (f : Fr) : Operand → Value
 | .tmp t => nU (kR t) f
 | .const v => v
 | .global g => .pointer (some ⟨g, 0, none⟩)
 | .func k => .func (.func k) #[] #[]
def c6k (P : Program) (o : Oper) (f : Fr) (H : Heap) : Rs := match c0R P o (evF f) H with
 | some (v, H1) => .th v H1
 | none => .no
def a3u {α : Type} (f : Fr) (l : List LArg) : (List Value → α) → α := List.rec (motive := fun _ => (List Value → α) → α) (fun K => K []) (fun x _ ih K => oK (mJ f x) fun v => ih fun l => K (v :: l)) l
structure Calls' where
 fn : Pth → FuncId → List Value → Heap → Rs
 rd : Nat → List Value → Heap → Rs
def c2N (C : Calls') (k : FuncId) (p : Pth) (args : List LArg) (f : Fr) (H : Heap) : Rs := a3u f args fun l => C.fn p k l H
def a9P (C : Calls') (l : List Value) (H : Heap) (g : Value) : Rs := match g with
 | .func (.func k) ⟨a⟩ ⟨b⟩ => kD k fun k => lM (kR k) fun p => C.fn p k (a4O a (a4O l b)) H
 | .func (.yield L) _ _ => C.rd L l H
 | _ => .no
def c2C (C : Calls') (g : LArg) (args : List LArg) (f : Fr) (H : Heap) : Rs := a3u f args fun l => a9P C l H (mJ f g)
def c6d (_ : Fr) (_ : Heap) : Rs := .no
def opF (P : Program) (C : Calls') (o : LOp) : Fr → Heap → Rs :=
 LOp.rec (motive := fun _ => Fr → Heap → Rs) c6d hMv b6L c0S c6n b3U b2O hSt hFa c1g c2M c1A hF1 hFn c1O b5a (c2Q P) c1I (c2N C) (c2C C) (c6k P) o
inductive Rf where
 | no
 | ok (f : Fr) (H : Heap)
def tR {α : Type} (d : Option Pth) (v : Value) (f : Fr) (K : Fr → α) : α := Option.rec (motive := fun _ => α) (K f) (fun p => pM v p f K) d
def b0W {α : Type} (no : α) (d : Option Pth) (f : Fr) (K : Fr → Heap → α) (r : Rs) : α :=
 Rs.rec (motive := fun _ => α) no (fun v H => tR d v f fun f => K f H) (fun v H => yX v fun v => nK H fun H => tR d v f fun f => K f H) r
def isB (v : Value) (w : Bool) : Bool := match v with
 | .bool b => Bool.rec (motive := fun _ => Bool) (Bool.rec (motive := fun _ => Bool) true false w) w b
 | _ => false
def wY (P : Program) (C : Calls') (ops : LOps) : Fr → Heap → Rf := LOps.rec (motive := fun _ => Fr → Heap → Rf)
 (fun f H => .ok f H)
 (fun d o _ ih f H => b0W .no d f ih (opF P C o f H))
 (fun p w d o _ ih f H => nS (isB (nU p f) w) (tR d undef f fun f => ih f H) (b0W .no d f ih (opF P C o f H))) ops
inductive Rt where
 | no
 | ok (tr : List (Fr × Heap × Value)) (f : Fr) (H : Heap)
def b0U (tr : List (Fr × Heap × Value)) (f0 : Fr) (H0 : Heap) (d : Option Pth) (K : List (Fr × Heap × Value) → Fr → Heap → Rt) (r : Rs) : Rt :=
 Rs.rec (motive := fun _ => Rt) .no (fun v H => tR d v f0 fun f => K ((f0, H0, v) :: tr) f H) (fun v H => yX v fun v => nK H fun H => tR d v f0 fun f => K ((f0, H0, v) :: tr) f H) r
def qX (P : Program) (C : Calls') (ops : LOps) : List (Fr × Heap × Value) → Fr → Heap → Rt := LOps.rec (motive := fun _ => List (Fr × Heap × Value) → Fr → Heap → Rt)
 (fun tr f H => .ok tr f H)
 (fun d o _ ih tr f H => b0U tr f H d ih (opF P C o f H))
 (fun p w d o _ ih tr f H => nS (isB (nU p f) w) (tR d undef f fun f1 => ih ((f, H, undef) :: tr) f1 H) (b0U tr f H d ih (opF P C o f H))) ops
def b8s (v : Value) (r : Rs) : Bool := Rs.rec (motive := fun _ => Bool) false (fun w _ => veq w v) (fun w _ => veq w v) r
def b4X (f : Fr) (g : Option (Pth × Bool)) : Bool := match g with
 | none => true
 | some (p, w) => isB (nU p f) w
def b5B (P : Program) (C : Calls') (tr : List (Fr × Heap × Value)) (H1 : Heap) (x : Nat × Option Nat × Option (Pth × Bool) × LOp) : Bool :=
 match a1b tr x.1 with
 | some (f, _, v) => nS (b4X f x.2.2.1) true (match x.2.1 with
   | none => b8s v (opF P C x.2.2.2 f H1)
   | some m => match a1b tr m with
     | some (_, H, _) => b8s v (opF P C x.2.2.2 f H)
     | none => false)
 | none => false
def b4n {α : Type} (p : α → Bool) (l : List α) : Bool := List.rec (motive := fun _ => Bool) true (fun x _ ih => nS (p x) false ih) l
inductive Rc where
 | no
 | ok (e : Ex) (f : Fr) (H : Heap)
def c3M (r : Rf) : Rc := Rf.rec (motive := fun _ => Rc) .no (fun f H => .ok .normal f H) r
def c0K (P : Program) (C : Calls') (tab : List (Nat × Option Nat × Option (Pth × Bool) × LOp)) (r : Rt) : Rc := Rt.rec (motive := fun _ => Rc) .no (fun tr f H => nS (b4n (b5B P C tr H) tab) .no (.ok .normal f H)) r
def oU {α : Type} (no : α) (l : List Value) : List Pth → Fr → (Fr → α) → α := List.rec (motive := fun _ => List Pth → Fr → (Fr → α) → α) (fun _ f K => K f)
 (fun v _ ih ps f K => List.rec (motive := fun _ => α) no (fun p ps _ => pM v p f fun f => ih ps f K) ps) l
def a4h (H : Heap) (f : Fr) (r : LRes) : Rs := LRes.rec (motive := fun _ => Rs) (fun p => oK (nU p f) fun v => .ok v H) (fun p => b3U (.t p) f H) (fun n p => b2O n (.t p) f H) r
def b4U (H : Heap) (f : Fr) (l : List LRes) : (List Value → Rs) → Rs := List.rec (motive := fun _ => (List Value → Rs) → Rs) (fun K => K []) (fun r _ ih K => Rs.rec (motive := fun _ => Rs) .no (fun v _ => ih fun l => K (v :: l)) (fun _ _ => .no) (a4h H f r)) l
def noT (v : Value) : Bool := match v with | .tuple _ => false | _ => true
def a6y (l : List LRes) (f : Fr) (H : Heap) : Rs := match l with
 | [r] => a4h H f r
 | l => b4U H f l fun vs => nS (b4n noT vs) .no (.ok (.tuple ⟨vs⟩) H)
def c2d (l : List LRes) (r : Rc) : Rs := match r with
 | .ok .normal f H => a6y l f H
 | .ok .ret f H => a6y l f H
 | _ => .no
abbrev pU := List LEnv → LCode → Fr → Heap → Rc
def c1l (P : Program) (k : FuncId) (args : List Value) (H : Heap) : Rs := match pP P k args H with
 | some (v, H1) => .th v H1
 | none => .no
def mU (T : LT) (ih : pU) (E : List LEnv) (p : Pth) (args : List Value) (H : Heap) : Rs := match a2h p T with
 | some g => oU .no args g.ps .e fun f => c2d g.res (ih E g.body f H)
 | none => .no
def b7o (P : Program) (T : LT) (ih : pU) (E : List LEnv) (p : Pth) (k : FuncId) (args : List Value) (H : Heap) : Rs := match a2h p T with
 | some g => oU .no args g.ps .e fun f => c2d g.res (ih E g.body f H)
 | none => c1l P k args H
def b7t (E : List LEnv) (L : Nat) : Option LEnv := List.rec (motive := fun _ => Option LEnv) none (fun e _ ih => nS (Nat.beq e.L L) ih (some e)) E
def c0i (e : Ex) : Option Code := match e with | .normal => none | .ret => some .ret | .exit id => some (.exit id)
def a2y (L : Nat) (e : Ex) (H : Heap) : Rs := match iQ H L with
 | some (.loop ⟨_, _, fn, tmps, ps, a, b, d⟩) => match c0i e with
   | none => .th (.bool true) (hset H L (.loop ⟨.ready, none, fn, tmps, ps, a, b, d⟩))
   | some c => .th (.bool false) (hset H L (.loop ⟨.done, some c, fn, tmps, ps, a, b, d⟩))
 | _ => .no
def b2g (L : Nat) (r : Rc) : Rs := match r with
 | .ok e _ H => a2y L e H
 | .no => .no
def zC (ih : pU) (E : List LEnv) (en : LEnv) (f : Fr) (H : Heap) : Rs := match iQ H en.L with
 | some (.loop ⟨.ready, p, fn, tmps, ps, a, b, d⟩) => nK (hset H en.L (.loop ⟨.busy, p, fn, tmps, ps, a, b, d⟩)) fun H => b2g en.L (ih E en.b f H)
 | _ => .no
def sW (ih : pU) (E : List LEnv) (en : LEnv) (r : Rc) : Rs := match r with
 | .ok .normal f H => zC ih E en f H
 | _ => .no
def a9M (ih : pU) (E : List LEnv) (L : Nat) (args : List Value) (H : Heap) : Rs := match b7t E L with
 | some en => match iQ H L with
   | some (.loop ⟨.ready, _, _, ⟨tmps⟩, ps, _, _, _⟩) => nS (a3R args ps.size) .no (oU .no tmps en.ps .e fun f => oU .no args en.pp f fun f => sW ih E en (ih E en.a f H))
   | _ => .no
 | none => .no
def a0l (P : Program) (T : LT) (ih : pU) (E : List LEnv) : Calls' := ⟨b7o P T ih E, a9M ih E⟩
def c6F (_ : Fr) (_ : Heap) : Rc := .no
def c4i (f : Fr) (H : Heap) : Rc := .ok .normal f H
def c5K (P : Program) (T : LT) (ih : pU) (E : List LEnv) (ops : LOps) (f : Fr) (H : Heap) : Rc := c3M (wY P (a0l P T ih E) ops f H)
def c6l (P : Program) (T : LT) (ih : pU) (E : List LEnv) (ops : LOps) (tab : List (Nat × Option Nat × Option (Pth × Bool) × LOp)) (f : Fr) (H : Heap) : Rc := c0K P (a0l P T ih E) tab (qX P (a0l P T ih E) ops [] f H)
def b8S (ih : pU) (E : List LEnv) (b : LCode) (r : Rc) : Rc := match r with
 | .ok .normal f H => ih E b f H
 | r => r
def c5N (ih : pU) (E : List LEnv) (a b : LCode) (_ _ : Fr → Heap → Rc) (f : Fr) (H : Heap) : Rc := b8S ih E b (ih E a f H)
def b4Q (ih : pU) (E : List LEnv) (c : LArg) (x y : LCode) (_ _ : Fr → Heap → Rc) (f : Fr) (H : Heap) : Rc := match mJ f c with
 | .bool t => ih E (Bool.rec (motive := fun _ => LCode) y x t) f H
 | _ => .no
def c3p (id : Nat) (r : Rc) : Rc := match r with
 | .ok (.exit i) f H => .ok (Bool.rec (motive := fun _ => Ex) (.exit i) .normal (Nat.beq i id)) f H
 | r => r
def c1T (ih : pU) (E : List LEnv) (id : Nat) (b : LCode) (_ : Fr → Heap → Rc) (f : Fr) (H : Heap) : Rc := c3p id (ih E b f H)
def c3A (ih : pU) (E : List LEnv) (b : LCode) (_ : Fr → Heap → Rc) (f : Fr) (H : Heap) : Rc := b8S ih E (.loop b) (ih E b f H)
def c4Z (id : Nat) (f : Fr) (H : Heap) : Rc := .ok (.exit id) f H
def c5Q (f : Fr) (H : Heap) : Rc := .ok .ret f H
def frL {α : Type} (f : Fr) (ps : List Pth) : (List Value → α) → α := List.rec (motive := fun _ => (List Value → α) → α) (fun K => K []) (fun p _ ih K => oK (nU p f) fun v => ih fun l => K (v :: l)) ps
def uN (L : Nat) (f : Fr) (H : Heap) : Rc := match iQ H L with
 | some (.loop ⟨.ready, none, fn, tmps, ps, a, b, d⟩) => nK (hset H L (.loop ⟨.exhausted, none, fn, tmps, ps, a, b, d⟩)) fun H => .ok .normal f H
 | some (.loop ⟨.done, none, fn, tmps, ps, a, b, d⟩) => nK (hset H L (.loop ⟨.exhausted, none, fn, tmps, ps, a, b, d⟩)) fun H => .ok .normal f H
 | some (.loop ⟨.done, some .ret, fn, tmps, ps, a, b, d⟩) => nK (hset H L (.loop ⟨.exhausted, some .ret, fn, tmps, ps, a, b, d⟩)) fun H => .ok .ret f H
 | some (.loop ⟨.done, some (.exit id), fn, tmps, ps, a, b, d⟩) => nK (hset H L (.loop ⟨.exhausted, some (.exit id), fn, tmps, ps, a, b, d⟩)) fun H => .ok (.exit id) f H
 | _ => .no
def b1P (L : Nat) (f : Fr) (r : Rs) : Rc := match r with
 | .no => .no
 | .ok _ H => uN L f H
 | .th _ H => nK H fun H => uN L f H
def b1E (T : LT) (ih : pU) (E : List LEnv) (f : Fr) (L : Nat) (k : FuncId) (args : List Value) (H : Heap) : Rc := lM (kR k) fun p => b1P L f (mU T ih E p args H)
def a9Z (T : LT) (ih : pU) (E : List LEnv) (g : LArg) (ps pp : List Pth) (params : Array Tmp) (assign body : Code) (a b : LCode) (_ _ : Fr → Heap → Rc) (f : Fr) (H : Heap) : Rc := match mJ f g with
 | .func (.func k) ⟨x⟩ ⟨y⟩ => kD H.length fun L => frL f ps fun l => nK (H.cons (.loop ⟨.ready, none, 0, ⟨l⟩, params, assign, body, 0⟩)) fun H1 =>
    kD k fun k => b1E T ih (⟨L, ps, pp, a, b⟩ :: E) f L k (a4O x (.func (.yield L) #[] #[] :: y)) H1
 | _ => .no
def b1A (P : Program) (T : LT) (ih : pU) (E : List LEnv) (c : LCode) : Fr → Heap → Rc :=
 LCode.rec (motive := fun _ => Fr → Heap → Rc) c6F c4i (c5K P T ih E) (c6l P T ih E) (c5N ih E) (b4Q ih E) (c1T ih E) (c3A ih E) c4Z c5Q (a9Z T ih E) c
def exF (P : Program) (T : LT) (n : Nat) : pU := Nat.rec (motive := fun _ => pU) (fun _ _ _ _ => .no) (fun _ ih => b1A P T ih) n
section
variable {α : Type}
def lR (x : Operand) (K : LArg → α) : α := match x with
 | .tmp t => lM (kR t) fun p => K (.t p)
 | .const v => K (.c v)
 | .global g => K (.c (.pointer (some ⟨g, 0, none⟩)))
 | .func k => K (.c (.func (.func k) #[] #[]))
def a5y (l : List Operand) : (List LArg → α) → α := List.rec (motive := fun _ => (List LArg → α) → α) (fun K => K []) (fun x _ ih K => lR x fun x => ih fun l => K (x :: l)) l
def a3e (o : Option Nat) (d : α) (K : Nat → α) : α := match o with
 | some n => kD n K
 | none => d
def c5X (k : IntKind) (a b : Int) : Option Value := some (.int k (vM k (b9X a b)))
def c6r (k : IntKind) (a b : Int) : Option Value := some (.int k (vM k (b9i a b)))
def c4g (a b : Int) : Int := match a, b with
 | .ofNat a, .ofNat b => .ofNat (Nat.mul a b)
 | a, b => a * b
def c4V (k : IntKind) (a b : Int) : Option Value := some (.int k (vM k (c4g a b)))
def c3k (a b : Int) : Int := match a, b with
 | .ofNat a, .ofNat b => .ofNat (Nat.div a b)
 | a, b => a.tdiv b
def c3o (a b : Int) : Int := match a, b with
 | .ofNat a, .ofNat b => .ofNat (Nat.mod a b)
 | a, b => a.tmod b
def b7Y (k : IntKind) (a b : Int) : Option Value := match eqI b 0 with | true => none | false => some (.int k (vM k (c3k a b)))
def b8w (k : IntKind) (a b : Int) : Option Value := match eqI b 0 with | true => none | false => some (.int k (c3o a b))
def c5P (_ : IntKind) (a b : Int) : Option Value := some (.bool (eqI a b))
def c6g (_ : IntKind) (a b : Int) : Option Value := some (.bool (!eqI a b))
def c6o (_ : IntKind) (a b : Int) : Option Value := some (.bool (ltI a b))
def c5H (_ : IntKind) (a b : Int) : Option Value := some (.bool (!ltI b a))
def c5M (_ : IntKind) (a b : Int) : Option Value := some (.bool (ltI b a))
def c6u (_ : IntKind) (a b : Int) : Option Value := some (.bool (!ltI a b))
def b7E (op : BinOp) : Option (IntKind → Int → Int → Option Value) := match op with
 | .add => some c5X
 | .sub => some c6r
 | .mul => some c4V
 | .quo => some b7Y
 | .rem => some b8w
 | .eql => some c5P
 | .neq => some c6g
 | .lss => some c6o
 | .leq => some c5H
 | .gtr => some c5M
 | .geq => some c6u
 | _ => none
def c2A (d : Option TypeDesc) : Bool := match d with | some (.int _) => true | _ => false
def c6Q (P : Program) (s : TypeId) (f : Nat) (d : α) (K1 : Nat → α) (Kn : Nat → Nat → α) : α := match oF P s f with
 | some fd => kD fd.offset fun off => match jO P fd.type with
   | some true => a3e (iE P fd.type) d fun n => Kn off n
   | some false => K1 off
   | none => d
 | none => d
def b6n (P : Program) (o : Oper) (c : Call) (K : LOp → α) : α := match c.callee with
 | .value (.func k) => lM (kR k) fun p => a5y c.args.toList fun l => K (.callF k p l)
 | .value g => lR g fun g => a5y c.args.toList fun l => K (.callV g l)
 | .builtin .len => nS (c.args.size == 1 && c.argTypes.size == 1) (K (.gen o)) (match P.underlying (c.argTypes.getD 0 0) with
    | some (.slice _) => lR (c.args.getD 0 (.tmp 0)) fun x => K (.len x)
    | some .string => lR (c.args.getD 0 (.tmp 0)) fun x => K (.slen x)
    | _ => K (.gen o))
 | .builtin .append => nS (c.args.size == 2 && c.argTypes.size == 2 && ((P.underlying (c.argTypes.getD 1 0)).map pL) == some true) (K (.gen o))
    (match iJ P (c.argTypes.getD 0 0) with
     | some elem => a3e (iE P elem) (K (.gen o)) fun size => a3e (nI P elem) (K (.gen o)) fun bytes => match jB P elem with
       | some z => nS (z.cells.size == size && size != 0) (K (.gen o)) (kD elem fun elem => lR (c.args.getD 0 (.tmp 0)) fun x => lR (c.args.getD 1 (.tmp 0)) fun y => K (.app elem size bytes x y))
       | none => K (.gen o)
     | none => K (.gen o))
 | _ => K (.gen o)
def c3S (P : Program) (o : Oper) (K : LOp → α) : α := match o.op with
 | .move x => lR x fun x => K (.mv x)
 | .assign x => lR x fun x => K (.mv x)
 | .pick c a b => lR c fun c => lR a fun a => lR b fun b => K (.pick c a b)
 | .binOp op t x y _ => nS (c2A (P.underlying t)) (K (.gen o)) (match b7E op with
   | some g => lR x fun x => lR y fun y => K (.bin g x y)
   | none => K (.gen o))
 | .load t x => match jO P t with
   | some true => a3e (iE P t) (K (.gen o)) fun n => lR x fun x => K (.ldn n x)
   | some false => lR x fun x => K (.ld1 x)
   | none => K (.gen o)
 | .store t x y => a3e (iE P t) (K (.gen o)) fun n => lR x fun x => lR y fun y => K (.st n x y)
 | .fieldAddr s x f => match oF P s f with
   | some fd => match iE P fd.type with
     | some 0 => K (.gen o)
     | some _ => kD fd.offset fun off => lR x fun x => K (.fa off x)
     | none => K (.gen o)
   | none => K (.gen o)
 | .indexAddr t x i => match P.underlying t with
   | some (.slice elem) => a3e (iE P elem) (K (.gen o)) fun size => lR x fun x => lR i fun i => K (.ixs size x i)
   | some (.array n elem) => a3e (iE P elem) (K (.gen o)) fun size => lR x fun x => lR i fun i => K (.ixa n size x i)
   | _ => K (.gen o)
 | .extract t i => kD i fun i => lR t fun t => K (.ext i t)
 | .call c => b6n P o c K
 | _ => K (.gen o)
def xW (P : Program) (o : Oper) (K : LOp → α) : α := nS (o.op.operands.toList.all iO) (K .bad) (c3S P o K)
def a8i (k : Nat) (d : Option Tmp) (no : α) (K : Option Pth → α) : α := match d with
 | none => K none
 | some t => nS (Nat.blt t k) no (lM (kR t) fun p => K (some p))
def uF (P : Program) (k : Nat) (ops : Array Oper) (l : List Oper) : (LOps → α) → α → α := List.rec (motive := fun _ => (LOps → α) → α → α) (fun K _ => K .nil)
 (fun o _ ih K no => a8i k o.dst no fun d => xW P o fun o' => match o.guard with
   | none => ih (fun r => K (.cons d o' r)) no
   | some (j, w) => match (ops[j]?).bind (·.dst) with
     | some t => nS (Nat.blt t k) no (lM (kR t) fun p => zZ w fun w => ih (fun r => K (.gcons p w d o' r)) no)
     | none => no) l
def loG (k : Nat) (ops : Array Oper) (g : Option (Nat × Bool)) (no : α) (K : Option (Pth × Bool) → α) : α := match g with
 | none => K none
 | some (j, w) => match (ops[j]?).bind (·.dst) with
   | some t => nS (Nat.blt t k) no (lM (kR t) fun p => zZ w fun w => K (some (p, w)))
   | none => no
def tE (P : Program) (k : Nat) (ops : Array Oper) (N : Nat) (tab : List (Nat × Nat)) : (List (Nat × Option Nat × Option (Pth × Bool) × LOp) → α) → α → α := List.rec (motive := fun _ => (List (Nat × Option Nat × Option (Pth × Bool) × LOp) → α) → α → α) (fun K _ => K [])
 (fun x _ ih K no => match ops[x.1]? with
   | some o => loG k ops o.guard no fun g => xW P o fun o' => kD (N - 1 - x.1) fun i => nS (Nat.blt x.2 N) (ih (fun l => K ((i, none, g, o') :: l)) no) (kD (N - 1 - x.2) fun m => ih (fun l => K ((i, some m, g, o') :: l)) no)
   | none => no) tab
def b4M (k : Nat) : (List Pth → α) → α := Nat.rec (motive := fun _ => (List Pth → α) → α) (fun K => K []) (fun n ih K => lM (kR n) fun p => ih fun l => K (p :: l)) k
def c1Z {β : Type} (l : List β) : List β → (List β → α) → α := List.rec (motive := fun _ => List β → (List β → α) → α) (fun a K => K a) (fun x _ ih a K => ih (x :: a) K) l
def b2t (k : Nat) (K : List Pth → α) : α := b4M k fun l => c1Z l [] K
def wN (k : Nat) (l : List Tmp) : (List Pth → α) → α → α := List.rec (motive := fun _ => (List Pth → α) → α → α) (fun K _ => K []) (fun t _ ih K no => nS (Nat.blt t k) no (lM (kR t) fun p => ih (fun l => K (p :: l)) no)) l
def nC (P : Program) (k : Nat) (c : Code) : (LCode → α) → α := Code.rec (motive := fun _ => (LCode → α) → α)
 (fun K => K .skip)
 (fun _ ops d K => Bool.rec (motive := fun _ => α) (uF P k ops ops.toList (fun l => K (.reg l)) (K .bad))
   (match nB P ops with
     | some [] => uF P k ops ops.toList (fun l => K (.reg l)) (K .bad)
     | some tab => uF P k ops ops.toList (fun l => tE P k ops ops.size tab (fun t => K (.drw l t)) (K .bad)) (K .bad)
     | none => K .bad) d)
 (fun _ _ iha ihb K => iha fun a => ihb fun b => K (.seq a b))
 (fun c _ _ ihx ihy K => nS (iO c) (K .bad) (lR c fun c => ihx fun x => ihy fun y => K (.cond c x y)))
 (fun id _ ih K => kD id fun id => ih fun b => K (.block id b))
 (fun _ ih K => ih fun b => K (.loop b))
 (fun g ps assign body iha ihb K => nS (iO g) (K .bad) (lR g fun g' => b2t k fun pp => wN k ps.toList (fun q => iha fun a => ihb fun b => K (.range g' pp q ps assign body a b)) (K .bad)))
 (fun id K => kD id fun id => K (.exit id))
 (fun _ _ K => K .bad)
 (fun _ K => K .skip)
 (fun _ K => K .bad)
 (fun K => K .ret)
 (fun _ K => K .bad) c
def a0K (P : Program) (l : List ResultVar) : (List LRes → α) → α → α := List.rec (motive := fun _ => (List LRes → α) → α → α) (fun K _ => K [])
 (fun r _ ih K no => match r with
   | .tmp t => lM (kR t) fun p => ih (fun l => K (.t p :: l)) no
   | .cell a t => match jO P t with
     | some true => a3e (iE P t) no fun n => lM (kR a) fun p => ih (fun l => K (.cn n p :: l)) no
     | some false => lM (kR a) fun p => ih (fun l => K (.c1 p :: l)) no
     | none => no) l
def a2Q (P : Program) (f : FuncId) (no : α) (K : LFunc → α) : α := match P.funcs[f]? with
 | some fn => match fn.body with
   | some c => nS (fn.name == "runtime.NumGoroutine") (a0K P fn.results.toList (fun res => b2t fn.ntmps fun ps => nC P fn.ntmps c fun b => K ⟨ps, b, res⟩) no) no
   | none => no
 | none => no
def tC (P : Program) (fs : List FuncId) : LT → (LT → α) → α := List.rec (motive := fun _ => LT → (LT → α) → α) (fun T K => K T)
 (fun f _ ih T K => a2Q P f (ih T K) fun g => lM (kR f) fun p => rT g p T fun T => ih T K) fs
end
end
end Go.Ds
namespace Go.Ds
section
variable {α : Type}
theorem uY (f k : Nat) : a4y (f + 1) (k + 1) = if k % 2 = 0 then .l (a4y f (k / 2)) else .r (a4y f (k / 2)) := by
 show Bool.rec (motive := fun _ => Pth) (.r (a4y f (k / 2))) (.l (a4y f (k / 2))) (Nat.beq (k % 2) 0) = _
 by_cases h : k % 2 = 0
 ·rw [if_pos h, h]; rfl
 ·rw [if_neg h]
  have : Nat.beq (k % 2) 0 = false := fX.2 fun e => h (dY e)
  rw [this]
theorem a3A (f : Nat) : a4y f 0 = .z := by cases f <;> rfl
theorem a1Y : ∀ (f g a b : Nat), a ≤ f → b ≤ g → a4y f a = a4y g b → a = b
 | _, _, 0, 0, _, _, _ => rfl
 | 0, _, a + 1, _, h, _, _ => by omega
 | _, 0, _, b + 1, _, h, _ => by omega
 | f, g + 1, 0, b + 1, _, _, h => by
   rw [a3A, uY] at h
   split at h <;> cases h
 | f + 1, g, a + 1, 0, _, _, h => by
   rw [a3A, uY] at h
   split at h <;> cases h
 | f + 1, g + 1, a + 1, b + 1, ha, hb, h => by
   rw [uY, uY] at h
   by_cases h1 : a % 2 = 0
   ·rw [if_pos h1] at h
    by_cases h2 : b % 2 = 0
    ·rw [if_pos h2] at h
     injection h with h
     have := a1Y f g (a / 2) (b / 2) (by omega) (by omega) h
     omega
    ·rw [if_neg h2] at h; cases h
   ·rw [if_neg h1] at h
    by_cases h2 : b % 2 = 0
    ·rw [if_pos h2] at h; cases h
    ·rw [if_neg h2] at h
     injection h with h
     have := a1Y f g (a / 2) (b / 2) (by omega) (by omega) h
     omega
theorem b1n {a b : Nat} (h : kR a = kR b) : a = b := a1Y _ _ _ _ (dq _) (dq _) h
theorem lK (p : Pth) (K : Pth → α) : lM p K = K p := by
 induction p generalizing K with
 | z => rfl
 | l p ih => exact ih _
 | r p ih => exact ih _
theorem mQ (v : Value) (K : Value → α) : oK v K = K v := by cases v <;> rfl
theorem sH (v : Value) (p : Pth) (f : Fr) (K : Fr → α) : pM v p f K = K (pM v p f fun f => f) := by
 induction p generalizing f α with
 | z => cases f <;> rfl
 | l p ih =>
   cases f with
   | e =>
     show pM v p .e (fun l => K (.n undef l .e)) = K (pM v p .e fun l => .n undef l .e)
     rw [ih, ih (K := fun l => Fr.n undef l .e)]
   | n w l r =>
     show pM v p l (fun l => K (.n w l r)) = K (pM v p l fun l => .n w l r)
     rw [ih, ih (K := fun l => Fr.n w l r)]
 | r p ih =>
   cases f with
   | e =>
     show pM v p .e (fun l => K (.n undef .e l)) = K (pM v p .e fun l => .n undef .e l)
     rw [ih, ih (K := fun l => Fr.n undef .e l)]
   | n w l r =>
     show pM v p r (fun r => K (.n w l r)) = K (pM v p r fun r => .n w l r)
     rw [ih, ih (K := fun r => Fr.n w l r)]
theorem tQ (p : Pth) : nU p .e = undef := by
 cases p <;> rfl
theorem b2Z (v : Value) (p q : Pth) (f : Fr) : (q = p → nU q (pM v p f fun f => f) = v) ∧ (q ≠ p → nU q (pM v p f fun f => f) = nU q f) := by
 induction p generalizing f q with
 | z =>
   refine ⟨fun h => ?_, fun h => ?_⟩
   ·subst h; cases f <;> rfl
   ·cases q with
    | z => exact absurd rfl h
    | l q =>
      cases f with
      | e => show nU q .e = undef; exact tQ q
      | n => rfl
    | r q =>
      cases f with
      | e => show nU q .e = undef; exact tQ q
      | n => rfl
 | l p ih =>
   have h1 : ∀ f, pM v (.l p) f (fun f => f) = match f with | .e => .n undef (pM v p .e fun f => f) .e | .n w l r => .n w (pM v p l fun f => f) r := fun f => by
    cases f with
    | e => exact sH v p .e fun l => Fr.n undef l .e
    | n w l r => exact sH v p l fun l => Fr.n w l r
   rw [h1]
   cases q with
   | z => exact ⟨fun h => (nomatch h), fun _ => by cases f <;> rfl⟩
   | r q =>
     refine ⟨fun h => (nomatch h), fun _ => ?_⟩
     cases f with
     | e => show nU q .e = undef; exact tQ q
     | n => rfl
   | l q =>
     refine ⟨fun h => ?_, fun h => ?_⟩
     ·injection h with h
      cases f with
      | e => exact (ih q .e).1 h
      | n w l r => exact (ih q l).1 h
     ·have h : q ≠ p := fun e => h (by rw [e])
      cases f with
      | e => show nU q (pM v p .e fun f => f) = undef; rw [(ih q .e).2 h, tQ]
      | n w l r => exact (ih q l).2 h
 | r p ih =>
   have h1 : ∀ f, pM v (.r p) f (fun f => f) = match f with | .e => .n undef .e (pM v p .e fun f => f) | .n w l r => .n w l (pM v p r fun f => f) := fun f => by
    cases f with
    | e => exact sH v p .e fun l => Fr.n undef .e l
    | n w l r => exact sH v p r fun r => Fr.n w l r
   rw [h1]
   cases q with
   | z => exact ⟨fun h => (nomatch h), fun _ => by cases f <;> rfl⟩
   | l q =>
     refine ⟨fun h => (nomatch h), fun _ => ?_⟩
     cases f with
     | e => show nU q .e = undef; exact tQ q
     | n => rfl
   | r q =>
     refine ⟨fun h => ?_, fun h => ?_⟩
     ·injection h with h
      cases f with
      | e => exact (ih q .e).1 h
      | n w l r => exact (ih q r).1 h
     ·have h : q ≠ p := fun e => h (by rw [e])
      cases f with
      | e => show nU q (pM v p .e fun f => f) = undef; rw [(ih q .e).2 h, tQ]
      | n w l r => exact (ih q r).2 h
def FAg (f : Fr) (l : List Value) : Prop := ∀ t, nU (kR t) f = get l t
def FRel (k : Nat) (f : Fr) (l : List Value) : Prop := l.length = k ∧ FAg f l
noncomputable def b6i (f : Fr) (t : Tmp) (v : Value) : Fr := pM v (kR t) f fun f => f
theorem a3Y (f : Fr) (t u : Tmp) (v : Value) : nU (kR u) (b6i f t v) = if u = t then v else nU (kR u) f := by
 have h := b2Z v (kR t) (kR u) f
 by_cases he : u = t
 ·rw [if_pos he]; exact h.1 (by rw [he])
 ·rw [if_neg he]; exact h.2 (fun e => he (b1n e))
theorem FRel.put {k : Nat} {f : Fr} {l : List Value} (h : FRel k f l) {t : Tmp} (ht : t < k) (v : Value) : FRel k (b6i f t v) (Go.Ds.put l (some t) v) := by
 refine ⟨by simp [Go.Ds.put, mY, h.1], fun u => ?_⟩
 rw [a3Y, b0L]
 by_cases he : u = t
 ·subst he; rw [if_pos rfl, if_pos ⟨rfl, by rw [h.1]; exact ht⟩]
 ·rw [if_neg he, if_neg (fun hh => he (db hh.1).symm)]; exact h.2 u
theorem FRel.set {k : Nat} {f : Fr} {l : List Value} (h : FRel k f l) {t : Tmp} (ht : t < k) (v : Value) : FRel k (b6i f t v) (l.set t v) := by
 have := h.put ht v
 simpa [Go.Ds.put, mY] using this
def Rs.Is (r : Rs) (v : Value) (H : Heap) : Prop := r = .ok v H ∨ r = .th v H
theorem Rs.ax {v : Value} {H : Heap} : ¬ Rs.no.Is v H := by rintro (h | h) <;> cases h
theorem Rs.aO {v w : Value} {H H1 : Heap} (h : (Rs.ok v H).Is w H1) : w = v ∧ H1 = H := by
 rcases h with h | h
 ·injection h with a b; exact ⟨a.symm, b.symm⟩
 ·cases h
theorem Rs.aS {v w : Value} {H H1 : Heap} (h : (Rs.th v H).Is w H1) : w = v ∧ H1 = H := by
 rcases h with h | h
 ·cases h
 ·injection h with a b; exact ⟨a.symm, b.symm⟩
theorem kQ (b : Bool) (no x : α) : nS b no x = if b = true then x else no := by cases b <;> rfl
theorem lC {b : Bool} {x : Rs} {v : Value} {H : Heap} (h : (nS b Rs.no x).Is v H) : b = true ∧ x.Is v H := by
 cases b with
 | false => exact absurd h Rs.ax
 | true => exact ⟨rfl, h⟩
theorem xG {β : Type} : ∀ (cs : List β) (e : Nat), a7Q cs e = decide (e ≤ cs.length)
 | [], 0 => rfl
 | [], e + 1 => by simp; rfl
 | _ :: _, 0 => rfl
 | _ :: cs, e + 1 => by show a7Q cs e = _; rw [xG cs e]; simp
theorem yA {β : Type} : ∀ (cs : List β) (e : Nat), a3R cs e = decide (e = cs.length)
 | [], 0 => rfl
 | [], e + 1 => by simp; rfl
 | _ :: _, 0 => by simp; rfl
 | _ :: cs, e + 1 => by show a3R cs e = _; rw [yA cs e]; simp
theorem xM {β : Type} : ∀ (cs : List β) (e : Nat), a1b cs e = cs[e]?
 | [], _ => rfl
 | _ :: _, 0 => rfl
 | _ :: cs, e + 1 => by show a1b cs e = _; rw [xM cs e]; simp
theorem a6o {β : Type} : ∀ (cs : List β) (e : Nat), b1t cs e = cs.drop e
 | [], e => by cases e <;> rfl
 | _ :: _, 0 => rfl
 | _ :: cs, e + 1 => by show b1t cs e = _; rw [a6o cs e]; rfl
theorem a6Z {β : Type} : ∀ {cs : List β} {n : Nat} {K : List β → Rs} {v : Value} {H : Heap}, (a2S cs n K).Is v H → n ≤ cs.length ∧ (K (cs.take n)).Is v H
 | [], 0, K, v, H, h => ⟨dq _, h⟩
 | [], n + 1, K, v, H, h => absurd h Rs.ax
 | _ :: _, 0, K, v, H, h => ⟨eS _, h⟩
 | c :: cs, n + 1, K, v, H, h => by
   have h' : (a2S cs n fun l => K (c :: l)).Is v H := h
   obtain ⟨h1, h2⟩ := a6Z h'
   exact ⟨by simp; omega, h2⟩
theorem b9m {a b : IntKind} (h : Nat.beq (kIx a) (kIx b) = true) : a = b := by
 cases a <;> cases b <;> first | rfl | (exact absurd h (by decide))
theorem b6G (k : Nat) (K : List Pth → α) : b4M k K = K ((List.range k).map kR).reverse := by
 induction k generalizing K with
 | zero => rfl
 | succ n ih =>
   show lM (kR n) (fun p => b4M n fun l => K (p :: l)) = _
   rw [lK, ih, eO]
   simp
theorem b8D {β : Type} (l : List β) : ∀ (a : List β) (K : List β → α), c1Z l a K = K (l.reverse ++ a) := by
 induction l with
 | nil => intro a K; rfl
 | cons x l ih => intro a K; show c1Z l (x :: a) K = _; rw [ih]; simp
theorem b1s (k : Nat) (K : List Pth → α) : b2t k K = K ((List.range k).map kR) := by
 unfold b2t; rw [b6G, b8D]; simp
theorem oS (n : Nat) (d : α) (K : Nat → α) : a3e (some n) d K = K n := jX n K
def LK (H H' : Heap) : Prop := H.length ≤ H'.length ∧ ∀ A r', A < H.length → iQ H' A = some (.loop r') →
 ∃ r, iQ H A = some (.loop r) ∧ r'.assign = r.assign ∧ r'.body = r.body ∧ r'.params = r.params ∧ r'.tmps = r.tmps
theorem LK.refl (H : Heap) : LK H H := ⟨dq _, fun _ r _ h => ⟨r, h, rfl, rfl, rfl, rfl⟩⟩
theorem LK.trans {H H1 H2 : Heap} (h : LK H H1) (k : LK H1 H2) : LK H H2 := ⟨dJ h.1 k.1, fun A r' hA hr => by
 obtain ⟨r1, h1, a1, b1, c1, d1⟩ := k.2 A r' (dQ hA h.1) hr
 obtain ⟨r, h2, a2, b2, c2, d2⟩ := h.2 A r1 hA h1
 exact ⟨r, h2, a1.trans a2, b1.trans b2, c1.trans c2, d1.trans d2⟩⟩
def Blk.cr : Blk → Bool
 | .loop _ => true
 | _ => false
theorem LK.hset (H : Heap) (A : Nat) {b : Blk} (hb : b.cr = false) : LK H (hset H A b) := by
 refine ⟨by rw [jL]; exact dq _, fun B r' hB h => ?_⟩
 by_cases he : A = B
 ·subst he; rw [iR _ hB] at h; injection h with h; subst h; cases hb
 ·rw [iZ _ he] at h; exact ⟨r', h, rfl, rfl, rfl, rfl⟩
theorem LK.cons (H : Heap) (b : Blk) : LK H (H.cons b) := by
 refine ⟨by rw [length_cons]; omega, fun B r' hB h => ?_⟩
 rw [jN b hB] at h; exact ⟨r', h, rfl, rfl, rfl, rfl⟩
theorem LK.row (H : Heap) (ty : TypeId) (cs : List Value) : LK H (rD H ty cs) := by rw [lI]; exact .cons _ _
theorem LK.loop {H : Heap} {L : Nat} {r r' : Loop} (h : iQ H L = some (.loop r)) (e : r'.assign = r.assign ∧ r'.body = r.body ∧ r'.params = r.params ∧ r'.tmps = r.tmps) : LK H (Go.Ds.hset H L (.loop r')) := by
 refine ⟨by rw [jL]; exact dq _, fun B r2 hB hg => ?_⟩
 by_cases he : L = B
 ·subst he; rw [iR _ hB] at hg; injection hg with hg; injection hg with hg; subst hg; exact ⟨r, h, e⟩
 ·rw [iZ _ he] at hg; exact ⟨r2, hg, rfl, rfl, rfl, rfl⟩
variable {P : Program}
theorem a7S {H H' : Heap} {t : TypeId} {p v : Value} (h : qM P H t p v = some H') : LK H H' := by
 unfold qM at h
 split at h
 ·split at h
  ·dsimp only at h
   split at h
   ·injection h with h; subst h; exact .hset _ _ rfl
   ·cases h
  ·cases h
 ·cases h
theorem a4x {H H' : Heap} {t : TypeId} {v r : Value} (h : vW P H t v = some (r, H')) : LK H H' := by
 unfold vW at h
 dsimp only at h
 split at h
 ·injection h with h; injection h with _ h; subst h; exact .row _ _ _
 ·cases h
theorem a4J {H H' : Heap} {t : TypeId} {s x r : Value} (h : nH P H t s x = some (r, H')) : LK H H' := by
 unfold nH at h
 simp only [dg] at h
 obtain ⟨elem, _, size, _, bytes, _, z, _, ⟨n, l⟩, _, h⟩ := h
 try dsimp only at h
 split at h
 ·split at h
  ·split at h
   ·injection h with h; injection h with _ h; subst h; exact .refl _
   ·injection h with h; injection h with _ h; subst h; exact .row _ _ _
  ·cases h
 ·split at h
  ·split at h
   ·injection h with h; injection h with _ h; subst h; exact .hset _ _ rfl
   ·split at h
    ·injection h with h; injection h with _ h; subst h; exact .hset _ _ rfl
    ·cases h
  ·cases h
 ·cases h
theorem a6A {H H' : Heap} {t : TypeId} {v r : Value} (h : qE P H t v = some (r, H')) : LK H H' := by
 unfold qE at h
 split at h
 ·dsimp only at h
  rename_i n elem _
  have key : ∀ (b : Bool), (if b = true then some (Value.pointer (some ⟨H.length, 0, some v.cells.toList.length⟩), b6a H elem v.cells.toList) else none) = some (r, H') → LK H H' := by
   intro b h
   cases b
   ·cases h
   ·injection h with h; injection h with _ h; subst h; rw [a1i]; exact .cons _ _
  exact key _ h
 ·exact a4x h
theorem a5q {H H' : Heap} {t : TypeId} {x y r : Value} (h : uQ P H t x y = some (r, H')) : LK H H' := by
 unfold uQ at h
 split at h
 ·split at h
  ·split at h
   ·simp only [dr] at h
    obtain ⟨_, _, h⟩ := h
    injection h with _ h; subst h; exact .hset _ _ rfl
   ·cases h
  ·cases h
 ·cases h
theorem a5w {H H' : Heap} {k : FuncId} {args : List Value} {r : Value} (h : pP P k args H = some (r, H')) : LK H H' := by
 unfold pP at h
 simp only [dg] at h
 obtain ⟨fn, _, h⟩ := h
 split at h
 case isFalse => cases h
 split at h
 ·split at h
  ·injection h with h; injection h with _ h; subst h; exact .refl _
  ·cases h
 split at h
 ·split at h
  ·split at h
   ·simp only [dg] at h
    obtain ⟨_, _, h⟩ := h
    split at h
    ·injection h with h; injection h with _ h; subst h; exact .row _ _ _
    ·cases h
   ·cases h
  ·cases h
 split at h
 ·split at h
  ·split at h
   ·split at h
    ·injection h with h; injection h with _ h; subst h; exact .refl _
    ·cases h
   ·cases h
  ·cases h
 ·cases h
theorem b0a {H H' : Heap} {t : TypeId} {s x r : Value} (h : a0E P H t s x = some (r, H')) : LK H H' := by
 unfold a0E at h
 simp only [dg] at h
 obtain ⟨elem, _, size, _, m, _, h⟩ := h
 try dsimp only at h
 split at h
 ·split at h
  ·injection h with h; injection h with _ h; subst h; exact .refl _
  ·cases h
 ·split at h
  ·injection h with h; injection h with _ h; subst h; exact .refl _
  ·simp only [dg] at h
   obtain ⟨l, _, h⟩ := h
   split at h
   ·split at h
    ·injection h with h; injection h with _ h; subst h; exact .hset _ _ rfl
    ·cases h
   ·cases h
 ·cases h
theorem a7m {H H' : Heap} {t : TypeId} {x r : Value} (h : sO P H t x = some (r, H')) : LK H H' := by
 unfold sO at h
 simp only [dg] at h
 obtain ⟨elem, _, z, _, h⟩ := h
 split at h
 ·injection h with h; injection h with _ h; subst h; exact .refl _
 ·split at h
  ·injection h with h; injection h with _ h; subst h; exact .refl _
  ·try dsimp only at h
   split at h
   ·split at h
    ·injection h with h; injection h with _ h; subst h; exact .hset _ _ rfl
    ·cases h
   ·cases h
 ·cases h
theorem b3K {H H' : Heap} {t : TypeId} {m k v : Value} (h : a0W P H t m k v = some H') : LK H H' := by
 unfold a0W at h
 simp only [dg] at h
 obtain ⟨⟨kt, et⟩, _, h⟩ := h
 dsimp only at h
 split at h
 ·split at h
  ·split at h
   ·simp only [dg] at h
    obtain ⟨r, _, h⟩ := h
    split at h
    ·simp only [dg] at h
     obtain ⟨e, _, h⟩ := h
     split at h
     ·injection h with h; subst h; exact .hset _ _ rfl
     ·cases h
    ·injection h with h; subst h; exact .hset _ _ rfl
   ·cases h
  ·cases h
 ·cases h
theorem a5V {H H' : Heap} {t : TypeId} {m k r : Value} (h : sC P H t m k = some (r, H')) : LK H H' := by
 unfold sC at h
 simp only [dg] at h
 obtain ⟨⟨kt, et⟩, _, h⟩ := h
 dsimp only at h
 split at h
 ·split at h
  ·split at h
   ·simp only [dg] at h
    obtain ⟨r, _, h⟩ := h
    split at h
    ·simp only [dg] at h
     obtain ⟨e, _, h⟩ := h
     split at h
     ·injection h with h; injection h with _ h; subst h; exact .hset _ _ rfl
     ·cases h
    ·simp only [dg] at h
     obtain ⟨z, _, h⟩ := h
     split at h
     ·injection h with h; injection h with _ h; subst h; exact .hset _ _ rfl
     ·cases h
   ·cases h
  ·cases h
 ·cases h
theorem a6Y {H H' : Heap} {m b v : Value} (h : rI H m b v = some H') : LK H H' := by
 unfold rI at h
 split at h
 ·split at h
  ·split at h
   ·simp only [dg] at h
    obtain ⟨e, _, h⟩ := h
    injection h with h; subst h; exact .hset _ _ rfl
   ·cases h
  ·cases h
 ·cases h
theorem a3r {H H' : Heap} {t : TypeId} {o : Option Value} {r : Value} (h : pH P H t o = some (r, H')) : LK H H' := by
 unfold pH at h
 simp only [dg] at h
 obtain ⟨_, _, h⟩ := h
 split at h
 ·injection h with h; injection h with _ h; subst h; exact .cons _ _
 ·injection h with h; injection h with _ h; subst h; exact .cons _ _
 ·cases h
theorem a7i {H H' : Heap} {o : Oper} {l : List Value} {r : Value} (h : kP P o l H = some (r, H')) : H' = H := by
 unfold kP at h
 split at h
 ·split at h
  ·split at h
   ·injection h with h; injection h with _ h; exact h.symm
   ·cases h
  ·cases h
 ·cases h
theorem uR {H H' : Heap} {v r : Value} (h : some (v, H) = some (r, H')) : LK H H' := by injection h with h; injection h with _ h; subst h; exact .refl _
theorem tN {H H' : Heap} {v : Option Value} {r : Value} (h : v.map (fun v => (v, H)) = some (r, H')) : LK H H' := by
 cases v with
 | none => cases h
 | some v => exact uR h
set_option maxHeartbeats 1000000 in
theorem b5J {H H' : Heap} {o : Oper} {l : List Value} {r : Value} (h : opD P o l H = some (r, H')) : LK H H' := by
 obtain ⟨dst, op, type, pos, after, guard⟩ := o
 have pl : ∀ {o : Oper}, kP P o l H = some (r, H') → LK H H' := fun h => by rw [a7i h]; exact .refl _
 cases op with
 | alloc t =>
   simp only [opD, dg] at h
   obtain ⟨z, _, h⟩ := h
   split at h
   ·exact a6A h
   ·cases h
 | box t x => simp only [opD] at h; exact a4x h
 | store t x y =>
   simp only [opD, dr] at h
   obtain ⟨H1, h, e⟩ := h
   injection e with _ e; subst e
   exact a7S h
 | mapUpdate t m x y =>
   simp only [opD, dr] at h
   obtain ⟨H1, h, e⟩ := h
   injection e with _ e; subst e
   exact b3K h
 | mapEntry t m x => simp only [opD] at h; exact a5V h
 | entryStore t m x y =>
   simp only [opD, dr] at h
   obtain ⟨H1, h, e⟩ := h
   injection e with _ e; subst e
   exact a6Y h
 | makeMap t x => simp only [opD] at h; exact a3r h
 | buildSlice t len parts =>
   simp only [opD, dg] at h
   obtain ⟨elem, _, size, _, z, _, h⟩ := h
   split at h
   ·injection h with h; injection h with _ h; subst h; exact .row _ _ _
   split at h
   ·simp only [dr] at h
    obtain ⟨cs, _, e⟩ := h
    injection e with _ e; subst e
    exact .row _ _ _
   ·cases h
 | makeSlice t n c =>
   simp only [opD, dg] at h
   obtain ⟨elem, _, size, _, bytes, _, z, _, h⟩ := h
   split at h
   ·split at h
    ·injection h with h; injection h with _ h; subst h; exact .row _ _ _
    ·cases h
   ·cases h
 | call c =>
   simp only [opD] at h
   split at h
   ·split at h
    ·split at h
     all_goals first | exact tN h | cases h
    ·cases h
   ·split at h
    ·exact a4J h
    ·cases h
   ·split at h
    ·exact b0a h
    ·cases h
   ·split at h
    ·exact a7m h
    ·cases h
   ·exact pl h
   ·split at h
    ·split at h
     ·split at h
      ·cases h
      ·exact uR h
     ·cases h
    ·cases h
   ·split at h
    ·exact a5q h
    ·cases h
   ·exact pl h
   ·exact pl h
   ·cases h
 | convert s t x =>
   simp only [opD] at h
   split at h
   ·exact pl h
   ·split at h
    ·split at h
     ·exact tN h
     ·cases h
    ·split at h
     ·simp only [dg] at h
      obtain ⟨_, _, h⟩ := h
      injection h with h; injection h with _ h; subst h
      rw [b0Q]; exact .cons _ _
     ·cases h
    ·split at h
     ·exact uR h
     ·cases h
    ·cases h
 | slice t x lo hi mx =>
   cases mx with
   | some _ => simp only [opD] at h; cases h
   | none =>
     simp only [opD] at h
     split at h
     ·exact pl h
     ·split at h
      ·exact tN h
      ·exact tN h
 | _ =>
   simp only [opD] at h
   repeat' first
    | exact LK.refl _
    | exact uR h
    | exact tN h
    | exact pl h
    | (cases h; done)
    | split at h
    | (simp only [dg, dr] at h; obtain ⟨_, _, h⟩ := h)
    | (obtain ⟨_, _, h⟩ := h)
    | (injection h with h; injection h with _ h; subst h; exact LK.refl _)
    | (injection h with _ h; subst h; exact LK.refl _)
    | (cases h; exact LK.refl _)
end
end Go.Ds
namespace Go.Ds
variable {P : Program}
structure CallsOk (P : Program) (C : Calls') (H0 : Heap) : Prop where
 fn : ∀ p f args H v H1, LK H0 H → (C.fn p f args H).Is v H1 → p = kR f → (FnS P f args H (fun v' H' => v' = v ∧ H' = H1) ∨ pP P f args H = some (v, H1)) ∧ LK H H1
 rd : ∀ L args H v H1, LK H0 H → (C.rd L args H).Is v H1 → xE P L args H v H1 ∧ LK H H1
noncomputable def iW (x : Operand) : LArg := match x with
 | .tmp t => .t (kR t)
 | .const v => .c v
 | .global g => .c (.pointer (some ⟨g, 0, none⟩))
 | .func k => .c (.func (.func k) #[] #[])
theorem kZ {α : Type} (x : Operand) (K : LArg → α) : lR x K = K (iW x) := by
 cases x with
 | tmp t => exact lK _ _
 | _ => rfl
theorem jS {f : Fr} {l : List Value} (h : FAg f l) (x : Operand) : mJ f (iW x) = ev l x := by
 cases x with
 | tmp t => exact h t
 | _ => rfl
theorem a3Q {α : Type} (l : List Operand) (K : List LArg → α) : a5y l K = K (l.map iW) := by
 induction l generalizing K with
 | nil => rfl
 | cons x l ih =>
   show lR x (fun x => a5y l fun l => K (x :: l)) = _
   rw [kZ, ih]; rfl
theorem a7J {α : Type} {f : Fr} {l : List Value} (h : FAg f l) (xs : List Operand) (K : List Value → α) : a3u f (xs.map iW) K = K (xs.map (ev l)) := by
 induction xs generalizing K with
 | nil => rfl
 | cons x xs ih =>
   show oK (mJ f (iW x)) (fun v => a3u f (xs.map iW) fun l => K (v :: l)) = _
   rw [mQ, ih, jS h]; rfl
theorem c1Q {f : Fr} {l : List Value} (h : FAg f l) : evF f = ev l := by
 funext x
 cases x with
 | tmp t => exact h t
 | _ => rfl
def vH (P : Program) (o : Oper) (lo : LOp) : Prop := ∀ C H0 f l H v H1, CallsOk P C H0 → LK H0 H → FAg f l → (opF P C lo f H).Is v H1 → StepR P o l H v H1 ∧ LK H H1
def LowPl (P : Program) (o : Oper) (lo : LOp) : Prop := ∀ C f l H v H1, FAg f l → (opF P C lo f H).Is v H1 → opD P o l H = some (v, H1)
theorem LowPl.low {o : Oper} {lo : LOp} (hok : o.op.operands.toList.all iO = true) (h : LowPl P o lo) : vH P o lo :=
 fun C _ f l H v H1 _ _ hf hr => by have := h C f l H v H1 hf hr; exact ⟨.op hok this, b5J this⟩
theorem b7B (o : Oper) : vH P o .bad := fun _ _ _ _ _ _ _ _ _ _ h => absurd h Rs.ax
theorem b7S (o : Oper) : LowPl P o (.gen o) := fun C f l H v H1 hf hr => by
 have hr : (match c0R P o (evF f) H with | some (v, H1) => Rs.th v H1 | none => .no).Is v H1 := hr
 rw [c1Q hf] at hr
 have e : c0R P o (ev l) H = opD P o l H := rfl
 rw [e] at hr
 split at hr
 ·rename_i v2 H2 h2
  obtain ⟨rfl, rfl⟩ := Rs.aS hr
  exact h2
 ·exact absurd hr Rs.ax
section
variable {dst : Option Tmp} {type : TypeId} {pos : String} {after : Array Edge} {guard : Option (Nat × Bool)}
theorem c2l (x : Operand) : LowPl P ⟨dst, .move x, type, pos, after, guard⟩ (.mv (iW x)) := fun C f l H v H1 hf hr => by
 have hr : (oK (mJ f (iW x)) fun v => Rs.ok v H).Is v H1 := hr
 rw [mQ, jS hf] at hr
 obtain ⟨rfl, rfl⟩ := Rs.aO hr
 rfl
theorem c2j (x : Operand) : LowPl P ⟨dst, .assign x, type, pos, after, guard⟩ (.mv (iW x)) := fun C f l H v H1 hf hr => by
 have hr : (oK (mJ f (iW x)) fun v => Rs.ok v H).Is v H1 := hr
 rw [mQ, jS hf] at hr
 obtain ⟨rfl, rfl⟩ := Rs.aO hr
 rfl
theorem b6M (c a b : Operand) : LowPl P ⟨dst, .pick c a b, type, pos, after, guard⟩ (.pick (iW c) (iW a) (iW b)) := fun C f l H v H1 hf hr => by
 have hr : (b6L (iW c) (iW a) (iW b) f H).Is v H1 := hr
 unfold b6L at hr
 rw [jS hf] at hr
 split at hr
 ·rename_i t ht
  rw [mQ] at hr
  simp only [opD, ht]
  cases t
  ·have hr : (Rs.ok (mJ f (iW b)) H).Is v H1 := hr
   rw [jS hf] at hr
   obtain ⟨rfl, rfl⟩ := Rs.aO hr; rfl
  ·have hr : (Rs.ok (mJ f (iW a)) H).Is v H1 := hr
   rw [jS hf] at hr
   obtain ⟨rfl, rfl⟩ := Rs.aO hr; rfl
 ·exact absurd hr Rs.ax
theorem b9U (a b : Int) : c4g a b = a * b := by cases a <;> cases b <;> rfl
theorem a4D (a b : Int) : c3k a b = a.tdiv b := by cases a <;> cases b <;> rfl
theorem a4B (a b : Int) : c3o a b = a.tmod b := by cases a <;> cases b <;> rfl
theorem c0b {op : BinOp} {g : IntKind → Int → Int → Option Value} (h : b7E op = some g) (k : IntKind) (a b : Int) : mL op k a b = g k a b := by
 cases op <;> simp only [b7E] at h <;> first | (cases h; done) | (injection h with h; subst h)
 all_goals first
  | rfl
  | (simp only [mL, c4V, b9U]; done)
  | (simp only [mL, b7Y, a4D]; done)
  | (simp only [mL, b8w, a4B]; done)
  | (simp only [mL, b7Y, a4D]; rfl)
  | (simp only [mL, b8w, a4B]; rfl)
  | (simp only [mL, b7Y, a4D]; cases eqI b 0 <;> rfl)
  | (simp only [mL, b8w, a4B]; cases eqI b 0 <;> rfl)
theorem c4E {o : Option Value} {H H1 : Heap} {v : Value} (h : (oV o H).Is v H1) : o = some v ∧ H1 = H := by
 cases o with
 | none => exact absurd h Rs.ax
 | some w => obtain ⟨rfl, rfl⟩ := Rs.aS h; exact ⟨rfl, rfl⟩
theorem b6N {o : Option Value} {H H1 : Heap} {v : Value} (h : (okV o H).Is v H1) : o = some v ∧ H1 = H := by
 cases o with
 | none => exact absurd h Rs.ax
 | some w =>
   have h : (oK w fun v => Rs.ok v H).Is v H1 := h
   rw [mQ] at h
   obtain ⟨rfl, rfl⟩ := Rs.aO h; exact ⟨rfl, rfl⟩
theorem b9d {op : BinOp} {g : IntKind → Int → Int → Option Value} (hg : b7E op = some g) (t yt : TypeId) (x y : Operand) : LowPl P ⟨dst, .binOp op t x y yt, type, pos, after, guard⟩ (.bin g (iW x) (iW y)) := fun C f l H v H1 hf hr => by
 have hr : (c0S g (iW x) (iW y) f H).Is v H1 := hr
 unfold c0S at hr
 rw [jS hf] at hr
 split at hr
 ·rename_i k a hx
  unfold c0p at hr
  rw [jS hf] at hr
  split at hr
  ·rename_i k' b hy
   obtain ⟨hk, hq⟩ := lC hr
   obtain rfl := b9m hk
   obtain ⟨hv, rfl⟩ := c4E hq
   rw [← c0b hg] at hv
   have : opD P ⟨dst, .binOp op t x y yt, type, pos, after, guard ⟩ l H1 = if k = k then (match mL op k a b with | some v => some (v, H1) | none => kP P ⟨dst, .binOp op t x y yt, type, pos, after, guard ⟩ l H1) else kP P ⟨dst, .binOp op t x y yt, type, pos, after, guard ⟩ l H1 := by
    simp only [opD, hx, hy]
    cases op <;> rfl
   rw [this, if_pos rfl, hv]
  ·exact absurd hr Rs.ax
 ·exact absurd hr Rs.ax
theorem b8R {b : Option Blk} {i e : Nat} {H H1 : Heap} {v : Value} (h : (b9Q b i e H).Is v H1) : H1 = H ∧ ∃ cs ty rw lo ver, b = some (.cells cs ty rw lo ver) ∧ lo ≤ e ∧ e ≤ cs.length ∧ i + 1 ≤ e ∧ cs[i]? = some v := by
 unfold b9Q at h
 split at h
 ·rename_i cs ty rw lo ver
  obtain ⟨h1, h⟩ := lC h
  obtain ⟨h2, h⟩ := lC h
  obtain ⟨h3, h⟩ := lC h
  have h : (okV (a1b cs i) H).Is v H1 := h
  obtain ⟨h4, h5⟩ := b6N h
  rw [xG] at h2
  rw [xM] at h4
  exact ⟨h5, cs, ty, rw, lo, ver, rfl, ew h1, by simpa using h2, ew h3, h4⟩
 ·exact absurd h Rs.ax
theorem b8J {b : Option Blk} {n i e : Nat} {H H1 : Heap} {v : Value} (h : (b9P b n i e H).Is v H1) : H1 = H ∧ ∃ cs ty rw lo ver, b = some (.cells cs ty rw lo ver) ∧ lo ≤ e ∧ e ≤ cs.length ∧ i + n ≤ e ∧ v = .agg ((cs.drop i).take n).toArray := by
 unfold b9P at h
 split at h
 ·rename_i cs ty rw lo ver
  obtain ⟨h1, h⟩ := lC h
  obtain ⟨h2, h⟩ := lC h
  obtain ⟨h3, h⟩ := lC h
  obtain ⟨h4, h⟩ := a6Z h
  obtain ⟨rfl, rfl⟩ := Rs.aO h
  rw [xG] at h2
  exact ⟨rfl, cs, ty, rw, lo, ver, rfl, ew h1, by simpa using h2, ew h3, by rw [a6o]⟩
 ·exact absurd h Rs.ax
theorem b1v {X : LArg} {f : Fr} {H H1 : Heap} {v w : Value} {t : TypeId} (ht : jO P t = some false) (hw : mJ f X = w) (h : (b3U X f H).Is v H1) : H1 = H ∧ lQ P H t w = some v := by
 unfold b3U at h
 rw [hw] at h
 split at h
 ·rename_i A i e
  obtain ⟨h1, cs, ty, rw', lo, ver, h2, h3, h4, h5, h6⟩ := b8R h
  refine ⟨h1, ?_⟩
  simp only [lQ, ht, jA, h2]
  rw [if_pos (by simp; omega)]
  simp [h6]
 ·rename_i A i
  unfold c2F at h
  split at h
  ·rename_i cs ty lo hg
   obtain ⟨h1, h⟩ := lC h
   rw [xG] at h1
   have h1 : lo ≤ cs.length := by simpa using h1
   cases hn : a1b cs i with
   | none => rw [hn] at h; exact absurd h Rs.ax
   | some c =>
     rw [hn] at h
     have h : (oK c fun v => Rs.ok v H).Is v H1 := h
     rw [mQ] at h
     obtain ⟨rfl, rfl⟩ := Rs.aO h
     rw [xM] at hn
     have hi := (dA.1 hn).1
     refine ⟨rfl, ?_⟩
     simp only [lQ, ht, jA, hg]
     rw [if_pos (by simp; omega)]
     simp [hn]
  ·exact absurd h Rs.ax
 ·exact absurd h Rs.ax
theorem b1B {X : LArg} {f : Fr} {H H1 : Heap} {v w : Value} {t : TypeId} {n : Nat} (ht : jO P t = some true) (hn : iE P t = some n) (hw : mJ f X = w) (h : (b2O n X f H).Is v H1) : H1 = H ∧ lQ P H t w = some v := by
 unfold b2O at h
 rw [hw] at h
 split at h
 ·rename_i A i e
  obtain ⟨h1, cs, ty, rw', lo, ver, h2, h3, h4, h5, h6⟩ := b8J h
  refine ⟨h1, ?_⟩
  simp only [lQ, ht, hn, dc, jA, h2]
  rw [if_pos (by simp; omega), h6]
  rfl
 ·exact absurd h Rs.ax
theorem b9Y {t : TypeId} (ht : jO P t = some false) (x : Operand) : LowPl P ⟨dst, .load t x, type, pos, after, guard⟩ (.ld1 (iW x)) := fun C f l H v H1 hf hr => by
 obtain ⟨rfl, h⟩ := b1v (P := P) ht (jS hf x) hr
 simp only [opD, h, dO]
theorem b8U {t : TypeId} {n : Nat} (ht : jO P t = some true) (hn : iE P t = some n) (x : Operand) : LowPl P ⟨dst, .load t x, type, pos, after, guard⟩ (.ldn n (iW x)) := fun C f l H v H1 hf hr => by
 obtain ⟨rfl, h⟩ := b1B (P := P) ht hn (jS hf x) hr
 simp only [opD, h, dO]
theorem c2n {t : TypeId} {n : Nat} (hn : iE P t = some n) (x y : Operand) : LowPl P ⟨dst, .store t x y, type, pos, after, guard⟩ (.st n (iW x) (iW y)) := fun C f l H v H1 hf hr => by
 have hr : (hSt n (iW x) (iW y) f H).Is v H1 := hr
 unfold hSt at hr
 rw [jS hf, jS hf] at hr
 split at hr
 ·rename_i A i e hx
  unfold stB at hr
  split at hr
  ·rename_i cs ty lo ver hg
   obtain ⟨h1, hr⟩ := lC hr
   obtain ⟨h2, hr⟩ := lC hr
   obtain ⟨h3, hr⟩ := lC hr
   obtain ⟨h4, hr⟩ := lC hr
   obtain ⟨h5, hr⟩ := lC hr
   obtain ⟨rfl, rfl⟩ := Rs.aS hr
   rw [yA] at h1 h3
   have h1 : n = (ev l y).cells.toList.length := by simpa only [decide_eq_true_eq] using h1
   have h3 : e = cs.length := by simpa only [decide_eq_true_eq] using h3
   have h4 : i + n ≤ e := ew h4
   have h5 : lo ≤ e := ew h5
   simp only [opD, qM, hx, hg]
   rw [if_pos ⟨by rw [hn, h1], h2, h3, by omega, h5⟩]
   simp only [dO]
   rw [h3]
  ·exact absurd hr Rs.ax
 ·exact absurd hr Rs.ax
theorem c2a {s : TypeId} {k n : Nat} {fd : Field} (hf' : oF P s k = some fd) (hn : iE P fd.type = some n) (hn0 : n ≠ 0) (x : Operand) : LowPl P ⟨dst, .fieldAddr s x k, type, pos, after, guard⟩ (.fa fd.offset (iW x)) := fun C f l H v H1 hf hr => by
 have hr : (hFa fd.offset (iW x) f H).Is v H1 := hr
 unfold hFa at hr
 rw [jS hf] at hr
 split at hr
 ·rename_i A i e hx
  rw [jX] at hr
  obtain ⟨rfl, rfl⟩ := Rs.aO hr
  simp only [opD, hx, hf', dc, hn]
  rw [if_neg (by simpa using hn0)]; rfl
 ·exact absurd hr Rs.ax
theorem b4l {A i e size n : Nat} {H H1 : Heap} {j v : Value} (h : (ixP A i e size n H j).Is v H1) : H1 = H ∧ ∃ k m, j = .int k (.ofNat m) ∧ m < n ∧ v = .pointer (some ⟨A, i + m * size, some e⟩) := by
 unfold ixP at h
 split at h
 ·rename_i k m
  obtain ⟨h1, h⟩ := lC h
  rw [jX] at h
  obtain ⟨rfl, rfl⟩ := Rs.aO h
  rw [blt_eq] at h1
  exact ⟨rfl, k, m, rfl, by simpa using h1, rfl⟩
 ·exact absurd h Rs.ax
theorem b7I {t elem : TypeId} {size : Nat} (ht : P.underlying t = some (.slice elem)) (hs : iE P elem = some size) (x i : Operand) : LowPl P ⟨dst, .indexAddr t x i, type, pos, after, guard⟩ (.ixs size (iW x) (iW i)) := fun C f l H v H1 hf hr => by
 have hr : (c1g size (iW x) (iW i) f H).Is v H1 := hr
 unfold c1g at hr
 rw [jS hf, jS hf] at hr
 split at hr
 ·rename_i A a e n c hx
  obtain ⟨rfl, k, m, hj, hm, rfl⟩ := b4l hr
  simp only [opD, ht, hx, hj, hs, dc]
  rw [if_pos (by simp; omega)]
  rfl
 ·exact absurd hr Rs.ax
theorem c4h (a b : Nat) : Nat.beq a b = (a == b) := by
 cases h : Nat.beq a b with
 | true => rw [dY h]; simp
 | false => have := Nat.ne_of_beq_eq_false h; simp [this]
theorem c1V {A i size n : Nat} {H H1 : Heap} {j v : Value} (h : (ixG A i size n H j).Is v H1) : H1 = H ∧ ∃ k m, j = .int k (.ofNat m) ∧ m < n ∧ v = .pointer (some ⟨A, i + m * size, none⟩) := by
 unfold ixG at h
 split at h
 ·rename_i k m
  obtain ⟨h1, h⟩ := lC h
  rw [jX] at h
  obtain ⟨rfl, rfl⟩ := Rs.aO h
  exact ⟨rfl, k, m, rfl, by simpa [ia] using h1, rfl⟩
 ·exact absurd h Rs.ax
theorem b9I {t elem : TypeId} {n size : Nat} (ht : P.underlying t = some (.array n elem)) (hs : iE P elem = some size) (x i : Operand) : LowPl P ⟨dst, .indexAddr t x i, type, pos, after, guard⟩ (.ixa n size (iW x) (iW i)) := fun C f l H v H1 hf hr => by
 have hr : (c2M n size (iW x) (iW i) f H).Is v H1 := hr
 unfold c2M at hr
 rw [jS hf, jS hf] at hr
 split at hr
 ·rename_i A a e hx
  obtain ⟨rfl, k, m, hj, hm, rfl⟩ := b4l hr
  simp only [opD, ht, hx, hj, hs, dc]
  rw [if_pos (by simp; omega)]
  rfl
 ·rename_i A a hx
  obtain ⟨rfl, k, m, hj, hm, rfl⟩ := c1V hr
  simp only [opD, ht, hx, hj, hs, dc]
  rw [if_pos (by simp; omega)]
  rfl
 ·exact absurd hr Rs.ax
theorem b8M (i : Nat) (x : Operand) : LowPl P ⟨dst, .extract x i, type, pos, after, guard⟩ (.ext i (iW x)) := fun C f l H v H1 hf hr => by
 have hr : (c1A i (iW x) f H).Is v H1 := hr
 unfold c1A at hr
 rw [jS hf] at hr
 split at hr
 ·rename_i vs hx
  obtain ⟨h1, rfl⟩ := b6N hr
  rw [xM] at h1
  simp only [opD, hx]
  simp [h1]
 ·exact absurd hr Rs.ax
theorem b8x {c : Call} {elem : TypeId} (hc : c.callee = .builtin .len) (h1 : c.args.size = 1) (h2 : c.argTypes.size = 1) (ht : P.underlying (c.argTypes.getD 0 0) = some (.slice elem)) : LowPl P ⟨dst, .call c, type, pos, after, guard⟩ (.len (iW (c.args.getD 0 (.tmp 0)))) := fun C f l H v H1 hf hr => by
 have hr : (c1O (iW (c.args.getD 0 (.tmp 0))) f H).Is v H1 := hr
 unfold c1O at hr
 rw [jS hf] at hr
 split at hr
 ·rename_i a n k hx
  obtain ⟨rfl, rfl⟩ := Rs.aS hr
  simp only [opD, hc, h1, h2, ht, hx, wD]; rfl
 ·exact absurd hr Rs.ax
theorem b7f {c : Call} (hc : c.callee = .builtin .len) (h1 : c.args.size = 1) (h2 : c.argTypes.size = 1) (ht : P.underlying (c.argTypes.getD 0 0) = some .string) : LowPl P ⟨dst, .call c, type, pos, after, guard⟩ (.slen (iW (c.args.getD 0 (.tmp 0)))) := fun C f l H v H1 hf hr => by
 have hr : (b5a (iW (c.args.getD 0 (.tmp 0))) f H).Is v H1 := hr
 unfold b5a at hr
 rw [jS hf] at hr
 split at hr
 ·rename_i s hx
  obtain ⟨rfl, rfl⟩ := Rs.aS hr
  simp only [opD, hc, h1, h2, ht, hx, wD]; rfl
 ·exact absurd hr Rs.ax
theorem b9M {c : Call} {elem : TypeId} {size bytes : Nat} {z : Value} (hc : c.callee = .builtin .append) (h1 : c.args.size = 2) (h2 : c.argTypes.size = 2) (hi : ((P.underlying (c.argTypes.getD 1 0)).map pL) = some true)
 (he : iJ P (c.argTypes.getD 0 0) = some elem) (hs : iE P elem = some size) (hb : nI P elem = some bytes) (hz : jB P elem = some z) (hzs : z.cells.size = size) (hs0 : size ≠ 0) :
 LowPl P ⟨dst, .call c, type, pos, after, guard⟩ (.app elem size bytes (iW (c.args.getD 0 (.tmp 0))) (iW (c.args.getD 1 (.tmp 0)))) := fun C f l H v H1 hf hr => by
 have hr : (c2Q P elem size bytes (iW (c.args.getD 0 (.tmp 0))) (iW (c.args.getD 1 (.tmp 0))) f H).Is v H1 := hr
 unfold c2Q at hr
 rw [jS hf, jS hf] at hr
 have hD : opD P ⟨dst, .call c, type, pos, after, guard⟩ l H = nH P H (c.argTypes.getD 0 0) (ev l (c.args.getD 0 (.tmp 0))) (ev l (c.args.getD 1 (.tmp 0))) := by
  simp only [opD, hc, h1, h2, hi]; rfl
 rw [hD]
 unfold nH
 rw [he, dc, hs, dc, hb, dc, hz, dc]
 split at hr
 ·rename_i n m hsrc
  rw [hsrc, dc]
  unfold c4K at hr
  split at hr
  ·rename_i k cc hx
   obtain ⟨g1, hq1⟩ := lC hr
   obtain ⟨g2, hq2⟩ := lC hq1
   obtain ⟨g3, hq⟩ := lC hq2
   clear hr hq1 hq2
   obtain rfl : k = 0 := dY g1
   obtain rfl : cc = 0 := dY g2
   have g3 : n * (bytes + 1) ≤ oO := ew g3
   simp only [hx]
   rw [if_pos (by simp [hs0, hzs, g3])]
   rw [kQ] at hq
   by_cases hn : n = 0
   ·subst hn
    rw [if_pos (by rfl)] at hq
    obtain ⟨rfl, rfl⟩ := Rs.aO hq
    simp
   ·rw [if_neg (fun e => hn (dY e))] at hq
    obtain ⟨rfl, rfl⟩ := Rs.aS hq
    simp [hn]
  ·rename_i A i e k cc hx
   unfold c3l at hr
   split at hr
   ·rename_i cs ty lo ver hg
    obtain ⟨g2, hr⟩ := lC hr
    obtain ⟨g4, hr⟩ := lC hr
    obtain ⟨g5, hr⟩ := lC hr
    have g2 : (ty == elem || iE P ty == some size) = true := by
     rw [c4h] at g2
     cases hh : (ty == elem) with
     | true => rfl
     | false => rw [hh] at g2; exact g2
    rw [yA] at g4
    have g4 : e = cs.length := by simpa only [decide_eq_true_eq] using g4
    have g5 : lo ≤ e := ew g5
    simp only [hx, hg]
    rw [kQ] at hr
    by_cases g3 : i + k * size = e
    ·rw [if_pos (by simpa using g3)] at hr
     obtain ⟨g1, hr⟩ := lC hr
     obtain ⟨rfl, rfl⟩ := Rs.aS hr
     have g1 : (k + n) * (bytes + 1) ≤ oO := ew g1
     have et : (Bool.rec (motive := fun _ => Nat) 2 ver (Nat.beq ty elem)) = (if (ty == elem) = true then ver else 2) := by
      rw [c4h]
      cases hh : (ty == elem) with
      | true => rfl
      | false => rfl
     rw [et, if_pos (by simp only [g2, ft, de, bne_iff_ne, beq_iff_eq, decide_eq_true_eq]; exact ⟨⟨⟨⟨⟨hs0, g1⟩, by simpa using hzs⟩, g3⟩, g4⟩, g5⟩)]
    ·rw [if_neg (by simpa using g3)] at hr
     rw [kQ] at hr
     by_cases hn : n = 0
     ·rw [if_pos (by simpa using hn)] at hr
      exact absurd hr Rs.ax
     ·rw [if_neg (by simpa using hn)] at hr
      obtain ⟨g6, hr⟩ := lC hr
      obtain ⟨rfl, rfl⟩ := Rs.aS hr
      have g6 : i + (k + n) * size ≤ e := ew g6
      rw [if_neg (by simp [g3]), if_pos (by simp only [g2, ft, de, bne_iff_ne, beq_iff_eq, decide_eq_true_eq]; exact ⟨⟨⟨⟨⟨hs0, hn⟩, by simpa using hzs⟩, g6⟩, g4⟩, g5⟩), g4]
   ·exact absurd hr Rs.ax
  ·exact absurd hr Rs.ax
 ·exact absurd hr Rs.ax
theorem b3f {c : Call} {k : FuncId} (hc : c.callee = .value (.func k)) (hok : (Op.call c).operands.toList.all iO = true) : vH P ⟨dst, .call c, type, pos, after, guard⟩ (.callF k (kR k) (c.args.toList.map iW)) := fun C H0 f l H v H1 hC hk hf hr => by
 have hr : (a3u f (c.args.toList.map iW) fun l => C.fn (kR k) k l H).Is v H1 := hr
 rw [a7J hf] at hr
 obtain ⟨h1 | hx, h2⟩ := hC.fn _ _ _ _ _ _ hk hr rfl
 case inr => exact ⟨.ext hok c (.func k) k #[] #[] rfl hc rfl (by simpa using hx), h2⟩
 obtain ⟨he, v', H', hcall, rfl, rfl⟩ := h1.fn
 exact ⟨.call hok c (.func k) k #[] #[] rfl hc rfl he (by simpa using hcall), h2⟩
theorem b3o {c : Call} {g : Operand} (hc : c.callee = .value g) (hok : (Op.call c).operands.toList.all iO = true) : vH P ⟨dst, .call c, type, pos, after, guard⟩ (.callV (iW g) (c.args.toList.map iW)) := fun C H0 f l H v H1 hC hk hf hr => by
 have hr : (a3u f (c.args.toList.map iW) fun l => a9P C l H (mJ f (iW g))).Is v H1 := hr
 rw [a7J hf, jS hf] at hr
 unfold a9P at hr
 split at hr
 ·rename_i k a b hg
  rw [jX, lK] at hr
  obtain ⟨h1 | hx, h2⟩ := hC.fn _ _ _ _ _ _ hk hr rfl
  case inr => exact ⟨.ext hok c g k ⟨a⟩ ⟨b⟩ rfl hc hg (by simpa [yM] using hx), h2⟩
  obtain ⟨he, v', H', hcall, rfl, rfl⟩ := h1.fn
  exact ⟨.call hok c g k ⟨a⟩ ⟨b⟩ rfl hc hg he (by simpa [yM] using hcall), h2⟩
 ·rename_i L a b hg
  obtain ⟨h1, h2⟩ := hC.rd _ _ _ _ _ hk hr
  exact ⟨.round hok c g L _ _ rfl hc hg h1, h2⟩
 ·exact absurd hr Rs.ax
end
set_option maxHeartbeats 1000000 in
theorem b1k {α : Type} (o : Oper) (K : LOp → α) : ∃ lo, vH P o lo ∧ xW P o K = K lo := by
 unfold xW
 rw [kQ]
 by_cases hok : o.op.operands.toList.all iO = true
 case neg => rw [if_neg hok]; exact ⟨_, b7B o, rfl⟩
 rw [if_pos hok]
 have gen : ∃ lo, vH P o lo ∧ K (.gen o) = K lo := ⟨_, (b7S o).low hok, rfl⟩
 obtain ⟨dst, op, type, pos, after, guard⟩ := o
 unfold c3S
 cases op with
 | move x => simp only [kZ]; exact ⟨_, (c2l x).low hok, rfl⟩
 | assign x => simp only [kZ]; exact ⟨_, (c2j x).low hok, rfl⟩
 | pick c a b => simp only [kZ]; exact ⟨_, (b6M c a b).low hok, rfl⟩
 | binOp op t x y yt =>
   simp only [kZ, kQ]
   split
   ·split
    ·rename_i g hg; exact ⟨_, (b9d hg t yt x y).low hok, rfl⟩
    ·exact gen
   ·exact gen
 | load t x =>
   simp only [kZ]
   split
   ·rename_i ht
    cases hn : iE P t with
    | none => exact gen
    | some n => rw [oS]; exact ⟨_, (b8U ht hn x).low hok, rfl⟩
   ·rename_i ht; exact ⟨_, (b9Y ht x).low hok, rfl⟩
   ·exact gen
 | store t x y =>
   simp only [kZ]
   cases hn : iE P t with
   | none => exact gen
   | some n => rw [oS]; exact ⟨_, (c2n hn x y).low hok, rfl⟩
 | fieldAddr s x k =>
   simp only [kZ]
   split
   ·rename_i fd hfd
    split
    ·exact gen
    ·rename_i n hn0 hn
     rw [jX]
     exact ⟨_, (c2a hfd hn (fun e => hn0 e) x).low hok, rfl⟩
    ·exact gen
   ·exact gen
 | indexAddr t x i =>
   simp only [kZ]
   split
   ·rename_i elem ht
    cases hs : iE P elem with
    | none => exact gen
    | some n => rw [oS]; exact ⟨_, (b7I ht hs x i).low hok, rfl⟩
   ·rename_i n elem ht
    cases hs : iE P elem with
    | none => exact gen
    | some m => rw [oS]; exact ⟨_, (b9I ht hs x i).low hok, rfl⟩
   ·exact gen
 | extract t i => simp only [kZ]; rw [jX]; exact ⟨_, (b8M i t).low hok, rfl⟩
 | call c =>
   simp only
   unfold b6n
   split
   ·rename_i k hc
    rw [lK, a3Q]
    exact ⟨_, b3f hc hok, rfl⟩
   ·rename_i g _ hc
    rw [kZ, a3Q]
    exact ⟨_, b3o hc hok, rfl⟩
   ·rename_i hc
    rw [kQ]
    split
    ·rename_i h1
     simp only [de, beq_iff_eq] at h1
     split
     ·rename_i elem ht; rw [kZ]; exact ⟨_, (b8x hc h1.1 h1.2 ht).low hok, rfl⟩
     ·rename_i ht; rw [kZ]; exact ⟨_, (b7f hc h1.1 h1.2 ht).low hok, rfl⟩
     ·exact gen
    ·exact gen
   ·rename_i hc
    rw [kQ]
    split
    ·rename_i h1
     simp only [de, beq_iff_eq] at h1
     split
     ·rename_i elem he
      cases hs : iE P elem with
      | none => exact gen
      | some size =>
        rw [oS]
        cases hb : nI P elem with
        | none => exact gen
        | some bytes =>
          rw [oS]
          split
          ·rename_i z hz
           rw [kQ]
           split
           ·rename_i h2
            simp only [de, beq_iff_eq, bne_iff_ne] at h2
            rw [jX, kZ, kZ]
            exact ⟨_, (b9M hc h1.1.1 h1.1.2 h1.2 he hs hb hz h2.1 h2.2).low hok, rfl⟩
           ·exact gen
          ·exact gen
     ·exact gen
    ·exact gen
   ·exact gen
 | _ => exact gen
def DOk (k : Nat) (dst : Option Tmp) (d : Option Pth) : Prop := (dst = none ∧ d = none) ∨ ∃ t, dst = some t ∧ t < k ∧ d = some (kR t)
inductive LowOps (P : Program) (k : Nat) (ops : Array Oper) : List Oper → LOps → Prop
 | nil : LowOps P k ops [] .nil
 | cons {o : Oper} {os : List Oper} {d : Option Pth} {lo : LOp} {r : LOps} (hd : DOk k o.dst d) (ho : vH P o lo) (hg : o.guard = none) (hr : LowOps P k ops os r) : LowOps P k ops (o :: os) (.cons d lo r)
 | gcons {o : Oper} {os : List Oper} {d : Option Pth} {lo : LOp} {r : LOps} {j t : Nat} {w : Bool} (hd : DOk k o.dst d) (ho : vH P o lo) (hg : o.guard = some (j, w)) (ht : (ops[j]?).bind (·.dst) = some t) (htk : t < k) (hr : LowOps P k ops os r) : LowOps P k ops (o :: os) (.gcons (kR t) w d lo r)
def GOk (ops : Array Oper) (o : Oper) (g : Option (Pth × Bool)) : Prop := (o.guard = none ∧ g = none) ∨ ∃ j w t, o.guard = some (j, w) ∧ (ops[j]?).bind (·.dst) = some t ∧ g = some (kR t, w)
theorem GOk.runs {ops : Array Oper} {o : Oper} {g : Option (Pth × Bool)} (h : GOk ops o g) {f : Fr} {l : List Value} (hf : FAg f l) (hw : Region.wanted o (iV ops l) = true) : b4X f g = true := by
 rcases h with ⟨_, rfl⟩ | ⟨j, w, t, hg, ht, rfl⟩
 ·rfl
 ·simp only [Region.wanted, hg, iV, ht] at hw
  show isB (nU (kR t) f) w = true
  rw [hf t, nZ, dj]
  cases hl : l[t]? with
  | none => rw [hl] at hw; simp at hw
  | some v =>
    rw [hl] at hw
    cases v <;> simp at hw
    subst hw
    rename_i b
    cases b <;> rfl
inductive LowTab (P : Program) (ops : Array Oper) : List (Nat × Nat) → List (Nat × Option Nat × Option (Pth × Bool) × LOp) → Prop
 | nil : LowTab P ops [] []
 | cons {i m : Nat} {o : Oper} {lo : LOp} {tab : List (Nat × Nat)} {t : List (Nat × Option Nat × Option (Pth × Bool) × LOp)} {g : Option (Pth × Bool)} (ho : ops[i]? = some o) (hgd : GOk ops o g) (hl : vH P o lo) (hr : LowTab P ops tab t) :
    LowTab P ops ((i, m) :: tab) ((ops.size - 1 - i, if m < ops.size then some (ops.size - 1 - m) else none, g, lo) :: t)
inductive Low (P : Program) (k : Nat) : Code → LCode → Prop
 | bad (c : Code) : Low P k c .bad
 | skip : Low P k .skip .skip
 | label (t : Nat) : Low P k (.label t) .skip
 | reg {id : Nat} {ops : Array Oper} {d : Bool} {lo : LOps} (h : LowOps P k ops ops.toList lo) (hd : d = true → nB P ops = some []) : Low P k (.region id ops d) (.reg lo)
 | drw {id : Nat} {ops : Array Oper} {lo : LOps} {tab : List (Nat × Nat)} {t : List (Nat × Option Nat × Option (Pth × Bool) × LOp)} (h : LowOps P k ops ops.toList lo) (ht : nB P ops = some tab) (hl : LowTab P ops tab t) : Low P k (.region id ops true) (.drw lo t)
 | seq {a b : Code} {A B : LCode} (ha : Low P k a A) (hb : Low P k b B) : Low P k (.seq a b) (.seq A B)
 | cond {c : Operand} {x y : Code} {X Y : LCode} (hc : iO c = true) (hx : Low P k x X) (hy : Low P k y Y) : Low P k (.cond c x y) (.cond (iW c) X Y)
 | block {id : Nat} {b : Code} {B : LCode} (hb : Low P k b B) : Low P k (.block id b) (.block id B)
 | loop {b : Code} {B : LCode} (hb : Low P k b B) : Low P k (.loop b) (.loop B)
 | exit (id : Nat) : Low P k (.exit id) (.exit id)
 | ret : Low P k .ret .ret
 | range {g : Operand} {ps : Array Tmp} {assign body : Code} {A B : LCode} (hg : iO g = true) (hps : ∀ t ∈ ps.toList, t < k) (ha : Low P k assign A) (hb : Low P k body B) :
    Low P k (.rangeFunc g ps assign body) (.range (iW g) ((List.range k).map kR) (ps.toList.map kR) ps assign body A B)
section
variable {α : Type}
theorem b5p (k : Nat) (dst : Option Tmp) (no : α) (K : Option Pth → α) : (∃ d, DOk k dst d ∧ a8i k dst no K = K d) ∨ a8i k dst no K = no := by
 cases dst with
 | none => exact .inl ⟨none, .inl ⟨rfl, rfl⟩, rfl⟩
 | some t =>
   simp only [a8i, kQ]
   split
   ·rename_i h
    rw [lK]
    rw [blt_eq] at h
    exact .inl ⟨_, .inr ⟨t, rfl, by simpa using h, rfl⟩, rfl⟩
   ·exact .inr rfl
theorem a1U (k : Nat) (ops : Array Oper) (l : List Oper) (K : LOps → α) (no : α) : (∃ L, LowOps P k ops l L ∧ uF P k ops l K no = K L) ∨ uF P k ops l K no = no := by
 induction l generalizing K with
 | nil => exact .inl ⟨_, .nil, rfl⟩
 | cons o l ih =>
   let K2 : Option Pth → LOp → α := fun d o' => match o.guard with
    | none => uF P k ops l (fun r => K (.cons d o' r)) no
    | some (j, w) => match (ops[j]?).bind (·.dst) with
      | some t => nS (Nat.blt t k) no (lM (kR t) fun p => zZ w fun w => uF P k ops l (fun r => K (.gcons p w d o' r)) no)
      | none => no
   have e : uF P k ops (o :: l) K no = a8i k o.dst no fun d => xW P o fun o' => K2 d o' := rfl
   rw [e]
   rcases b5p k o.dst no (fun d => xW P o fun o' => K2 d o') with ⟨d, hd, h1⟩ | h1
   ·rw [h1]
    obtain ⟨lo, hlo, h2⟩ := b1k (P := P) o (fun o' => K2 d o')
    rw [h2]
    simp only [K2]
    split
    ·rename_i hg
     rcases ih (fun r => K (.cons d lo r)) with ⟨L, hL, h3⟩ | h3
     ·exact .inl ⟨_, .cons hd hlo hg hL, h3⟩
     ·exact .inr h3
    ·rename_i j w hg
     split
     ·rename_i t ht
      rw [kQ]
      split
      ·rename_i htk
       rw [lK, uU]
       rw [blt_eq] at htk
       rcases ih (fun r => K (.gcons (kR t) w d lo r)) with ⟨L, hL, h3⟩ | h3
       ·exact .inl ⟨_, .gcons hd hlo hg ht (by simpa using htk) hL, h3⟩
       ·exact .inr h3
      ·exact .inr rfl
     ·exact .inr rfl
   ·exact .inr h1
theorem c1o (k : Nat) (ops : Array Oper) (o : Oper) (no : α) (K : Option (Pth × Bool) → α) : (∃ g, GOk ops o g ∧ loG k ops o.guard no K = K g) ∨ loG k ops o.guard no K = no := by
 cases hg : o.guard with
 | none => exact .inl ⟨none, .inl ⟨hg, rfl⟩, rfl⟩
 | some x =>
   obtain ⟨j, w⟩ := x
   unfold loG
   cases ht : (ops[j]?).bind (·.dst) with
   | none => exact .inr (by simp only [ht])
   | some t =>
     simp only [ht, kQ]
     split
     ·refine .inl ⟨some (kR t, w), .inr ⟨j, w, t, hg, ht, rfl⟩, ?_⟩
      rw [lK, uU]
     ·exact .inr rfl
theorem b7j (k : Nat) (ops : Array Oper) (tab : List (Nat × Nat)) (K : List (Nat × Option Nat × Option (Pth × Bool) × LOp) → α) (no : α) : (∃ t, LowTab P ops tab t ∧ tE P k ops ops.size tab K no = K t) ∨ tE P k ops ops.size tab K no = no := by
 induction tab generalizing K with
 | nil => exact .inl ⟨_, .nil, rfl⟩
 | cons x tab ih =>
   obtain ⟨i, m⟩ := x
   cases ho : ops[i]? with
   | none =>
     refine .inr ?_
     show (match ops[i]? with
      | some o => _
      | none => no) = no
     rw [ho]
   | some o =>
     let K2 : Option (Pth × Bool) → LOp → α := fun g o' => kD (ops.size - 1 - i) fun i => nS (Nat.blt m ops.size) (tE P k ops ops.size tab (fun l => K ((i, none, g, o') :: l)) no) (kD (ops.size - 1 - m) fun m => tE P k ops ops.size tab (fun l => K ((i, some m, g, o') :: l)) no)
     have e : tE P k ops ops.size ((i, m) :: tab) K no = loG k ops o.guard no fun g => xW P o fun o' => K2 g o' := by
      show (match ops[i]? with
       | some o => loG k ops o.guard no fun g => xW P o fun o' => K2 g o'
       | none => no) = _
      rw [ho]
     rw [e]
     rcases c1o k ops o no (fun g => xW P o fun o' => K2 g o') with ⟨g, hgd, h1⟩ | h1
     ·rw [h1]
      obtain ⟨lo, hlo, h2⟩ := b1k (P := P) o (fun o' => K2 g o')
      rw [h2]
      show (∃ t, _ ∧ kD (ops.size - 1 - i) (fun i => nS (Nat.blt m ops.size) (tE P k ops ops.size tab (fun l => K ((i, none, g, lo) :: l)) no) (kD (ops.size - 1 - m) fun m => tE P k ops ops.size tab (fun l => K ((i, some m, g, lo) :: l)) no)) = K t) ∨ kD (ops.size - 1 - i) (fun i => nS (Nat.blt m ops.size) (tE P k ops ops.size tab (fun l => K ((i, none, g, lo) :: l)) no) (kD (ops.size - 1 - m) fun m => tE P k ops ops.size tab (fun l => K ((i, some m, g, lo) :: l)) no)) = no
      rw [jX, kQ, jX, blt_eq]
      by_cases hm : m < ops.size
      ·rw [if_pos (by simpa using hm)]
       rcases ih (fun l => K ((ops.size - 1 - i, some (ops.size - 1 - m), g, lo) :: l)) with ⟨t, ht, h3⟩ | h3
       ·have := LowTab.cons (m := m) ho hgd hlo ht
        rw [if_pos hm] at this
        exact .inl ⟨_, this, h3⟩
       ·exact .inr h3
      ·rw [if_neg (by simpa using hm)]
       rcases ih (fun l => K ((ops.size - 1 - i, none, g, lo) :: l)) with ⟨t, ht, h3⟩ | h3
       ·have := LowTab.cons (m := m) ho hgd hlo ht
        rw [if_neg hm] at this
        exact .inl ⟨_, this, h3⟩
       ·exact .inr h3
     ·exact .inr h1
theorem b2B (k : Nat) (l : List Tmp) (K : List Pth → α) (no : α) : ((∀ t ∈ l, t < k) ∧ wN k l K no = K (l.map kR)) ∨ wN k l K no = no := by
 induction l generalizing K with
 | nil => exact .inl ⟨by simp, rfl⟩
 | cons t l ih =>
   show _ ∨ nS (Nat.blt t k) no (lM (kR t) fun p => wN k l (fun l => K (p :: l)) no) = no
   have e : wN k (t :: l) K no = nS (Nat.blt t k) no (lM (kR t) fun p => wN k l (fun l => K (p :: l)) no) := rfl
   rw [e, kQ, lK, blt_eq]
   by_cases h : t < k
   ·rw [if_pos (by simpa using h)]
    rcases ih (fun l => K (kR t :: l)) with ⟨h1, h2⟩ | h2
    ·exact .inl ⟨by simpa using ⟨h, h1⟩, h2⟩
    ·exact .inr h2
   ·rw [if_neg (by simpa using h)]; exact .inr rfl
theorem b3s (k : Nat) (c : Code) (K : LCode → α) : ∃ C, Low P k c C ∧ nC P k c K = K C := by
 induction c generalizing K with
 | skip => exact ⟨_, .skip, rfl⟩
 | region id ops d =>
   cases d with
   | false =>
     show ∃ C, _ ∧ uF P k ops ops.toList (fun l => K (.reg l)) (K .bad) = K C
     rcases a1U (P := P) k ops ops.toList (fun l => K (.reg l)) (K .bad) with ⟨L, hL, h⟩ | h
     ·exact ⟨_, .reg hL (fun h => by cases h), h⟩
     ·exact ⟨_, .bad _, h⟩
   | true =>
     show ∃ C, _ ∧ (match nB P ops with
      | some [] => uF P k ops ops.toList (fun l => K (.reg l)) (K .bad)
      | some tab => uF P k ops ops.toList (fun l => tE P k ops ops.size tab (fun t => K (.drw l t)) (K .bad)) (K .bad)
      | none => K .bad) = K C
     split
     ·rename_i hd
      rcases a1U (P := P) k ops ops.toList (fun l => K (.reg l)) (K .bad) with ⟨L, hL, h⟩ | h
      ·exact ⟨_, .reg hL (fun _ => hd), h⟩
      ·exact ⟨_, .bad _, h⟩
     ·rename_i tab _ hd
      rcases a1U (P := P) k ops ops.toList (fun l => tE P k ops ops.size tab (fun t => K (.drw l t)) (K .bad)) (K .bad) with ⟨L, hL, h⟩ | h
      ·rw [h]
       rcases b7j (P := P) k ops tab (fun t => K (.drw L t)) (K .bad) with ⟨t, ht, h2⟩ | h2
       ·exact ⟨_, .drw hL hd ht, h2⟩
       ·exact ⟨_, .bad _, h2⟩
      ·exact ⟨_, .bad _, h⟩
     ·exact ⟨_, .bad _, rfl⟩
 | seq a b iha ihb =>
   show ∃ C, _ ∧ nC P k a (fun a => nC P k b fun b => K (.seq a b)) = K C
   obtain ⟨A, hA, h1⟩ := iha (fun a => nC P k b fun b => K (.seq a b))
   obtain ⟨B, hB, h2⟩ := ihb (fun b => K (.seq A b))
   exact ⟨_, .seq hA hB, h1.trans h2⟩
 | cond c x y ihx ihy =>
   show ∃ C, _ ∧ nS (iO c) (K .bad) (lR c fun c => nC P k x fun x => nC P k y fun y => K (.cond c x y)) = K C
   rw [kQ]
   split
   ·rename_i hc
    rw [kZ]
    obtain ⟨X, hX, h1⟩ := ihx (fun x => nC P k y fun y => K (.cond (iW c) x y))
    obtain ⟨Y, hY, h2⟩ := ihy (fun y => K (.cond (iW c) X y))
    exact ⟨_, .cond hc hX hY, h1.trans h2⟩
   ·exact ⟨_, .bad _, rfl⟩
 | block id b ih =>
   show ∃ C, _ ∧ kD id (fun id => nC P k b fun b => K (.block id b)) = K C
   rw [jX]
   obtain ⟨B, hB, h1⟩ := ih (fun b => K (.block id b))
   exact ⟨_, .block hB, h1⟩
 | loop b ih =>
   show ∃ C, _ ∧ nC P k b (fun b => K (.loop b)) = K C
   obtain ⟨B, hB, h1⟩ := ih (fun b => K (.loop b))
   exact ⟨_, .loop hB, h1⟩
 | rangeFunc g ps assign body iha ihb =>
   show ∃ C, _ ∧ nS (iO g) (K .bad) (lR g fun g' => b2t k fun pp => wN k ps.toList (fun q => nC P k assign fun a => nC P k body fun b => K (.range g' pp q ps assign body a b)) (K .bad)) = K C
   rw [kQ]
   split
   ·rename_i hg
    rw [kZ, b1s]
    rcases b2B k ps.toList (fun q => nC P k assign fun a => nC P k body fun b => K (.range (iW g) ((List.range k).map kR) q ps assign body a b)) (K .bad) with ⟨hps, h⟩ | h
    ·obtain ⟨A, hA, h1⟩ := iha (fun a => nC P k body fun b => K (.range (iW g) ((List.range k).map kR) (ps.toList.map kR) ps assign body a b))
     obtain ⟨B, hB, h2⟩ := ihb (fun b => K (.range (iW g) ((List.range k).map kR) (ps.toList.map kR) ps assign body A b))
     exact ⟨_, .range hg hps hA hB, h.trans (h1.trans h2)⟩
    ·exact ⟨_, .bad _, h⟩
   ·exact ⟨_, .bad _, rfl⟩
 | exit id =>
   show ∃ C, _ ∧ kD id (fun id => K (.exit id)) = K C
   rw [jX]
   exact ⟨_, .exit id, rfl⟩
 | label t => exact ⟨_, .label t, rfl⟩
 | ret => exact ⟨_, .ret, rfl⟩
 | scope b _ => exact ⟨_, .bad _, rfl⟩
 | goto t => exact ⟨_, .bad _, rfl⟩
 | refuse w => exact ⟨_, .bad _, rfl⟩
end
theorem vA {α : Type} {k : Nat} {f : Fr} {l : List Value} (h : FRel k f l) {dst : Option Tmp} {d : Option Pth} (hd : DOk k dst d) (v : Value) (K : Fr → α) : ∃ f', tR d v f K = K f' ∧ FRel k f' (put l dst v) := by
 rcases hd with ⟨rfl, rfl⟩ | ⟨t, rfl, ht, rfl⟩
 ·exact ⟨f, rfl, h⟩
 ·exact ⟨b6i f t v, sH v (kR t) f K, h.put ht v⟩
theorem xK {ops : Array Oper} {l : List Value} {j t : Nat} (ht : (ops[j]?).bind (·.dst) = some t) (htl : t < l.length) (w : Bool) : (iV ops l j == some w) = isB (get l t) w := by
 have hg : get l t = l[t] := by rw [nZ]; simp [htl]
 unfold iV
 rw [ht, hg]
 simp only [dx htl]
 cases hv : l[t] <;> simp [isB]
 rename_i b
 cases b <;> cases w <;> rfl
theorem b9u {k : Nat} {ops : Array Oper} {C : Calls'} {H0 : Heap} (hC : CallsOk P C H0) {os : List Oper} {lo : LOps} (hlo : LowOps P k ops os lo) : ∀ {i : Nat}, ops.toList.drop i = os → ∀ {f : Fr} {l : List Value} {H : Heap} {f1 : Fr} {H1 : Heap},
 FRel k f l → LK H0 H → wY P C lo f H = .ok f1 H1 → ∃ l1, FRel k f1 l1 ∧ OpsR P ops (List.range' i os.length) l H l1 H1 ∧ LK H H1 := by
 induction hlo with
 | nil =>
   intro i _ f l H f1 H1 hf _ h
   injection h with h1 h2
   subst h1 h2
   exact ⟨l, hf, .nil l H, .refl H⟩
 | @cons o os d lo r hd ho hg hr ih =>
   intro i hi f l H f1 H1 hf hk h
   have hio : ops[i]? = some o := by
    have : (ops.toList.drop i)[0]? = some o := by rw [hi]; rfl
    rw [dL] at this
    simpa using this
   have hi' : ops.toList.drop (i + 1) = os := by rw [← fw, hi]; rfl
   have hw : Region.wanted o (iV ops l) = true := by simp [Region.wanted, hg]
   have h : b0W Rf.no d f (wY P C r) (opF P C lo f H) = .ok f1 H1 := h
   have key : ∀ v H2, (opF P C lo f H).Is v H2 → (tR d v f fun f => wY P C r f H2) = .ok f1 H1 → ∃ l1, FRel k f1 l1 ∧ OpsR P ops (List.range' i (o :: os).length) l H l1 H1 ∧ LK H H1 := by
    intro v H2 hop hrest
    obtain ⟨hs, hk2⟩ := ho C H0 f l H v H2 hC hk hf.2 hop
    obtain ⟨f', e, hf'⟩ := vA hf hd v (fun f => wY P C r f H2)
    rw [e] at hrest
    obtain ⟨l1, h1, h2, h3⟩ := ih hi' hf' (hk.trans hk2) hrest
    exact ⟨l1, h1, .step hio hw hs h2, hk2.trans h3⟩
   cases hop : opF P C lo f H with
   | no => rw [hop] at h; cases h
   | ok v H2 => rw [hop] at h; exact key v H2 (.inl hop) h
   | th v H2 =>
     rw [hop] at h
     have h : yX v (fun v => nK H2 fun H2 => tR d v f fun f => wY P C r f H2) = .ok f1 H1 := h
     rw [xN, lU] at h
     exact key v H2 (.inr hop) h
 | @gcons o os d lo r j t w hd ho hg ht htk hr ih =>
   intro i hi f l H f1 H1 hf hk h
   have hio : ops[i]? = some o := by
    have : (ops.toList.drop i)[0]? = some o := by rw [hi]; rfl
    rw [dL] at this
    simpa using this
   have hi' : ops.toList.drop (i + 1) = os := by rw [← fw, hi]; rfl
   have hwi : Region.wanted o (iV ops l) = isB (nU (kR t) f) w := by
    simp only [Region.wanted, hg]
    rw [xK ht (by rw [hf.1]; exact htk) w, hf.2 t]
   have h : nS (isB (nU (kR t) f) w) (tR d undef f fun f => wY P C r f H) (b0W Rf.no d f (wY P C r) (opF P C lo f H)) = .ok f1 H1 := h
   rw [kQ] at h
   split at h
   ·rename_i hb
    have key : ∀ v H2, (opF P C lo f H).Is v H2 → (tR d v f fun f => wY P C r f H2) = .ok f1 H1 → ∃ l1, FRel k f1 l1 ∧ OpsR P ops (List.range' i (o :: os).length) l H l1 H1 ∧ LK H H1 := by
     intro v H2 hop hrest
     obtain ⟨hs, hk2⟩ := ho C H0 f l H v H2 hC hk hf.2 hop
     obtain ⟨f', e, hf'⟩ := vA hf hd v (fun f => wY P C r f H2)
     rw [e] at hrest
     obtain ⟨l1, h1, h2, h3⟩ := ih hi' hf' (hk.trans hk2) hrest
     exact ⟨l1, h1, .step hio (by rw [hwi, hb]) hs h2, hk2.trans h3⟩
    cases hop : opF P C lo f H with
    | no => rw [hop] at h; cases h
    | ok v H2 => rw [hop] at h; exact key v H2 (.inl hop) h
    | th v H2 =>
      rw [hop] at h
      have h : yX v (fun v => nK H2 fun H2 => tR d v f fun f => wY P C r f H2) = .ok f1 H1 := h
      rw [xN, lU] at h
      exact key v H2 (.inr hop) h
   ·rename_i hb
    obtain ⟨f', e, hf'⟩ := vA hf hd undef (fun f => wY P C r f H)
    rw [e] at h
    obtain ⟨l1, h1, h2, h3⟩ := ih hi' hf' hk h
    exact ⟨l1, h1, .past hio (by rw [hwi]; simpa using hb) h2, h3⟩
structure Noted (P : Program) (k : Nat) (ops : Array Oper) (H : Heap) (i n : Nat) (T : Nat → List Value × Heap) (val : Nat → Value) (tr0 tr : List (Fr × Heap × Value)) : Prop where
 step : ∀ j, i ≤ j → j < i + n → vK P ops j (T j) (T (j + 1)) (val j)
 new : ∀ j, i ≤ j → j < i + n → ∃ g, tr[i + n - 1 - j]? = some (g, (T j).2, val j) ∧ FAg g (T j).1
 old : ∀ m, tr[n + m]? = tr0[m]?
 lk : ∀ j, i ≤ j → j ≤ i + n → LK H (T j).2
theorem b6O {k : Nat} {ops : Array Oper} {C : Calls'} {H0 : Heap} (hC : CallsOk P C H0) {os : List Oper} {lo : LOps} (hlo : LowOps P k ops os lo) : ∀ {i : Nat}, ops.toList.drop i = os → ∀ {tr0 tr : List (Fr × Heap × Value)} {f : Fr} {l : List Value} {H : Heap} {f1 : Fr} {H1 : Heap},
 FRel k f l → LK H0 H → qX P C lo tr0 f H = .ok tr f1 H1 → ∃ T val l1, T i = (l, H) ∧ T (i + os.length) = (l1, H1) ∧ FRel k f1 l1 ∧ Noted P k ops H i os.length T val tr0 tr := by
 have more : ∀ {i n : Nat} {o : Oper} {tr0 tr : List (Fr × Heap × Value)} {f : Fr} {l : List Value} {H : Heap} {v : Value} {l2 : List Value} {H2 : Heap} {l1 : List Value} {H1 : Heap} {f1 : Fr}, FRel k f l → vK P ops i (l, H) (l2, H2) v → LK H H2 →
  (∃ T val l1, T (i + 1) = (l2, H2) ∧ T (i + 1 + n) = (l1, H1) ∧ FRel k f1 l1 ∧ Noted P k ops H2 (i + 1) n T val ((f, H, v) :: tr0) tr) →
  ∃ T val l1, T i = (l, H) ∧ T (i + (n + 1)) = (l1, H1) ∧ FRel k f1 l1 ∧ Noted P k ops H i (n + 1) T val tr0 tr := by
  intro i n o tr0 tr f l H v l2 H2 _ H1 f1 hf hst hk ⟨T, val, l1, h1, h2, h3, hN⟩
  refine ⟨fun j => if j ≤ i then (l, H) else T j, fun j => if j ≤ i then v else val j, l1, by simp, ?_, h3, ?_⟩
  ·show (if i + (n + 1) ≤ i then (l, H) else T (i + (n + 1))) = _
   rw [if_neg (by omega), ← h2]; congr 1; omega
  ·refine ⟨fun j hj hn => ?_, fun j hj hn => ?_, fun m => ?_, fun j hj hn => ?_⟩
   ·by_cases he : j = i
    ·subst he
     simp only [dq, if_true]
     rw [if_neg (by omega), h1]
     exact hst
    ·rw [if_neg (by omega), if_neg (by omega), if_neg (by omega)]
     exact hN.step j (by omega) (by omega)
   ·by_cases he : j = i
    ·subst he
     simp only [dq, if_true]
     refine ⟨f, ?_, hf.2⟩
     have := hN.old 0
     rw [show j + (n + 1) - 1 - j = n + 0 by omega, this]; rfl
    ·rw [if_neg (by omega), if_neg (by omega)]
     obtain ⟨g, hg, hag⟩ := hN.new j (by omega) (by omega)
     exact ⟨g, by rw [← hg]; congr 1; omega, hag⟩
   ·have := hN.old (m + 1)
    rw [show n + 1 + m = n + (m + 1) by omega, this]; rfl
   ·by_cases he : j = i
    ·subst he; simp only [dq, if_true]; exact .refl H
    ·rw [if_neg (by omega)]; exact hk.trans (hN.lk j (by omega) (by omega))
 induction hlo with
 | nil =>
   intro i _ tr0 tr f l H f1 H1 hf _ h
   injection h with h1 h2 h3
   subst h1 h2 h3
   exact ⟨fun _ => (l, H), fun _ => undef, l, rfl, rfl, hf, fun j _ h => absurd h (by simp; omega), fun j _ h => absurd h (by simp; omega), fun m => by simp, fun _ _ _ => .refl H⟩
 | @cons o os d lo r hd ho hg hr ih =>
   intro i hi tr0 tr f l H f1 H1 hf hk h
   have hio : ops[i]? = some o := by
    have : (ops.toList.drop i)[0]? = some o := by rw [hi]; rfl
    rw [dL] at this
    simpa using this
   have hi' : ops.toList.drop (i + 1) = os := by rw [← fw, hi]; rfl
   have hw : Region.wanted o (iV ops l) = true := by simp [Region.wanted, hg]
   have h : b0U tr0 f H d (qX P C r) (opF P C lo f H) = .ok tr f1 H1 := h
   have key : ∀ v H2, (opF P C lo f H).Is v H2 → (tR d v f fun f2 => qX P C r ((f, H, v) :: tr0) f2 H2) = .ok tr f1 H1 → ∃ T val l1, T i = (l, H) ∧ T (i + (o :: os).length) = (l1, H1) ∧ FRel k f1 l1 ∧ Noted P k ops H i (o :: os).length T val tr0 tr := by
    intro v H2 hop hrest
    obtain ⟨hs, hk2⟩ := ho C H0 f l H v H2 hC hk hf.2 hop
    obtain ⟨f', e, hf'⟩ := vA hf hd v (fun f2 => qX P C r ((f, H, v) :: tr0) f2 H2)
    rw [e] at hrest
    have := ih hi' hf' (hk.trans hk2) hrest
    exact more (o := o) (l1 := l) hf ⟨o, hio, rfl, .inl ⟨hw, hs⟩⟩ hk2 this
   cases hop : opF P C lo f H with
   | no => rw [hop] at h; cases h
   | ok v H2 => rw [hop] at h; exact key v H2 (.inl hop) h
   | th v H2 =>
     rw [hop] at h
     have h : yX v (fun v => nK H2 fun H2 => tR d v f fun f2 => qX P C r ((f, H, v) :: tr0) f2 H2) = .ok tr f1 H1 := h
     rw [xN, lU] at h
     exact key v H2 (.inr hop) h
 | @gcons o os d lo r j t w hd ho hg ht htk hr ih =>
   intro i hi tr0 tr f l H f1 H1 hf hk h
   have hio : ops[i]? = some o := by
    have : (ops.toList.drop i)[0]? = some o := by rw [hi]; rfl
    rw [dL] at this
    simpa using this
   have hi' : ops.toList.drop (i + 1) = os := by rw [← fw, hi]; rfl
   have hwi : Region.wanted o (iV ops l) = isB (nU (kR t) f) w := by
    simp only [Region.wanted, hg]
    rw [xK ht (by rw [hf.1]; exact htk) w, hf.2 t]
   have h : nS (isB (nU (kR t) f) w) (tR d undef f fun f2 => qX P C r ((f, H, undef) :: tr0) f2 H) (b0U tr0 f H d (qX P C r) (opF P C lo f H)) = .ok tr f1 H1 := h
   rw [kQ] at h
   split at h
   ·rename_i hb
    have key : ∀ v H2, (opF P C lo f H).Is v H2 → (tR d v f fun f2 => qX P C r ((f, H, v) :: tr0) f2 H2) = .ok tr f1 H1 → ∃ T val l1, T i = (l, H) ∧ T (i + (o :: os).length) = (l1, H1) ∧ FRel k f1 l1 ∧ Noted P k ops H i (o :: os).length T val tr0 tr := by
     intro v H2 hop hrest
     obtain ⟨hs, hk2⟩ := ho C H0 f l H v H2 hC hk hf.2 hop
     obtain ⟨f', e, hf'⟩ := vA hf hd v (fun f2 => qX P C r ((f, H, v) :: tr0) f2 H2)
     rw [e] at hrest
     exact more (o := o) (l1 := l) hf ⟨o, hio, rfl, .inl ⟨by rw [hwi, hb], hs⟩⟩ hk2 (ih hi' hf' (hk.trans hk2) hrest)
    cases hop : opF P C lo f H with
    | no => rw [hop] at h; cases h
    | ok v H2 => rw [hop] at h; exact key v H2 (.inl hop) h
    | th v H2 =>
      rw [hop] at h
      have h : yX v (fun v => nK H2 fun H2 => tR d v f fun f2 => qX P C r ((f, H, v) :: tr0) f2 H2) = .ok tr f1 H1 := h
      rw [xN, lU] at h
      exact key v H2 (.inr hop) h
   ·rename_i hb
    obtain ⟨f', e, hf'⟩ := vA hf hd undef (fun f2 => qX P C r ((f, H, undef) :: tr0) f2 H)
    rw [e] at h
    exact more (o := o) (l1 := l) hf ⟨o, hio, rfl, .inr ⟨by rw [hwi]; simpa using hb, rfl, rfl⟩⟩ (.refl H) (ih hi' hf' hk h)
theorem b1e {α : Type} (p : α → Bool) (l : List α) : b4n p l = l.all p := by
 induction l with
 | nil => rfl
 | cons x l ih =>
   show nS (p x) false (b4n p l) = _
   rw [kQ, ih, fq]
   cases p x <;> rfl
theorem b9o {v : Value} {r : Rs} (h : b8s v r = true) : ∃ H, r.Is v H := by
 cases r with
 | no => cases h
 | ok w H => exact ⟨H, .inl (by rw [b7d (show veq w v = true from h)])⟩
 | th w H => exact ⟨H, .inr (by rw [b7d (show veq w v = true from h)])⟩
theorem LowTab.get {ops : Array Oper} {tab : List (Nat × Nat)} {t : List (Nat × Option Nat × Option (Pth × Bool) × LOp)} (h : LowTab P ops tab t) {i m : Nat} (hm : (i, m) ∈ tab) : ∃ o lo g, ops[i]? = some o ∧ GOk ops o g ∧ vH P o lo ∧ (ops.size - 1 - i, (if m < ops.size then some (ops.size - 1 - m) else none), g, lo) ∈ t := by
 induction h with
 | nil => cases hm
 | @cons i2 m2 o lo tab t g ho hgd hl hr ih =>
   rcases eo.1 hm with he | hm
   ·injection he with h1 h2
    subst h1 h2
    exact ⟨o, lo, g, ho, hgd, hl, by simp⟩
   ·obtain ⟨o', lo', g', h1, h0, h2, h3⟩ := ih hm
    exact ⟨o', lo', g', h1, h0, h2, eT _ h3⟩
theorem a8v {fl : Fl} {ops : Array Oper} {i m : Nat} (h : (i, m) ∈ mH fl ops) {o : Oper} (ho : ops[i]? = some o) : nN o.op = true := by
 unfold mH at h
 simp only [fp] at h
 obtain ⟨⟨x, j⟩, hx, h⟩ := h
 dsimp only at h
 split at h
 ·rename_i hr
  simp only [dK] at h
  obtain ⟨m', _, e⟩ := h
  injection e with e1 e2
  subst e1
  have := gp.1 hx
  have : ops[j]? = some x := by simpa using this
  rw [this] at ho
  injection ho with ho
  subst ho
  exact hr
 ·cases h
theorem b7C (jV : P.follows .mixedOrders = true) {k id : Nat} {ops : Array Oper} {C : Calls'} {H : Heap} (hC : CallsOk P C H) {lo : LOps} {tab : List (Nat × Nat)} {t : List (Nat × Option Nat × Option (Pth × Bool) × LOp)} (hlo : LowOps P k ops ops.toList lo) (htab : nB P ops = some tab) (hl : LowTab P ops tab t)
 {f : Fr} {l : List Value} {e : Ex} {f1 : Fr} {H1 : Heap} (hf : FRel k f l) (h : c0K P C t (qX P C lo [] f H) = .ok e f1 H1) : ∃ l1, e = .normal ∧ FRel k f1 l1 ∧ Sim P (.region id ops true) l H .normal l1 H1 ∧ LK H H1 := by
 cases hr : qX P C lo [] f H with
 | no => rw [hr] at h; cases h
 | ok tr f2 H2 =>
   rw [hr] at h
   have h : nS (b4n (b5B P C tr H2) t) Rc.no (.ok .normal f2 H2) = .ok e f1 H1 := h
   rw [kQ] at h
   split at h
   case isFalse => cases h
   rename_i hall
   injection h with h1 h2 h3
   subst h1 h2 h3
   obtain ⟨T, val, l1, hT0, hTn, hf1, hN⟩ := b6O hC hlo (i := 0) rfl hf (.refl H) hr
   rw [fz, fY] at hTn
   rw [fz] at hN
   have hlk : LK H H2 := by have := hN.lk ops.size (eS _) (by omega); rwa [hTn] at this
   refine ⟨l1, rfl, hf1, ?_, hlk⟩
   have := Sim.draw jV (id := id) htab (T := T) (val := val) ⟨fun j hj => hN.step j (eS _) (by omega)⟩ ?_
   ·rw [hT0, hTn] at this; exact this
   ·intro i m o hm ho hw
    obtain ⟨o', lo', gd, ho', hgd, hlow, hmem⟩ := hl.get hm
    rw [ho] at ho'
    obtain rfl := db ho'
    rw [b1e, dy] at hall
    have hrd := hall _ hmem
    have hi : i < ops.size := (dp.1 ho).1
    obtain ⟨g, hg, hag⟩ := hN.new i (eS _) (by omega)
    have hg : tr[ops.size - 1 - i]? = some (g, (T i).2, val i) := by rw [← hg]; congr 1; omega
    have hread : nN o.op = true := by
     obtain ⟨fl, _, rfl⟩ := pT htab
     exact a8v hm ho
    have fin : ∀ H3, LK H H3 → b8s (val i) (opF P C lo' g H3) = true → ∃ H4, opD P o (T i).1 H3 = some (val i, H4) := by
     intro H3 hk3 hq
     obtain ⟨H4, h4⟩ := b9o hq
     obtain ⟨hs, _⟩ := hlow C H g (T i).1 H3 (val i) H4 hC hk3 hag h4
     refine ⟨H4, hs.opD fun c fv hc hv => ?_⟩
     rw [hc] at hread
     simp [nN, hv] at hread
    unfold b5B at hrd
    simp only [xM, hg, hgd.runs hag hw] at hrd
    rw [kQ, if_pos rfl] at hrd
    by_cases hms : m < ops.size
    ·rw [if_pos hms] at hrd
     obtain ⟨g2, hg2, _⟩ := hN.new m (eS _) (by omega)
     have hg2 : tr[ops.size - 1 - m]? = some (g2, (T m).2, val m) := by rw [← hg2]; congr 1; omega
     simp only [hg2] at hrd
     exact fin _ (hN.lk m (eS _) (by omega)) hrd
    ·rw [if_neg hms] at hrd
     have hle : m = ops.size := by
      obtain ⟨fl, _, rfl⟩ := pT htab
      have := a2D hm
      omega
     subst hle
     have := fin H2 hlk hrd
     rw [hTn]; exact this
def tU (P : Program) : List ResultVar → List LRes → Prop
 | [], [] => True
 | r :: rs, l :: ls => (match r, l with
   | .tmp t, .t p => p = kR t
   | .cell a t, .c1 p => p = kR a ∧ jO P t = some false
   | .cell a t, .cn n p => p = kR a ∧ jO P t = some true ∧ iE P t = some n
   | _, _ => False) ∧ tU P rs ls
 | _, _ => False
theorem b5K {α : Type} (l : List ResultVar) (K : List LRes → α) (no : α) : (∃ r, tU P l r ∧ a0K P l K no = K r) ∨ a0K P l K no = no := by
 induction l generalizing K with
 | nil => exact .inl ⟨[], trivial, rfl⟩
 | cons r l ih =>
   cases r with
   | tmp t =>
     have e : a0K P (.tmp t :: l) K no = lM (kR t) fun p => a0K P l (fun l => K (.t p :: l)) no := rfl
     rw [e, lK]
     rcases ih (fun l => K (.t (kR t) :: l)) with ⟨q, h1, h2⟩ | h2
     ·exact .inl ⟨.t (kR t) :: q, ⟨rfl, h1⟩, h2⟩
     ·exact .inr h2
   | cell a t =>
     have e : a0K P (.cell a t :: l) K no = match jO P t with
      | some true => a3e (iE P t) no fun n => lM (kR a) fun p => a0K P l (fun l => K (.cn n p :: l)) no
      | some false => lM (kR a) fun p => a0K P l (fun l => K (.c1 p :: l)) no
      | none => no := rfl
     rw [e]
     split
     ·rename_i ha
      cases hn : iE P t with
      | none => exact .inr rfl
      | some n =>
        rw [oS, lK]
        rcases ih (fun l => K (.cn n (kR a) :: l)) with ⟨q, h1, h2⟩ | h2
        ·exact .inl ⟨.cn n (kR a) :: q, ⟨⟨rfl, ha, hn⟩, h1⟩, h2⟩
        ·exact .inr h2
     ·rename_i ha
      rw [lK]
      rcases ih (fun l => K (.c1 (kR a) :: l)) with ⟨q, h1, h2⟩ | h2
      ·exact .inl ⟨.c1 (kR a) :: q, ⟨⟨rfl, ha⟩, h1⟩, h2⟩
      ·exact .inr h2
     ·exact .inr rfl
theorem b1b {H H1 : Heap} {f : Fr} {l : List Value} (hf : FAg f l) {r : ResultVar} {q : LRes} {rs : List ResultVar} {qs : List LRes} (h : tU P (r :: rs) (q :: qs)) {v : Value} (hv : (a4h H f q).Is v H1) : H1 = H ∧ a1j P l H r = some v ∧ tU P rs qs := by
 obtain ⟨h, hr⟩ := h
 cases r with
 | tmp t => cases q with
   | t p =>
     have h : p = kR t := h
     subst h
     have hv : (oK (nU (kR t) f) fun v => Rs.ok v H).Is v H1 := hv
     rw [mQ] at hv
     obtain ⟨rfl, rfl⟩ := Rs.aO hv
     exact ⟨rfl, by rw [hf t]; rfl, hr⟩
   | c1 p => exact h.elim
   | cn n p => exact h.elim
 | cell a t => cases q with
   | t p => exact h.elim
   | c1 p =>
     obtain ⟨rfl, ha⟩ := h
     obtain ⟨e, h1⟩ := b1v (P := P) (X := .t (kR a)) (w := get l a) ha (hf a) hv
     exact ⟨e, h1, hr⟩
   | cn n p =>
     obtain ⟨rfl, ha, hn⟩ := h
     obtain ⟨e, h1⟩ := b1B (P := P) (X := .t (kR a)) (w := get l a) ha hn (hf a) hv
     exact ⟨e, h1, hr⟩
theorem b8C {H : Heap} {f : Fr} {q : LRes} {v : Value} {H1 : Heap} : ¬ (a4h H f q = .th v H1) := by
 intro h
 cases q with
 | t p =>
   have h : (oK (nU p f) fun v => Rs.ok v H) = .th v H1 := h
   rw [mQ] at h; cases h
 | c1 p =>
   have h : b3U (.t p) f H = .th v H1 := h
   unfold b3U at h
   split at h
   ·unfold b9Q at h
    split at h
    ·rw [kQ, kQ, kQ] at h
     split at h
     ·split at h
      ·split at h
       ·rename_i cs _ _ _ _ _ _ _ _
        cases hn : a1b cs _ with
        | none => rw [hn] at h; cases h
        | some w => rw [hn] at h; have h : (oK w fun v => Rs.ok v H) = .th v H1 := h; rw [mQ] at h; cases h
       ·cases h
      ·cases h
     ·cases h
    ·cases h
   ·unfold c2F at h
    split at h
    ·rw [kQ] at h
     split at h
     ·rename_i cs _ _ _ _
      cases hn : a1b cs _ with
      | none => rw [hn] at h; cases h
      | some w => rw [hn] at h; have h : (oK w fun v => Rs.ok v H) = .th v H1 := h; rw [mQ] at h; cases h
     ·cases h
    ·cases h
   ·cases h
 | cn n p =>
   have hh : b2O n (.t p) f H = .th v H1 := h
   unfold b2O at hh
   split at hh
   ·unfold b9P at hh
    split at hh
    ·rw [kQ, kQ, kQ] at hh
     split at hh
     ·split at hh
      ·split at hh
       ·have key : ∀ {cs : List Value} {n : Nat} {pre : List Value}, ¬ (a2S cs n fun l => Rs.ok (.agg ⟨pre ++ l⟩) H) = .th v H1 := by
         intro cs
         induction cs with
         | nil => intro n pre h; cases n <;> cases h
         | cons c cs ih =>
           intro n pre h
           cases n with
           | zero => cases h
           | succ n =>
             have h : (a2S cs n fun l => Rs.ok (.agg ⟨pre ++ (c :: l)⟩) H) = .th v H1 := h
             have e : ∀ l : List Value, pre ++ (c :: l) = (pre ++ [c]) ++ l := by intro l; simp
             have h2 : (a2S cs n fun l => Rs.ok (.agg ⟨(pre ++ [c]) ++ l⟩) H) = .th v H1 := by
              rw [← h]; congr 1; funext l; rw [e l]
             exact ih h2
        exact key (pre := []) hh
       ·cases hh
      ·cases hh
     ·cases hh
    ·cases hh
   ·cases hh
theorem a6F {H H1 : Heap} {f : Fr} {l : List Value} (hf : FAg f l) {v : Value} : ∀ {rs : List ResultVar} {qs : List LRes} {K : List Value → Rs}, tU P rs qs → (b4U H f qs K).Is v H1 → ∃ vs, nE P l H rs = some vs ∧ (K vs).Is v H1
 | [], [], K, _, h => ⟨[], rfl, h⟩
 | [], _ :: _, _, h, _ => h.elim
 | _ :: _, [], _, h, _ => h.elim
 | r :: rs, q :: qs, K, hl, h => by
   have h : (Rs.rec (motive := fun _ => Rs) .no (fun v _ => b4U H f qs fun l => K (v :: l)) (fun _ _ => .no) (a4h H f q)).Is v H1 := h
   cases hq : a4h H f q with
   | no => rw [hq] at h; exact absurd h Rs.ax
   | th w H2 => exact absurd hq b8C
   | ok w H2 =>
     rw [hq] at h
     obtain ⟨e, h1, h2⟩ := b1b hf hl (.inl hq)
     obtain ⟨vs, h3, h4⟩ := a6F hf h2 h
     exact ⟨w :: vs, by simp [nE, h1, h3], h4⟩
theorem b6x {fn : Func} {H H1 : Heap} {f : Fr} {l : List Value} (hf : FAg f l) {qs : List LRes} (hl : tU P fn.results.toList qs) {v : Value} (h : (a6y qs f H).Is v H1) : H1 = H ∧ iC P fn l H = some v := by
 unfold a6y at h
 split at h
 ·rename_i q
  cases hr : fn.results.toList with
  | nil => rw [hr] at hl; exact hl.elim
  | cons r rs =>
    rw [hr] at hl
    obtain ⟨e, h1, h2⟩ := b1b hf hl h
    cases rs with
    | cons _ _ => exact h2.elim
    | nil => exact ⟨e, by simp [iC, hr, nE, h1]⟩
 ·rename_i hne
  obtain ⟨vs, h1, h2⟩ := a6F hf hl h
  obtain ⟨h3, h4⟩ := lC h2
  obtain ⟨rfl, rfl⟩ := Rs.aO h4
  refine ⟨rfl, ?_⟩
  have hlen : ∀ {rs : List ResultVar} {qs : List LRes}, tU P rs qs → rs.length = qs.length := by
   intro rs
   induction rs with
   | nil => intro qs h; cases qs with | nil => rfl | cons => exact h.elim
   | cons r rs ih => intro qs h; cases qs with | nil => exact h.elim | cons q qs => simp [ih h.2]
  have hvl : ∀ {rs : List ResultVar} {vs : List Value}, nE P l H1 rs = some vs → vs.length = rs.length := by
   intro rs
   induction rs with
   | nil => intro vs h; injection h with h; subst h; rfl
   | cons r rs ih =>
     intro vs h
     simp only [nE, dg, dr] at h
     obtain ⟨w, _, ws, h1, h2⟩ := h
     subst h2
     simp [ih h1]
  have hn1 : vs.length ≠ 1 := by
   rw [hvl h1, hlen hl]
   intro h1
   match qs, h1 with
   | [q], _ => exact hne q rfl
  unfold iC
  rw [h1, dc]
  rw [b1e] at h3
  have h3 : vs.all jJ = true := by rw [← h3]; congr 1
  split
  ·exact absurd rfl hn1
  ·rw [if_pos h3]
structure FuncOk (P : Program) (f : FuncId) (g : LFunc) : Prop where
 ex : ∃ fn c, P.funcs[f]? = some fn ∧ fn.body = some c ∧ (fn.name == "runtime.NumGoroutine") = false ∧ g.ps = (List.range fn.ntmps).map kR ∧ Low P fn.ntmps c g.body ∧ tU P fn.results.toList g.res
def TOk (P : Program) (T : LT) : Prop := ∀ f g, a2h (kR f) T = some g → FuncOk P f g
def EOk (P : Program) (E : List LEnv) (H : Heap) : Prop := ∀ en ∈ E, en.L < H.length ∧ ∀ r, iQ H en.L = some (.loop r) →
 ∃ k, en.ps = (List.range k).map kR ∧ r.tmps.size = k ∧ en.pp = r.params.toList.map kR ∧ (∀ t ∈ r.params.toList, t < k) ∧ Low P k r.assign en.a ∧ Low P k r.body en.b
theorem EOk.ae {E : List LEnv} {H H' : Heap} (h : EOk P E H) (hk : LK H H') : EOk P E H' := fun en hen => by
 obtain ⟨h1, h2⟩ := h en hen
 refine ⟨dQ h1 hk.1, fun r' hr' => ?_⟩
 obtain ⟨r, hr, ea, eb, ep, et⟩ := hk.2 en.L r' h1 hr'
 obtain ⟨k, a, b, c, d, e, f⟩ := h2 r hr
 exact ⟨k, a, by rw [et]; exact b, by rw [ep]; exact c, by rw [ep]; exact d, by rw [ea]; exact e, by rw [eb]; exact f⟩
def a3H (P : Program) (ih : pU) : Prop := ∀ (E : List LEnv) (C : LCode) (k : Nat) (c : Code) (f : Fr) (l : List Value) (H : Heap) (e : Ex) (f1 : Fr) (H1 : Heap), Low P k c C → FRel k f l → EOk P E H → ih E C f H = .ok e f1 H1 →
 ∃ l1, FRel k f1 l1 ∧ Sim P c l H e l1 H1 ∧ LK H H1 ∧ ∀ b, c = .loop b → ∃ n, Rounds P b n l H e l1 H1
theorem a0o {α : Type} {no : α} : ∀ {l : List Value} {i m : Nat} {f : Fr} {K : Fr → α}, (oU no l ((List.range' i m).map kR) f K = no) ∨ (l.length ≤ m ∧ ∃ f', oU no l ((List.range' i m).map kR) f K = K f' ∧ ∀ t, nU (kR t) f' = if i ≤ t ∧ t < i + l.length then get l (t - i) else nU (kR t) f)
 | [], i, m, f, K => .inr ⟨eS _, f, rfl, fun t => by rw [if_neg (by simp only [dC]; omega)]⟩
 | v :: l, i, 0, f, K => .inl rfl
 | v :: l, i, m + 1, f, K => by
   have e : oU no (v :: l) ((List.range' i (m + 1)).map kR) f K = pM v (kR i) f fun f => oU no l ((List.range' (i + 1) m).map kR) f K := by
    rw [gF]; rfl
   rw [e, sH]
   rcases a0o (l := l) (i := i + 1) (m := m) (f := b6i f i v) (K := K) with h | ⟨h1, f', h2, h3⟩
   ·exact .inl h
   ·refine .inr ⟨by simp; omega, f', h2, fun t => ?_⟩
    rw [h3 t, a3Y]
    by_cases ht : t = i
    ·subst ht
     rw [if_neg (by omega), if_pos rfl, if_pos (by simp), Nat.sub_self]; rfl
    ·rw [if_neg ht]
     by_cases h4 : i + 1 ≤ t ∧ t < i + 1 + l.length
     ·rw [if_pos h4, if_pos (by simp; omega)]
      rw [show t - i = (t - (i + 1)) + 1 by omega]; rfl
     ·rw [if_neg h4, if_neg (by simp; omega)]
theorem vR {α : Type} {no : α} {k : Nat} : ∀ {args : List Value} {ps : List Tmp} {f : Fr} {l : List Value} {K : Fr → α}, FRel k f l → (∀ t ∈ ps, t < k) → args.length = ps.length →
 ∃ f', oU no args (ps.map kR) f K = K f' ∧ FRel k f' ((ps.zip args).foldl (fun t (p, v) => t.set p v) l)
 | [], [], f, l, K, hf, _, _ => ⟨f, rfl, hf⟩
 | v :: args, p :: ps, f, l, K, hf, hp, he => by
   have e : oU no (v :: args) ((p :: ps).map kR) f K = pM v (kR p) f fun f => oU no args (ps.map kR) f K := rfl
   rw [e, sH]
   exact vR (hf.set (hp p (by simp)) v) (fun t ht => hp t (by simp [ht])) (by simpa using he)
 | [], _ :: _, _, _, _, _, _, he => by simp at he
 | _ :: _, [], _, _, _, _, _, he => by simp at he
theorem a0m (l : List Value) (n t : Nat) : get (l ++ List.replicate n undef) t = get l t := by
 rw [nZ, nZ]
 simp only [dj]
 by_cases h : t < l.length
 ·rw [eE h]
 ·rw [eG (by omega), ef (l := l) (by omega), gP]
  split <;> rfl
theorem zS {T : LT} (hT : TOk P T) {ih : pU} (hih : a3H P ih) {E : List LEnv} {p : Pth} {f : FuncId} {args : List Value} {H H1 : Heap} {v : Value} (hE : EOk P E H) (hp : p = kR f) (h : (mU T ih E p args H).Is v H1) :
 FnS P f args H (fun v' H' => v' = v ∧ H' = H1) ∧ LK H H1 := by
 unfold mU at h
 split at h
 case h_2 => exact absurd h Rs.ax
 rename_i g hg
 subst hp
 obtain ⟨fn, c, hfn, hb, hn, hps, hlow, hres⟩ := (hT f g hg).ex
 rw [hps] at h
 rw [fK] at h
 rcases a0o (no := Rs.no) (l := args) (i := 0) (m := fn.ntmps) (f := .e) (K := fun f => c2d g.res (ih E g.body f H)) with h1 | ⟨h1, f0, h2, h3⟩
 ·rw [h1] at h; exact absurd h Rs.ax
 ·rw [h2] at h
  have hf0 : FRel fn.ntmps f0 (args ++ List.replicate (fn.ntmps - args.length) undef) := by
   refine ⟨by simp; omega, fun t => ?_⟩
   rw [h3 t, a0m]
   by_cases ht : t < args.length
   ·rw [if_pos (by omega)]; rfl
   ·rw [if_neg (by omega), tQ, nZ, dj, ef (by omega)]; try rfl
  cases hr : ih E g.body f0 H with
  | no => rw [hr] at h; exact absurd h Rs.ax
  | ok e f1 H2 =>
    rw [hr] at h
    obtain ⟨l1, hf1, hs, hk, _⟩ := hih E g.body fn.ntmps c f0 _ H e f1 H2 hlow hf0 hE hr
    have key : (e = .normal ∨ e = .ret) → (a6y g.res f1 H2).Is v H1 → FnS P f args H (fun v' H' => v' = v ∧ H' = H1) ∧ LK H H1 := by
     intro he hv
     obtain ⟨rfl, hv⟩ := b6x hf1.2 hres hv
     exact ⟨⟨fn, c, e, l1, H1, v, hfn, hb, hn, hs, he, hv, rfl, rfl⟩, hk⟩
    cases e with
    | normal => exact key (.inl rfl) h
    | ret => exact key (.inr rfl) h
    | exit id => exact absurd h Rs.ax
theorem b6U {T : LT} (hT : TOk P T) {ih : pU} (hih : a3H P ih) {E : List LEnv} {p : Pth} {f : FuncId} {args : List Value} {H H1 : Heap} {v : Value} (hE : EOk P E H) (hp : p = kR f) (h : (b7o P T ih E p f args H).Is v H1) :
 (FnS P f args H (fun v' H' => v' = v ∧ H' = H1) ∨ pP P f args H = some (v, H1)) ∧ LK H H1 := by
 unfold b7o at h
 cases hg : a2h p T with
 | some g =>
   rw [hg] at h
   obtain ⟨a, b⟩ := zS (H1 := H1) (v := v) hT hih hE hp (by unfold mU; rw [hg]; exact h)
   exact ⟨.inl a, b⟩
 | none =>
   rw [hg] at h
   have h : (c1l P f args H).Is v H1 := h
   unfold c1l at h
   split at h
   ·rename_i v2 H2 hx
    obtain ⟨rfl, rfl⟩ := Rs.aS h
    exact ⟨.inr hx, a5w hx⟩
   ·exact absurd h Rs.ax
theorem a8U {E : List LEnv} {L : Nat} {en : LEnv} (h : b7t E L = some en) : en ∈ E ∧ en.L = L := by
 induction E with
 | nil => cases h
 | cons e E ih =>
   have h : nS (Nat.beq e.L L) (b7t E L) (some e) = some en := h
   rw [kQ] at h
   split at h
   ·rename_i hh
    injection h with h
    subst h
    exact ⟨by simp, dY hh⟩
   ·obtain ⟨h1, h2⟩ := ih h
    exact ⟨eT _ h1, h2⟩
theorem a6t (e : Ex) : c0i e = rH e := by cases e <;> rfl
theorem b2w {ih : pU} (hih : a3H P ih) {E : List LEnv} {L : Nat} {args : List Value} {H H1 : Heap} {v : Value} (hE : EOk P E H) (h : (a9M ih E L args H).Is v H1) : xE P L args H v H1 ∧ LK H H1 := by
 unfold a9M at h
 split at h
 case h_2 => exact absurd h Rs.ax
 rename_i en hen
 obtain ⟨hmem, rfl⟩ := a8U hen
 split at h
 case h_2 => exact absurd h Rs.ax
 rename_i p fn tmps ps a b d hg
 obtain ⟨hlen, h⟩ := lC h
 rw [yA] at hlen
 have hlen : ps.size = args.length := by simpa only [decide_eq_true_eq] using hlen
 obtain ⟨k, hps, hsz, hpp, hpk, hla, hlb⟩ := (hE en hmem).2 _ hg
 have hsz : tmps.length = k := by simpa using hsz
 rw [hps, fK] at h
 rcases a0o (no := Rs.no) (l := tmps) (i := 0) (m := k) (f := .e) (K := fun f => oU .no args en.pp f fun f => sW ih E en (ih E en.a f H)) with h1 | ⟨h1, f0, h2, h3⟩
 ·rw [h1] at h; exact absurd h Rs.ax
 rw [h2] at h
 have hf0 : FRel k f0 tmps := by
  refine ⟨hsz, fun t => ?_⟩
  rw [h3 t]
  by_cases ht : t < tmps.length
  ·rw [if_pos (by omega)]; rfl
  ·rw [if_neg (by omega), tQ, nZ, dj, ef (by omega)]; try rfl
 rw [hpp] at h
 obtain ⟨f2, h4, hf2⟩ := vR (no := Rs.no) (args := args) (ps := ps.toList) (K := fun f => sW ih E en (ih E en.a f H)) hf0 hpk (by simpa using hlen.symm)
 have h : (oU Rs.no args (List.map kR ps.toList) f0 fun f => sW ih E en (ih E en.a f H)).Is v H1 := h
 rw [h4] at h
 cases hr1 : ih E en.a f2 H with
 | no => rw [hr1] at h; exact absurd h Rs.ax
 | ok e f3 H2 =>
   rw [hr1] at h
   obtain ⟨l3, hf3, hs1, hk1, _⟩ := hih E en.a k a f2 _ H e f3 H2 hla hf2 hE hr1
   cases e with
   | ret => exact absurd h Rs.ax
   | exit id => exact absurd h Rs.ax
   | normal =>
     have h : (zC ih E en f3 H2).Is v H1 := h
     unfold zC at h
     split at h
     case h_2 => exact absurd h Rs.ax
     rename_i p2 fn2 tmps2 ps2 a2 b2 d2 hg2
     rw [lU] at h
     obtain ⟨r0, hr0, ea, eb, ep, et⟩ := hk1.2 en.L _ (hE en hmem).1 hg2
     rw [hg] at hr0
     injection hr0 with hr0
     injection hr0 with hr0
     subst hr0
     have ea' : a2 = a := ea
     have eb' : b2 = b := eb
     have ep' : ps2 = ps := ep
     have et' : tmps2 = ⟨tmps⟩ := et
     clear ea eb ep et
     subst ea' eb' ep' et'
     have hk2 : LK H2 (hset H2 en.L (.loop ⟨.busy, p2, fn2, ⟨tmps⟩, ps2, a2, b2, d2⟩)) := .loop hg2 ⟨rfl, rfl, rfl, rfl⟩
     cases hr2 : ih E en.b f3 (hset H2 en.L (.loop ⟨.busy, p2, fn2, ⟨tmps⟩, ps2, a2, b2, d2⟩)) with
     | no => rw [hr2] at h; exact absurd h Rs.ax
     | ok e f4 H3 =>
       rw [hr2] at h
       obtain ⟨l4, _, hs2, hk3, _⟩ := hih E en.b k b2 f3 _ _ e f4 H3 hlb hf3 (hE.ae (hk1.trans hk2)) hr2
       have h : (a2y en.L e H3).Is v H1 := h
       unfold a2y at h
       split at h
       case h_2 => exact absurd h Rs.ax
       rename_i st3 p3 fn3 tmps3 ps3 a3 b3 d3 hg3
       have fin : ∀ r', H1 = hset H3 en.L (.loop r') → (r' = { (⟨st3, p3, fn3, tmps3, ps3, a3, b3, d3⟩ : Loop) with state := if (rH e).isNone then .ready else .done, pending := rH e }) → v = .bool (rH e).isNone → xE P en.L args H v H1 ∧ LK H H1 := by
        intro r' hH hr' hv
        refine ⟨?_, hk1.trans (hk2.trans (hk3.trans (by rw [hH]; exact .loop hg3 (by rw [hr']; exact ⟨rfl, rfl, rfl, rfl⟩))))⟩
        have hW := a0G (P := P) (args := args) (K := fun v' H' => v' = v ∧ H' = H1) hg hlen rfl
         ⟨.normal, l3, H2, hs1, rfl, _, hg2, rfl, e, l4, H3, hs2, _, hg3, hv.symm, by rw [hH, hr']⟩
        obtain ⟨v', H', h1, rfl, rfl⟩ := hW
        exact h1
       split at h
       ·rename_i hj
        obtain ⟨rfl, rfl⟩ := Rs.aS h
        rw [a6t] at hj
        exact fin _ rfl (by rw [hj]; rfl) (by rw [hj]; rfl)
       ·rename_i c hj
        obtain ⟨rfl, rfl⟩ := Rs.aS h
        rw [a6t] at hj
        exact fin _ rfl (by rw [hj]; rfl) (by rw [hj]; rfl)
theorem a4m {T : LT} (hT : TOk P T) {ih : pU} (hih : a3H P ih) {E : List LEnv} {H0 : Heap} (hE : EOk P E H0) : CallsOk P (a0l P T ih E) H0 where
 fn p f args H v H1 hk h hp := b6U hT hih (hE.ae hk) hp h
 rd L args H v H1 hk h := b2w hih (hE.ae hk) h
theorem c1e {α : Type} {f : Fr} {l : List Value} (hf : FAg f l) (i m : Nat) (K : List Value → α) : frL f ((List.range' i m).map kR) K = K ((List.range' i m).map (get l)) := by
 induction m generalizing i K with
 | zero => rfl
 | succ m ih =>
   have e : frL f ((List.range' i (m + 1)).map kR) K = oK (nU (kR i) f) fun v => frL f ((List.range' (i + 1) m).map kR) fun l => K (v :: l) := by
    rw [gF]; rfl
   rw [e, mQ, ih, hf i, gF]; rfl
theorem b8k {α : Type} {k : Nat} {f : Fr} {l : List Value} (hf : FRel k f l) (K : List Value → α) : frL f ((List.range k).map kR) K = K l := by
 rw [fK, c1e hf.2, ← fK]
 congr 1
 apply gy
 intro i
 rw [eN]
 by_cases hi : i < k
 ·rw [gK hi, dO, nZ, dj]
  have : i < l.length := by rw [hf.1]; exact hi
  simp [dx this]
 ·rw [ef (by simp; omega), ef (by rw [hf.1]; omega)]; rfl
theorem b2I {T : LT} (hT : TOk P T) {ih : pU} (hih : a3H P ih) {E : List LEnv} {k : Nat} {g : Operand} {ps : Array Tmp} {assign body : Code} {A B : LCode} (hg : iO g = true) (hps : ∀ t ∈ ps.toList, t < k) (ha : Low P k assign A) (hb : Low P k body B)
 {x1 x2 : Fr → Heap → Rc} {f : Fr} {l : List Value} {H : Heap} {e : Ex} {f1 : Fr} {H1 : Heap} (hf : FRel k f l) (hE : EOk P E H) (h : a9Z T ih E (iW g) ((List.range k).map kR) (ps.toList.map kR) ps assign body A B x1 x2 f H = .ok e f1 H1) :
 f1 = f ∧ Sim P (.rangeFunc g ps assign body) l H e l H1 ∧ LK H H1 := by
 unfold a9Z at h
 rw [jS hf.2] at h
 split at h
 case h_2 => cases h
 rename_i j xa xb hgv
 rw [jX, b8k hf, lU, jX] at h
 unfold b1E at h
 rw [lK] at h
 generalize hH0 : H.cons (.loop ⟨.ready, none, 0, ⟨l⟩, ps, assign, body, 0⟩) = H0 at h
 have hl0 : (⟨.ready, none, 0, ⟨l⟩, ps, assign, body, 0⟩ : Loop) = b1c l ps assign body := rfl
 have hE0 : EOk P (⟨H.length, (List.range k).map kR, ps.toList.map kR, A, B⟩ :: E) H0 := by
  intro en hen
  rcases eo.1 hen with rfl | hen
  ·refine ⟨by rw [← hH0, length_cons]; exact Nat.lt_succ_self _, fun r hr => ?_⟩
   rw [← hH0, iM] at hr
   injection hr with hr
   injection hr with hr
   subst hr
   exact ⟨k, rfl, by simpa using hf.1, rfl, hps, ha, hb⟩
  ·exact (hE.ae (by rw [← hH0]; exact .cons _ _)) en hen
 have key : ∀ v H2, (mU T ih (⟨H.length, (List.range k).map kR, ps.toList.map kR, A, B⟩ :: E) (kR j) (a4O xa (.func (.yield H.length) #[] #[] :: xb)) H0).Is v H2 → uN H.length f H2 = .ok e f1 H1 → f1 = f ∧ Sim P (.rangeFunc g ps assign body) l H e l H1 ∧ LK H H1 := by
  intro v H2 hc hr
  obtain ⟨hfn, hk⟩ := zS hT hih hE0 rfl hc
  have hargs : a4O xa (.func (.yield H.length) #[] #[] :: xb) = xa ++ [.func (.yield H.length) #[] #[]] ++ xb := by rw [yM]; simp
  rw [hargs, ← hH0, hl0] at hfn
  have fin : ∀ (r : Loop) (H3 : Heap), iQ H2 H.length = some (.loop r) → r.state ≠ .busy → H3 = hset H2 H.length (.loop { r with state := .exhausted }) → (r.pending = none → e = .normal) → (∀ c, r.pending = some c → (c = .ret ∧ e = .ret) ∨ ∃ id, c = .exit id ∧ e = .exit id) → f1 = f → H1 = H3 →
   f1 = f ∧ Sim P (.rangeFunc g ps assign body) l H e l H1 ∧ LK H H1 := by
   intro r H3 hrl hnb hH3 hp0 hp1 he1 he2
   have hw : Wp P (.rangeFunc g ps assign body) l H (fun e' l' H' => e' = e ∧ l' = l ∧ H' = H3) := by
    refine Wp.range (first := xa) (captured := xb) hg (by rw [hgv]) (hfn.mono ?_)
    rintro v' H' ⟨rfl, rfl⟩
    refine ⟨r, hrl, hnb, fun hp => ⟨(hp0 hp).symm, rfl, hH3.symm⟩, fun c hc => ?_⟩
    rcases hp1 c hc with ⟨rfl, he⟩ | ⟨id, rfl, he⟩
    ·exact Wp.ret ⟨he.symm, rfl, hH3.symm⟩
    ·exact Wp.exit ⟨he.symm, rfl, hH3.symm⟩
   obtain ⟨e', l', H', hs, rfl, rfl, rfl⟩ := hw
   refine ⟨he1, by rw [he2]; exact hs, ?_⟩
   rw [he2, hH3]
   have h1 : LK H H0 := by rw [← hH0]; exact .cons _ _
   exact h1.trans (hk.trans (.loop hrl ⟨rfl, rfl, rfl, rfl⟩))
  unfold uN at hr
  split at hr
  ·rename_i hg2
   rw [lU] at hr
   injection hr with h1 h2 h3
   exact fin _ _ hg2 (by simp) rfl (fun _ => h1.symm) (fun c hc => by cases hc) h2.symm h3.symm
  ·rename_i hg2
   rw [lU] at hr
   injection hr with h1 h2 h3
   exact fin _ _ hg2 (by simp) rfl (fun _ => h1.symm) (fun c hc => by cases hc) h2.symm h3.symm
  ·rename_i hg2
   rw [lU] at hr
   injection hr with h1 h2 h3
   exact fin _ _ hg2 (by simp) rfl (fun hc => by cases hc) (fun c hc => by injection hc with hc; subst hc; exact .inl ⟨rfl, h1.symm⟩) h2.symm h3.symm
  ·rename_i hg2
   rw [lU] at hr
   injection hr with h1 h2 h3
   exact fin _ _ hg2 (by simp) rfl (fun hc => by cases hc) (fun c hc => by injection hc with hc; subst hc; exact .inr ⟨_, rfl, h1.symm⟩) h2.symm h3.symm
  ·cases hr
 cases hc : mU T ih (⟨H.length, (List.range k).map kR, ps.toList.map kR, A, B⟩ :: E) (kR j) (a4O xa (.func (.yield H.length) #[] #[] :: xb)) H0 with
 | no => rw [hc] at h; cases h
 | ok v H2 => rw [hc] at h; exact key v H2 (.inl hc) h
 | th v H2 =>
   rw [hc] at h
   have h : nK H2 (fun H => uN _ f H) = .ok e f1 H1 := h
   rw [lU] at h
   exact key v H2 (.inr hc) h
theorem c0V (jV : P.follows .mixedOrders = true) {T : LT} (hT : TOk P T) : ∀ n, a3H P (exF P T n) := by
 intro n
 induction n with
 | zero => intro E C k c f l H e f1 H1 _ _ _ h; cases h
 | succ n ih =>
   intro E C k c f l H e f1 H1 hlow hf hE h
   have h : b1A P T (exF P T n) E C f H = .ok e f1 H1 := h
   have noloop : ∀ {c : Code}, (∀ b, c ≠ .loop b) → ∀ {l1 : List Value}, ∀ b, c = .loop b → ∃ n, Rounds P b n l H e l1 H1 := fun hne _ b hb => absurd hb (hne b)
   cases hlow with
   | bad => cases h
   | skip =>
     injection h with h1 h2 h3; subst h1 h2 h3
     exact ⟨l, hf, .skip l H, .refl H, noloop (by intro b h; cases h)⟩
   | label t =>
     injection h with h1 h2 h3; subst h1 h2 h3
     exact ⟨l, hf, .label t l H, .refl H, noloop (by intro b h; cases h)⟩
   | exit id =>
     injection h with h1 h2 h3; subst h1 h2 h3
     exact ⟨l, hf, .exit id l H, .refl H, noloop (by intro b h; cases h)⟩
   | ret =>
     injection h with h1 h2 h3; subst h1 h2 h3
     exact ⟨l, hf, .ret l H, .refl H, noloop (by intro b h; cases h)⟩
   | @reg id ops d lo hlo hd =>
     have h : c3M (wY P (a0l P T (exF P T n) E) lo f H) = .ok e f1 H1 := h
     cases hr : wY P (a0l P T (exF P T n) E) lo f H with
     | no => rw [hr] at h; cases h
     | ok f2 H2 =>
       rw [hr] at h
       injection h with h1 h2 h3; subst h1 h2 h3
       obtain ⟨l1, hf1, hops, hk⟩ := b9u (a4m hT ih hE) hlo (i := 0) rfl hf (.refl H) hr
       have hops : OpsR P ops (List.range ops.size) l H l1 H2 := by rw [fK]; simpa using hops
       refine ⟨l1, hf1, ?_, hk, noloop (by intro b h; cases h)⟩
       cases d with
       | false => exact .region hops
       | true => exact .bZ jV (hd rfl) hops
   | drw hlo ht hl =>
     obtain ⟨l1, rfl, hf1, hs, hk⟩ := b7C jV (a4m hT ih hE) hlo ht hl hf h
     exact ⟨l1, hf1, hs, hk, noloop (by intro b h; cases h)⟩
   | @seq a b A B ha hb =>
     have h : b8S (exF P T n) E B (exF P T n E A f H) = .ok e f1 H1 := h
     cases hr : exF P T n E A f H with
     | no => rw [hr] at h; cases h
     | ok e2 f2 H2 =>
       rw [hr] at h
       obtain ⟨l2, hf2, hs, hk, _⟩ := ih E A k a f l H e2 f2 H2 ha hf hE hr
       cases e2 with
       | normal =>
         obtain ⟨l1, hf1, hs1, hk1, _⟩ := ih E B k b f2 l2 H2 e f1 H1 hb hf2 (hE.ae hk) h
         exact ⟨l1, hf1, .seq hs hs1, hk.trans hk1, noloop (by intro b h; cases h)⟩
       | ret =>
         injection h with h1 h2 h3; subst h1 h2 h3
         exact ⟨l2, hf2, .seq' hs (by intro h; cases h), hk, noloop (by intro b h; cases h)⟩
       | exit id =>
         injection h with h1 h2 h3; subst h1 h2 h3
         exact ⟨l2, hf2, .seq' hs (by intro h; cases h), hk, noloop (by intro b h; cases h)⟩
   | @cond c x y X Y hc hx hy =>
     have h : b4Q (exF P T n) E (iW c) X Y (b1A P T (exF P T n) E X) (b1A P T (exF P T n) E Y) f H = .ok e f1 H1 := h
     unfold b4Q at h
     rw [jS hf.2] at h
     split at h
     ·rename_i t ht
      cases t with
      | true =>
        obtain ⟨l1, hf1, hs, hk, _⟩ := ih E X k x f l H e f1 H1 hx hf hE h
        exact ⟨l1, hf1, .cond ht hc hs, hk, noloop (by intro b h; cases h)⟩
      | false =>
        obtain ⟨l1, hf1, hs, hk, _⟩ := ih E Y k y f l H e f1 H1 hy hf hE h
        exact ⟨l1, hf1, .cond ht hc hs, hk, noloop (by intro b h; cases h)⟩
     ·cases h
   | @block id b B hb =>
     have h : c3p id (exF P T n E B f H) = .ok e f1 H1 := h
     cases hr : exF P T n E B f H with
     | no => rw [hr] at h; cases h
     | ok e2 f2 H2 =>
       rw [hr] at h
       obtain ⟨l2, hf2, hs, hk, _⟩ := ih E B k b f l H e2 f2 H2 hb hf hE hr
       have hs' : Sim P (.block id b) l H (e2.out id) l2 H2 := .block hs
       cases e2 with
       | normal => injection h with h1 h2 h3; subst h1 h2 h3; exact ⟨l2, hf2, hs', hk, noloop (by intro b h; cases h)⟩
       | ret => injection h with h1 h2 h3; subst h1 h2 h3; exact ⟨l2, hf2, hs', hk, noloop (by intro b h; cases h)⟩
       | exit i =>
         have h : Rc.ok (Bool.rec (motive := fun _ => Ex) (.exit i) .normal (Nat.beq i id)) f2 H2 = .ok e f1 H1 := h
         injection h with h1 h2 h3; subst h2 h3
         have : (Ex.exit i).out id = e := by
          rw [← h1]
          by_cases hi : i = id
          ·subst hi; simp [Ex.out]
          ·have : Nat.beq i id = false := fX.2 fun e => hi (dY e)
           simp [Ex.out, hi, this]
         rw [this] at hs'
         exact ⟨l2, hf2, hs', hk, noloop (by intro b h; cases h)⟩
   | @loop b B hb =>
     have h : b8S (exF P T n) E (.loop B) (exF P T n E B f H) = .ok e f1 H1 := h
     cases hr : exF P T n E B f H with
     | no => rw [hr] at h; cases h
     | ok e2 f2 H2 =>
       rw [hr] at h
       obtain ⟨l2, hf2, hs, hk, _⟩ := ih E B k b f l H e2 f2 H2 hb hf hE hr
       have last : e2 ≠ .normal → e2 = e → f2 = f1 → H2 = H1 → ∃ l1, FRel k f1 l1 ∧ Sim P (.loop b) l H e l1 H1 ∧ LK H H1 ∧ ∀ b', Code.loop b = .loop b' → ∃ n, Rounds P b' n l H e l1 H1 := by
        intro hne h1 h2 h3
        subst h1 h2 h3
        have hr : Rounds P b 1 l H e2 l2 H2 := .last hs hne
        exact ⟨l2, hf2, .loop hr, hk, fun b' hb' => by injection hb' with hb'; subst hb'; exact ⟨1, hr⟩⟩
       cases e2 with
       | normal =>
         obtain ⟨l1, hf1, hs1, hk1, hro⟩ := ih E (.loop B) k (.loop b) f2 l2 H2 e f1 H1 (.loop hb) hf2 (hE.ae hk) h
         obtain ⟨m, hm⟩ := hro b rfl
         have hr : Rounds P b (m + 1) l H e l1 H1 := .more hs hm
         exact ⟨l1, hf1, .loop hr, hk.trans hk1, fun b' hb' => by injection hb' with hb'; subst hb'; exact ⟨_, hr⟩⟩
       | ret => injection h with h1 h2 h3; exact last (by intro h; cases h) h1 h2 h3
       | exit id => injection h with h1 h2 h3; exact last (by intro h; cases h) h1 h2 h3
   | range hg hps ha hb =>
     obtain ⟨rfl, hs, hk⟩ := b2I (x1 := fun _ _ => .no) (x2 := fun _ _ => .no) hT ih hg hps ha hb hf hE h
     exact ⟨l, hf, hs, hk, noloop (by intro b h; cases h)⟩
theorem xX {α : Type} (v : LFunc) (p : Pth) (f : LT) (K : LT → α) : rT v p f K = K (rT v p f fun f => f) := by
 induction p generalizing f α with
 | z => cases f <;> rfl
 | l p ih =>
   cases f with
   | e =>
     show rT v p .e (fun l => K (.n none l .e)) = K (rT v p .e fun l => .n none l .e)
     rw [ih, ih (K := fun l => LT.n none l .e)]
   | n w l r =>
     show rT v p l (fun l => K (.n w l r)) = K (rT v p l fun l => .n w l r)
     rw [ih, ih (K := fun l => LT.n w l r)]
 | r p ih =>
   cases f with
   | e =>
     show rT v p .e (fun l => K (.n none .e l)) = K (rT v p .e fun l => .n none .e l)
     rw [ih, ih (K := fun l => LT.n none .e l)]
   | n w l r =>
     show rT v p r (fun r => K (.n w l r)) = K (rT v p r fun r => .n w l r)
     rw [ih, ih (K := fun r => LT.n w l r)]
theorem wM (p : Pth) : a2h p .e = none := by cases p <;> rfl
theorem b2X (v : LFunc) (p q : Pth) (f : LT) {g : LFunc} (h : a2h q (rT v p f fun f => f) = some g) : (q = p ∧ g = v) ∨ a2h q f = some g := by
 induction p generalizing f q with
 | z =>
   cases q with
   | z => left; refine ⟨rfl, ?_⟩; cases f <;> (injection h with h; exact h.symm)
   | l q => right; cases f with
     | e => have h : a2h q .e = some g := h
            rw [wM] at h; cases h
     | n => exact h
   | r q => right; cases f with
     | e => have h : a2h q .e = some g := h
            rw [wM] at h; cases h
     | n => exact h
 | l p ih =>
   have h1 : ∀ f, rT v (.l p) f (fun f => f) = match f with | .e => .n none (rT v p .e fun f => f) .e | .n w l r => .n w (rT v p l fun f => f) r := fun f => by
    cases f with
    | e => exact xX v p .e fun l => LT.n none l .e
    | n w l r => exact xX v p l fun l => LT.n w l r
   rw [h1] at h
   cases q with
   | z => right; cases f with
     | e => exact h
     | n => exact h
   | r q => right; cases f with
     | e => have h : a2h q .e = some g := h
            rw [wM] at h; cases h
     | n => exact h
   | l q =>
     cases f with
     | e =>
       rcases ih q .e h with ⟨rfl, hq⟩ | h
       ·exact .inl ⟨rfl, hq⟩
       ·rw [wM] at h; cases h
     | n w l r =>
       rcases ih q l h with ⟨rfl, hq⟩ | h
       ·exact .inl ⟨rfl, hq⟩
       ·exact .inr h
 | r p ih =>
   have h1 : ∀ f, rT v (.r p) f (fun f => f) = match f with | .e => .n none .e (rT v p .e fun f => f) | .n w l r => .n w l (rT v p r fun f => f) := fun f => by
    cases f with
    | e => exact xX v p .e fun l => LT.n none .e l
    | n w l r => exact xX v p r fun r => LT.n w l r
   rw [h1] at h
   cases q with
   | z => right; cases f with
     | e => exact h
     | n => exact h
   | l q => right; cases f with
     | e => have h : a2h q .e = some g := h
            rw [wM] at h; cases h
     | n => exact h
   | r q =>
     cases f with
     | e =>
       rcases ih q .e h with ⟨rfl, hq⟩ | h
       ·exact .inl ⟨rfl, hq⟩
       ·rw [wM] at h; cases h
     | n w l r =>
       rcases ih q r h with ⟨rfl, hq⟩ | h
       ·exact .inl ⟨rfl, hq⟩
       ·exact .inr h
theorem b2p {α : Type} (f : FuncId) (no : α) (K : LFunc → α) : (∃ g, FuncOk P f g ∧ a2Q P f no K = K g) ∨ a2Q P f no K = no := by
 unfold a2Q
 split
 ·rename_i fn hfn
  split
  ·rename_i c hb
   rw [kQ]
   split
   ·exact .inr rfl
   ·rename_i hn
    rcases b5K (P := P) fn.results.toList (fun res => b2t fn.ntmps fun ps => nC P fn.ntmps c fun b => K ⟨ps, b, res⟩) no with ⟨res, hres, h1⟩ | h1
    ·rw [h1, b1s]
     obtain ⟨C, hC, h2⟩ := b3s (P := P) fn.ntmps c (fun b => K ⟨(List.range fn.ntmps).map kR, b, res⟩)
     exact .inl ⟨⟨_, C, res⟩, ⟨fn, c, hfn, hb, by simpa using hn, rfl, hC, hres⟩, h2⟩
    ·exact .inr h1
  ·exact .inr rfl
 ·exact .inr rfl
theorem b7q {α : Type} (fs : List FuncId) (T : LT) (hT : TOk P T) (K : LT → α) : ∃ T', TOk P T' ∧ tC P fs T K = K T' := by
 induction fs generalizing T with
 | nil => exact ⟨T, hT, rfl⟩
 | cons f fs ih =>
   have e : tC P (f :: fs) T K = a2Q P f (tC P fs T K) fun g => lM (kR f) fun p => rT g p T fun T => tC P fs T K := rfl
   rw [e]
   rcases b2p (P := P) f (tC P fs T K) (fun g => lM (kR f) fun p => rT g p T fun T => tC P fs T K) with ⟨g, hg, h⟩ | h
   ·rw [h, lK, xX]
    refine ih _ fun f' g' h' => ?_
    rcases b2X g (kR f) (kR f') T h' with ⟨he, rfl⟩ | h'
    ·rw [b1n he]; exact hg
    ·exact hT f' g' h'
   ·rw [h]; exact ih T hT
end Go.Ds
namespace Go.Ds
open Go.Proofs Go.Proofs.Tryz
def t64 : List Nat := [0, 1, 56, 2, 57, 49, 28, 3, 61, 58, 42, 50, 38, 29, 17, 4, 62, 47, 59, 36, 45, 43, 51, 22, 53, 39, 33, 30, 24, 18, 12, 5, 63, 55, 48, 27, 60, 41, 37, 16, 46, 35, 44, 21, 52, 32, 23, 11, 54, 26, 40, 15, 34, 20, 31, 10, 25, 14, 19, 9, 13, 8, 7, 6]
def t32 : List Nat := [0, 1, 28, 2, 29, 14, 24, 3, 30, 22, 20, 15, 25, 17, 4, 8, 31, 27, 13, 23, 21, 19, 16, 7, 26, 12, 18, 6, 11, 5, 10, 9]
noncomputable def gH : Heap := ((((((Heap.nil.cons (.cells (t64.map fun (n : Nat) => Value.int .u8 (.ofNat n)) 5 false 0 1)).cons (.cells [] 3 false 0 1)).cons (.cells [] 310 false 0 1)).cons (.cells [] 310 false 0 1)).cons (.cells ([1, 10, 100, 1000, 10000, 100000, 1000000, 10000000, 100000000, 1000000000, 10000000000, 100000000000, 1000000000000, 10000000000000, 100000000000000, 1000000000000000, 10000000000000000, 100000000000000000, 1000000000000000000, 10000000000000000000].map fun (n : Nat) => Value.int .u64 (.ofNat n)) 28 false 0 1)).cons (.cells (t32.map fun (n : Nat) => Value.int .u8 (.ofNat n)) 5 false 0 1))
theorem c3K : prog.follows .mixedOrders = true := by kernel_rfl
def b1Y : Nat → Nat → List UInt8 → List UInt8
 | 0, _, acc => acc
 | f + 1, n, acc => if n < 10 then (48 + n).toUInt8 :: acc else b1Y f (n / 10) ((48 + n % 10).toUInt8 :: acc)
def oR (n : Nat) : ByteArray := ⟨(b1Y 100 n []).toArray⟩
theorem a5z {b : ByteArray} {n : Nat} (h : b.data.toList = b1Y 100 n []) : b = oR n := by
 cases b with | mk d => cases d with | mk l => simp only at h; subst h; rfl
def b1m (r : Rs) (n : Nat) : Bool := match r with
 | .ok (.string b) _ => decide (b.data.toList = b1Y 100 n [])
 | .th (.string b) _ => decide (b.data.toList = b1Y 100 n [])
 | _ => false
def b9j (v : Value) (n : Nat) : Bool := match v with
 | .tuple vs => match vs.toList with
   | [.string b, .int .i64 m] => decide (m = 0) && decide (b.data.toList = b1Y 100 n [])
   | _ => false
 | _ => false
def b4q (r : Rs) (n : Nat) : Bool := match r with
 | .ok v _ => b9j v n
 | .th v _ => b9j v n
 | _ => false
def b5P (r : Rs) (n : Int) : Bool := match r with
 | .ok (.int .i64 m) _ => decide (m = n)
 | .th (.int .i64 m) _ => decide (m = n)
 | _ => false
noncomputable def c0h (ps : List Nat) : Bool := tC prog [168, 150, 189, 206, 242, 256, 263, 264, 265, 266, 272, 273, 274, 275, 279] .e fun T => ps.all fun x => b1m (mU T (exF prog T 4000) [] (kR 150) [.int .i64 x] gH) x
def fsP : List Nat := [168, 254, 238, 240, 186, 149, 189, 253, 268, 229, 230, 202, 203, 204, 205, 209, 267, 276, 235, 236, 237, 239, 241, 222, 243, 251, 252, 255, 247, 263, 264, 265, 266, 272, 273, 274, 275, 279]
noncomputable def tW (ps : List Nat) : Bool := tC prog fsP .e fun T => ps.all fun x => b4q (mU T (exF prog T 4000) [] (kR 149) [.string (oR x), .int .i64 24] gH) (x ^ 24)
def fsM : List Nat := [168, 254, 238, 240, 186, 150, 151, 189, 206, 253, 268, 229, 230, 202, 203, 204, 205, 207, 209, 242, 267, 276, 235, 236, 237, 239, 241, 222, 243, 256, 251, 252, 255, 247, 263, 264, 265, 266, 272, 273, 274, 275, 279]
noncomputable def lW (ps : List (Nat × Nat)) : Bool := tC prog fsM .e fun T => ps.all fun x => b1m (mU T (exF prog T 4000) [] (kR 151) [.string (oR x.1), .string (oR x.2)] gH) (x.1 * x.2)
def rZ (t : Nat × Nat) : List (Nat × Nat) := (t.1 ^ 24, 2) :: (List.range t.2).map fun k => (2 * t.1 ^ 24 * 4 ^ k, 4)
def a6R (t : Nat × Nat × Nat) : List (Nat × Nat) := (List.range (t.2.2 + 1)).map fun k => (t.1 ^ 24, 2 * t.2.1 ^ 24 * 4 ^ k)
def b6o (a b : Nat) : Int := if a < b then -1 else if b < a then 1 else 0
noncomputable def tT (ps : List (Nat × Nat)) : Bool := tC prog [152, 208, 209, 210, 222, 243, 244, 247, 257] .e fun T => ps.all fun x => b5P (mU T (exF prog T 4000) [] (kR 152) [.string (oR x.1), .string (oR x.2)] gH) (b6o x.1 x.2)
end Go.Ds
namespace Go.Ds
open Go.RowKit Go.Proofs
section
variable {P : Program} {ρ : Rho} {H : Heap} {w : World}
theorem a3F {name : String} {g : Nat} {k : IntKind} {zs : List Int} (hg : P.globalNamed name = some g) (ht : Lib.TabIs P w name k zs) : ∃ t fr, w.heap[g]? = some (.cells (zs.map fun z => Value.int k z).toArray t fr) := by
 unfold Lib.TabIs World.var? at ht
 rw [hg, dc] at ht
 split at ht
 ·rename_i cs t fr hb
  obtain rfl := db ht
  exact ⟨t, fr, hb⟩
 ·cases ht
theorem InW.cQ (h : InW P ρ H w) {name : String} {g : Nat} {k : IntKind} {zs : List Int} {ty : TypeId} (hg : P.globalNamed name = some g) (ht : Lib.TabIs P w name k zs) (hgH : g = H.length) (hty : iE P ty = some 1) :
 InW P (ρ.put H.length (zs.map fun z => Value.int k z).length ⟨g, 0, zs.length, 1⟩) (H.cons (.cells (zs.map fun z => Value.int k z) ty false 0 1)) w := by
 obtain ⟨t, fr, hb⟩ := a3F hg ht
 refine (h.row ⟨g, 0, zs.length, 1⟩ hb (ty := ty) hty (by simp) (zs.map fun z => Value.int k z) 1 (fun _ => ⟨hgH, rfl⟩) (by simp) fun i c hi _ hc => ⟨c, ?_, ?_⟩).1
 ·have : (⟨g, 0, zs.length, 1⟩ : Place).at i = i := by simp [Place.at]
  rw [this]
  simpa using hc
 ·rw [eN] at hc
  obtain ⟨z, _, rfl⟩ := dr.1 hc
  exact .c0 (.flat rfl)
end
theorem c4p : ∀ A b, iQ gH A = some b → ∃ cs ty lo, b = .cells cs ty false lo 1 ∧ kJ cs = true := by
 intro A b h
 unfold gH at h
 have hn : ∀ (H : Heap) (c : Blk), iQ (H.cons c) A = some b → (A = H.length ∧ b = c) ∨ iQ H A = some b := fun H c h => by
  by_cases he : A = H.length
  ·subst he; rw [iM] at h; exact .inl ⟨rfl, (db h).symm⟩
  ·have hA : A < (H.cons c).length := jK h
   rw [length_cons] at hA
   rw [jN _ (by omega)] at h
   exact .inr h
 rcases hn _ _ h with ⟨_, rfl⟩ | h
 ·exact ⟨_, _, _, rfl, by kernel_rfl⟩
 rcases hn _ _ h with ⟨_, rfl⟩ | h
 ·exact ⟨_, _, _, rfl, by kernel_rfl⟩
 rcases hn _ _ h with ⟨_, rfl⟩ | h
 ·exact ⟨_, _, _, rfl, by kernel_rfl⟩
 rcases hn _ _ h with ⟨_, rfl⟩ | h
 ·exact ⟨_, _, _, rfl, by kernel_rfl⟩
 rcases hn _ _ h with ⟨_, rfl⟩ | h
 ·exact ⟨_, _, _, rfl, by kernel_rfl⟩
 rcases hn _ _ h with ⟨_, rfl⟩ | h
 ·exact ⟨_, _, _, rfl, by kernel_rfl⟩
 ·have : A < 0 := jK h
  omega
theorem ExtW.glob {ρ ρ' : Rho} {H' : Heap} (h : ExtW ρ gH ρ' H') : Glob gH H' := ⟨h.len, fun A hA => h.old A hA, c4p⟩
def p10 : List Int := [1, 10, 100, 1000, 10000, 100000, 1000000, 10000000, 100000000, 1000000000, 10000000000, 100000000000, 1000000000000, 10000000000000, 100000000000000, 1000000000000000, 10000000000000000, 100000000000000000, 1000000000000000000, 10000000000000000000]
theorem g64 : Tryz.prog.globalNamed "math/bits.deBruijn64tab" = some 0 := by kernel_rfl
theorem mB : Tryz.prog.globalNamed "internal/strconv.uint64pow10" = some 4 := by kernel_rfl
theorem g32 : Tryz.prog.globalNamed "math/bits.deBruijn32tab" = some 5 := by kernel_rfl
theorem b9l {w : World} (h64 : Lib.TabIs Tryz.prog w "math/bits.deBruijn64tab" .u8 (t64.map Int.ofNat)) (h10 : Lib.TabIs Tryz.prog w "internal/strconv.uint64pow10" .u64 p10)
 (h32 : Lib.TabIs Tryz.prog w "math/bits.deBruijn32tab" .u8 (t32.map Int.ofNat)) (h1001 : ∃ cs t fr, w.heap[1]? = some (.cells cs t fr)) (h1002 : ∃ cs t fr, w.heap[2]? = some (.cells cs t fr)) (h1003 : ∃ cs t fr, w.heap[3]? = some (.cells cs t fr)) : ∃ ρ, InW Tryz.prog ρ gH w := by
 have a0 := (InW.none (P := Tryz.prog) w).cQ g64 h64 (ty := 5) rfl (by kernel_rfl)
 obtain ⟨cs1, t1, fr1, hb1⟩ := h1001
 have a1 := (a0.row ⟨1, 0, cs1.size, 1⟩ hb1 (ty := 3) (by kernel_rfl) rfl [] 1 (fun _ => ⟨rfl, rfl⟩) (by simp) (fun i c hi => by simp at hi)).1
 obtain ⟨cs2, t2, fr2, hb2⟩ := h1002
 have a2 := (a1.row ⟨2, 0, cs2.size, 1⟩ hb2 (ty := 310) (by kernel_rfl) rfl [] 1 (fun _ => ⟨rfl, rfl⟩) (by simp) (fun i c hi => by simp at hi)).1
 obtain ⟨cs3, t3, fr3, hb3⟩ := h1003
 have a3 := (a2.row ⟨3, 0, cs3.size, 1⟩ hb3 (ty := 310) (by kernel_rfl) rfl [] 1 (fun _ => ⟨rfl, rfl⟩) (by simp) (fun i c hi => by simp at hi)).1
 have a4 := a3.cQ mB h10 (ty := 28) rfl (by kernel_rfl)
 have a5 := a4.cQ g32 h32 (ty := 5) rfl (by kernel_rfl)
 exact ⟨_, a5⟩
end Go.Ds
namespace Go.Ds
noncomputable section
variable {P : Program} {H0 : Base} {H : Heap} {os : List Ob} {κ β : Type} [DecidableEq κ] {enc : κ → Value} {f : β → Value} {t : TypeId} {z : Value}
structure MapK (P : Program) (t : TypeId) {κ : Type} [DecidableEq κ] (enc : κ → Value) (z : Value) : Prop where
 ex : ∃ kt et, xT P t = some (kt, et) ∧ jB P et = some z ∧ jC z = true ∧ (∀ b k, yJ P b kt (enc k) = true) ∧
  (∀ k (es : List MapEntry) (ks : List κ), es.map (·.key) = ks.map enc → rG P kt (enc k) es = some (ks.findIdx? fun x => decide (x = k))) ∧ ∀ k, Instr.sameBits 10000 (enc k) (enc k) = true
def kcs (enc : κ → Value) (f : β → Value) (kvs : List (κ × β)) : List Value := kvs.flatMap fun p => [enc p.1, f p.2]
def a2g (kvs : List (κ × β)) (k : κ) : Option β := (kvs.find? fun p => decide (p.1 = k)).map (·.2)
def a5h (kvs : List (κ × β)) (k : κ) (v : β) : List (κ × β) := match kvs.findIdx? (fun p => decide (p.1 = k)) with
 | some j => kvs.set j (k, v)
 | none => kvs ++ [(k, v)]
theorem a5f : ∀ (es : List MapEntry) (kvs : List (κ × β)), kcs enc f kvs = mcs es → es.map (·.key) = kvs.map (fun p => enc p.1) ∧ es.map (·.val) = kvs.map (fun p => f p.2)
 | [], [], _ => ⟨rfl, rfl⟩
 | [], p :: kvs, h => by simp [kcs, mcs] at h
 | e :: es, [], h => by simp [kcs, mcs] at h
 | e :: es, p :: kvs, h => by
   simp only [kcs, mcs, dR, ic, fj, fV] at h
   obtain ⟨h1, h2, h3⟩ := h
   obtain ⟨h4, h5⟩ := a5f es kvs h3
   simp only [eu]
   exact ⟨by rw [h4, h1], by rw [h5, h2]⟩
theorem a9J : ∀ (es : List MapEntry) (kvs : List (κ × β)), es.map (·.key) = kvs.map (fun p => enc p.1) → es.map (·.val) = kvs.map (fun p => f p.2) → kcs enc f kvs = mcs es
 | [], [], _, _ => rfl
 | [], p :: kvs, h, _ => by simp at h
 | e :: es, [], h, _ => by simp at h
 | e :: es, p :: kvs, h, h' => by
   simp only [eu, fV] at h h'
   have := a9J es kvs h.2 h'.2
   simp only [kcs, mcs, dR] at this ⊢
   rw [this, h.1, h'.1]
theorem St.cd (hS : St P H0 H os) (i : Nat) {A : Nat} {cs : List Value} (ho : os[i]? = some ⟨.map (some A), 0, cs⟩) : ∃ es ck ver, iQ H A = some (.map es ck ver) ∧ cs = mcs es ∧ Stamps es ck := by
 have := hS.own _ (dT ho)
 unfold OwnAt at this
 rw [if_pos rfl] at this
 rcases this with ⟨_, _, _, _, _, _, h⟩ | ⟨A', es, ck, ver, h1, h2, h3, h4⟩
 ·cases h
 ·simp only [Value.map.injEq, dI] at h3
  subst h3
  exact ⟨es, ck, ver, h1, h2, h4⟩
theorem b1C (kvs : List (κ × β)) (k : κ) : (∃ j x, (kvs.map (·.1)).findIdx? (fun x => decide (x = k)) = some j ∧ kvs[j]? = some x ∧ kvs.find? (fun p => decide (p.1 = k)) = some x) ∨ ((kvs.map (·.1)).findIdx? (fun x => decide (x = k)) = none ∧ kvs.find? (fun p => decide (p.1 = k)) = none) := by
 induction kvs with
 | nil => exact .inr ⟨rfl, rfl⟩
 | cons p kvs ih =>
   by_cases h : p.1 = k
   ·exact .inl ⟨0, p, by simp [eZ, h], rfl, by simp [h]⟩
   ·rcases ih with ⟨j, x, h1, h2, h3⟩ | ⟨h1, h2⟩
    ·exact .inl ⟨j + 1, x, by simp [eZ, h, h1], by simpa using h2, by simp [h, h3]⟩
    ·exact .inr ⟨by simp [eZ, h, h1], by simp [h, h2]⟩
theorem St.cX (hS : St P H0 H os) (i : Nat) {A : Nat} {kvs : List (κ × β)} (ho : os[i]? = some ⟨.map (some A), 0, kcs enc f kvs⟩) (hk : MapK P t enc z) (hf : ∀ b, nA (f b) = true) (c : Bool) (k : κ) :
 pA P H t (.map (some A)) (enc k) c = some (pairV c (((a2g kvs k).map f).getD z) (a2g kvs k).isSome) := by
 obtain ⟨kt, et, h1, h2, h3, h4, h5, h6⟩ := hk.ex
 obtain ⟨es, ck, ver, h7, h8, _⟩ := hS.cd i ho
 obtain ⟨h9, h10⟩ := a5f es kvs h8
 have hi := h5 k es (kvs.map (·.1)) (by rw [h9]; simp [gV])
 simp only [pA, h1, dc, a2I, h7, h4, if_true, hi, a2g]
 rcases b1C kvs k with ⟨j, x, e1, e2, e3⟩ | ⟨e1, e3⟩
 ·have hj : es[j]?.map (·.val) = some (f x.2) := by
   rw [← eN, h10, eN, e2]; rfl
  cases he : es[j]? with
  | none => rw [he] at hj; simp at hj
  | some e =>
    rw [he] at hj
    simp only [dO, dI] at hj
    simp only [e1, he, dc, hj, hf, if_true, e3, dO, ff, Option.isSome_some]
 ·simp only [e1, e3, Option.map_none, Option.getD_none, Option.isSome_none, h2, dc, h3, if_true]
def a7Z (P : Program) (H : Heap) (t : TypeId) (x k : Value) (c : Bool) (K : Value → Prop) (_k : Keep K := ⟨⟩) : Prop := ∃ v, pA P H t x k c = some v ∧ K v
theorem a7h {t : TypeId} {x x' k k' : Value} {c : Bool} {K : Value → Prop} (h : x = x') (h2 : k = k') : a7Z P H t x k c K = a7Z P H t x' k' c K := by rw [h, h2]
attribute [congr] a7h
theorem a9F (d ty pos af g) (t : TypeId) (x k : Operand) (c : Bool) (l : List Value) (K : Value → Heap → Prop) :
 lT P ⟨d, .lookup t x k c, ty, pos, af, g⟩ l H K = jI x l fun x => jI k l fun k => a7Z P H t x k c fun v => K v H := by
 have h2 : jZ ((pA P H t (ev l x) (ev l k) c).map fun v => (v, H)) K = ∃ v, pA P H t (ev l x) (ev l k) c = some v ∧ K v H := by
  cases pA P H t (ev l x) (ev l k) c <;> simp [jZ]
 simp only [lT, opD, jI, Op.operands, a7Z, h2]
 simp [and_assoc]
theorem St.bO (hS : St P H0 H os) (i : Nat) {A : Nat} {kvs : List (κ × β)} (ho : os[i]? = some ⟨.map (some A), 0, kcs enc f kvs⟩) (hk : MapK P t enc z) (hf : ∀ b, nA (f b) = true) {c : Bool} {k : κ} {K : Value → Prop}
 (h : K (pairV c (((a2g kvs k).map f).getD z) (a2g kvs k).isSome)) : a7Z P H t (.map (some A)) (enc k) c K := ⟨_, hS.cX i ho hk hf c k, h⟩
def a5x (P : Program) (H : Heap) (t : TypeId) (K : Value → Heap → Prop) (_k : Keep K := ⟨⟩) : Prop := ∃ v H1, pH P H t none = some (v, H1) ∧ K v H1
theorem a7x (d ty pos af g) (t : TypeId) (l : List Value) (K : Value → Heap → Prop) : lT P ⟨d, .makeMap t none, ty, pos, af, g⟩ l H K = a5x P H t K := by
 simp only [lT, opD, Op.operands, a5x, mN]
 simp
theorem St.bW (hS : St P H0 H os) (hk : MapK P t enc z) {K : Value → Heap → Prop} (h : ∀ A H1, St P H0 H1 (os ++ [⟨.map (some A), 0, []⟩]) → K (.map (some A)) H1) : a5x P H t K := by
 obtain ⟨kt, et, h1, _⟩ := hk.ex
 refine ⟨.map (some H.length), H.cons (.map [] 0 0), by simp [pH, h1], h _ _ (hS.add ?_ ?_ ?_ ?_)⟩
 ·unfold OwnAt
  rw [if_pos rfl]
  exact .inr ⟨_, [], 0, 0, iM H _, rfl, rfl, .nil 0⟩
 ·simp [oY]
 ·exact fun B hB => jN _ hB
 ·intro B hB
  simp [kK] at hB
  omega
def b5M (P : Program) (H : Heap) (t : TypeId) (m k v : Value) (K : Heap → Prop) (_k : Keep K := ⟨⟩) : Prop := ∃ H1, a0W P H t m k v = some H1 ∧ K H1
theorem a9h {t : TypeId} {m m' k k' v v' : Value} {K : Heap → Prop} (h : m = m') (h2 : k = k') (h3 : v = v') : b5M P H t m k v K = b5M P H t m' k' v' K := by rw [h, h2, h3]
attribute [congr] a9h
theorem a2Y (d ty pos af g) (t : TypeId) (m k v : Operand) (l : List Value) (K : Value → Heap → Prop) :
 lT P ⟨d, .mapUpdate t m k v, ty, pos, af, g⟩ l H K = jI m l fun m => jI k l fun k => jI v l fun v => b5M P H t m k v fun H1 => K undef H1 := by
 have h2 : jZ ((a0W P H t (ev l m) (ev l k) (ev l v)).map fun H => (undef, H)) K = ∃ H1, a0W P H t (ev l m) (ev l k) (ev l v) = some H1 ∧ K undef H1 := by
  cases a0W P H t (ev l m) (ev l k) (ev l v) <;> simp [jZ]
 simp only [lT, opD, jI, Op.operands, b5M, h2]
 simp [and_assoc]
theorem b0Y (kvs : List (κ × β)) (k : κ) (v : β) : a5h kvs k v = match (kvs.map (·.1)).findIdx? (fun x => decide (x = k)) with | some j => kvs.set j (k, v) | none => kvs ++ [(k, v)] := by
 unfold a5h
 rw [List.findIdx?_map]
 rfl
theorem St.ct (hS : St P H0 H os) (i : Nat) {A : Nat} {kvs : List (κ × β)} (ho : os[i]? = some ⟨.map (some A), 0, kcs enc f kvs⟩) (hk : MapK P t enc z) {k : κ} {v : β} {K : Heap → Prop}
 (h : ∀ H1, St P H0 H1 (os.set i ⟨.map (some A), 0, kcs enc f (a5h kvs k v)⟩) → K H1) : b5M P H t (.map (some A)) (enc k) (f v) K := by
 obtain ⟨kt, et, h1, h2, h3, h4, h5, h6⟩ := hk.ex
 obtain ⟨es, ck, ver, h7, h8, hst⟩ := hS.cd i ho
 obtain ⟨h9, h10⟩ := a5f es kvs h8
 have hi := h5 k es (kvs.map (·.1)) (by rw [h9]; simp [gV])
 have fin : ∀ es' ck', mcs es' = kcs enc f (a5h kvs k v) → Stamps es' ck' → St P H0 (hset H A (.map es' ck' (ver + 1))) (os.set i ⟨.map (some A), 0, kcs enc f (a5h kvs k v)⟩) := by
  intro es' ck' he hst'
  refine hS.put i ho ?_ ?_ ?_ ?_
  ·unfold OwnAt
   rw [if_pos rfl]
   exact .inr ⟨A, es', ck', _, iR _ (jK h7), he.symm, rfl, hst'⟩
  ·rw [jL]; exact dq _
  ·intro B hB hne
   exact qR fun hh => hne (by simp [kK, hh])
  ·exact fun B hB => .inl hB
 rcases b1C kvs k with ⟨j, x, e1, e2, _⟩ | ⟨e1, _⟩
 ·have hj : es[j]?.map (·.key) = some (enc x.1) := by
   rw [← eN, h9, eN, e2]; rfl
  have hx : x.1 = k := by
   have := List.findIdx?_eq_some_iff_getElem.1 e1
   obtain ⟨hlt, hd, _⟩ := this
   have hlt' : j < kvs.length := by simpa using hlt
   have : kvs[j] = x := by
    rw [dx hlt'] at e2
    exact db e2
   simp [this] at hd
   exact hd
  cases he : es[j]? with
  | none => rw [he] at hj; simp at hj
  | some e =>
    rw [he] at hj
    simp only [dO, dI] at hj
    refine ⟨hset H A (.map (es.set j { e with key := enc k, val := f v }) ck (ver + 1)), ?_, h _ (fin _ _ ?_ (hst.set he _ rfl))⟩
    ·have hsb : Instr.sameBits 10000 e.key (enc k) = true := by rw [hj, hx]; exact h6 k
     simp only [a0W, h1, dc, h7, h4, if_true, hi, e1, he, hsb]
    ·symm
     rw [b0Y, e1]
     refine a9J _ _ ?_ ?_
     ·rw [List.map_set, List.map_set, h9]
     ·rw [List.map_set, List.map_set, h10]
 ·refine ⟨hset H A (.map (es ++ [{ key := enc k, val := f v, born := ck }]) (ck + 1) (ver + 1)), ?_, h _ (fin _ _ ?_ (hst.push _ rfl))⟩
  ·simp only [a0W, h1, dc, h7, h4, if_true, hi, e1]
  ·symm
   rw [b0Y, e1]
   refine a9J _ _ ?_ ?_
   ·rw [dZ, dZ, h9]; rfl
   ·rw [dZ, dZ, h10]; rfl
def b8P (P : Program) (H : Heap) (t : TypeId) (m k : Value) (K : Value → Heap → Prop) (_k : Keep K := ⟨⟩) : Prop := ∃ v H1, sC P H t m k = some (v, H1) ∧ K v H1
theorem b0t {t : TypeId} {m m' k k' : Value} {K : Value → Heap → Prop} (h : m = m') (h2 : k = k') : b8P P H t m k K = b8P P H t m' k' K := by rw [h, h2]
attribute [congr] b0t
def b0V (H : Heap) (m b v : Value) (K : Heap → Prop) (_k : Keep K := ⟨⟩) : Prop := ∃ H1, rI H m b v = some H1 ∧ K H1
theorem a7L {m m' b b' v v' : Value} {K : Heap → Prop} (h : m = m') (h2 : b = b') (h3 : v = v') : b0V H m b v K = b0V H m' b' v' K := by rw [h, h2, h3]
attribute [congr] a7L
theorem a5L (d ty pos af g) (t : TypeId) (m k : Operand) (l : List Value) (K : Value → Heap → Prop) :
 lT P ⟨d, .mapEntry t m k, ty, pos, af, g⟩ l H K = jI m l fun m => jI k l fun k => b8P P H t m k K := by
 have h2 : jZ (sC P H t (ev l m) (ev l k)) K = ∃ v H1, sC P H t (ev l m) (ev l k) = some (v, H1) ∧ K v H1 := mN ..
 simp only [lT, opD, jI, Op.operands, b8P, h2]
 simp [and_assoc]
theorem a2q (d ty pos af g) (t : TypeId) (m b v : Operand) (l : List Value) (K : Value → Heap → Prop) :
 lT P ⟨d, .entryStore t m b v, ty, pos, af, g⟩ l H K = jI m l fun m => jI b l fun b => jI v l fun v => b0V H m b v fun H1 => K undef H1 := by
 have h2 : jZ ((rI H (ev l m) (ev l b) (ev l v)).map fun H => (undef, H)) K = ∃ H1, rI H (ev l m) (ev l b) (ev l v) = some H1 ∧ K undef H1 := by
  cases rI H (ev l m) (ev l b) (ev l v) <;> simp [jZ]
 simp only [lT, opD, jI, Op.operands, b0V, h2]
 simp [and_assoc]
theorem a1Q (kvs : List (κ × β)) (k k' : κ) (v : β) : a2g (a5h kvs k v) k' = if k' = k then some v else a2g kvs k' := by
 unfold a2g a5h
 induction kvs with
 | nil =>
   by_cases h : k' = k
   ·simp [h]
   ·simp [h, fc h]
 | cons p kvs ih =>
   by_cases hp : p.1 = k
   ·simp only [eZ, hp, decide_true, if_true, fS, List.find?_cons]
    by_cases h : k' = k
    ·simp [h]
    ·simp [h, fc h]
   ·have hd : decide (p.1 = k) = false := by simp [hp]
    simp only [eZ, hd, dV, if_false]
    by_cases hq : p.1 = k'
    ·have hne : ¬ k' = k := fun e => hp (hq.trans e)
     cases hh : kvs.findIdx? (fun p => decide (p.1 = k)) with
     | none => simp [hq, hne]
     | some j => simp [hq, hne]
    ·cases hh : kvs.findIdx? (fun p => decide (p.1 = k)) with
     | none =>
       rw [hh] at ih
       simpa [hq, List.find?_cons] using ih
     | some j =>
       rw [hh] at ih
       simpa [hq, List.find?_cons] using ih
end
end Go.Ds
namespace Go.Ds
noncomputable section
variable {P : Program} {H : Heap}
theorem kO {α : Type} (P : Program) (x : α) : iL P (pure x) = some x := rfl
theorem jT {t : TypeId} {d : TypeDesc} (h : P.underlying t = some d) : iL P (underlying t) = some d := by
 unfold underlying
 rw [iI]
 have : iL P program = some P := rfl
 rw [this, dc, h]
 rfl
def lF : Operand → Bool
 | .const _ => true
 | _ => false
def oL (c : Bool) (i : Nat) (v : Value) : Operand := if c then .const v else .tmp i
def lB (P : Program) (op : BinOp) (t t2 : TypeId) (cx cy : Bool) (x y : Value) : Option Value := (opD P ⟨none, .binOp op t (oL cx 0 x) (oL cy 1 y) t2, t, "", #[], none⟩ [x, y] .nil).map (·.1)
def lE (P : Program) (op : BinOp) (t t2 : TypeId) (cx cy : Bool) (x y : Value) (K : Value → Prop) (_k : Keep K := ⟨⟩) : Prop := match x, y with
 | .int k a, .int k' b => (match (if k = k' then mL op k a b else none) with | some v => K v | none => jY (lB P op t t2 cx cy (.int k a) (.int k' b)) K)
 | x, y => jY (lB P op t t2 cx cy x y) K
theorem a5T {op : BinOp} {t t2 : TypeId} {cx cy : Bool} {x x' y y' : Value} {K : Value → Prop} (h : x = x') (h2 : y = y') : lE P op t t2 cx cy x y K = lE P op t t2 cx cy x' y' K := by rw [h, h2]
attribute [congr] a5T
theorem a9d (x : Operand) (l m : List Value) : ev (ev l x :: m) (oL (lF x) 0 (ev l x)) = ev l x := by cases x <;> rfl
theorem b0g (x : Operand) (l m : List Value) (a : Value) : ev (a :: ev l x :: m) (oL (lF x) 1 (ev l x)) = ev l x := by cases x <;> rfl
theorem b6P (op : BinOp) (t : TypeId) (x y : Operand) (l : List Value) : eqGuard op t x y (ev l x) (ev l y) = eqGuard op t (oL (lF x) 0 (ev l x)) (oL (lF y) 1 (ev l y)) (ev l x) (ev l y) := by
 generalize hx : ev l x = vx
 generalize hy : ev l y = vy
 cases x <;> cases y <;> rfl
theorem b8d (d ty pos af g) (op : BinOp) (t : TypeId) (x y : Operand) (t2 : TypeId) (l : List Value) (H : Heap) :
 opD P ⟨d, .binOp op t x y t2, ty, pos, af, g⟩ l H = (lB P op t t2 (lF x) (lF y) (ev l x) (ev l y)).map fun v => (v, H) := by
 have hp : kP P ⟨d, .binOp op t x y t2, ty, pos, af, g⟩ l H = _ := mX (P := P) ⟨d, .binOp op t x y t2, ty, pos, af, g⟩ ⟨none, .binOp op t (oL (lF x) 0 (ev l x)) (oL (lF y) 1 (ev l y)) t2, t, "", #[], none⟩ l [ev l x, ev l y] H
  (by simp only [Op.operands, eu, gm, a9d, b0g]) (by
    simp only [execOp]
    rw [a9d, b0g, ← b6P])
 simp only [opD, lB, hp, a9d, b0g]
 generalize kP P _ _ _ = r
 generalize ev l x = vx
 generalize ev l y = vy
 split
 all_goals first
  | (split <;> first | rfl | (split <;> first | rfl | (cases r <;> rfl)) | (cases r <;> rfl))
  | (cases r <;> rfl)
theorem b7p (d ty pos af g) (op : BinOp) (t : TypeId) (x y : Operand) (t2 : TypeId) (l : List Value) (K : Value → Heap → Prop) :
 lT P ⟨d, .binOp op t x y t2, ty, pos, af, g⟩ l H K = jI x l fun x' => jI y l fun y' => lE P op t t2 (lF x) (lF y) x' y' fun v => K v H := by
 have h : jZ (opD P ⟨d, .binOp op t x y t2, ty, pos, af, g⟩ l H) K = lE P op t t2 (lF x) (lF y) (ev l x) (ev l y) fun v => K v H := by
  have key : jZ ((lB P op t t2 (lF x) (lF y) (ev l x) (ev l y)).map fun v => (v, H)) K = jY (lB P op t t2 (lF x) (lF y) (ev l x) (ev l y)) fun v => K v H := by
   cases lB P op t t2 (lF x) (lF y) (ev l x) (ev l y) <;> rfl
  rw [b8d, key]
  unfold lE
  split
  ·rename_i k a k' b hx hy
   split
   ·rename_i v hv
    split at hv
    ·rename_i hk
     subst hk
     have : lB P op t t2 (lF x) (lF y) (.int k a) (.int k b) = some v := by
      have h1 : ∀ m, ev ((.int k a : Value) :: m) (oL (lF x) 0 (.int k a)) = .int k a := fun m => by cases lF x <;> rfl
      have h2 : ∀ m c, ev (c :: (.int k b : Value) :: m) (oL (lF y) 1 (.int k b)) = .int k b := fun m c => by cases lF y <;> rfl
      cases op <;> simp only [mL] at hv <;> first | (cases hv; done) | (simp only [lB, opD, h1, h2, mL, if_true, hv]; rfl)
     rw [hx, hy, this]
     rfl
    ·cases hv
   ·rw [hx, hy]
  ·rfl
 simp only [lT, h, jI, Op.operands]
 simp [and_assoc]
theorem lX (op : BinOp) (t t2 : TypeId) (cx cy : Bool) (k : IntKind) (a b : Int) {v : Value} (K : Value → Prop) (h : mL op k a b = some v) : lE P op t t2 cx cy (.int k a) (.int k b) K = pD v K := by
 simp [lE, h, pD]
section
theorem b2E (t t2 : TypeId) (cx cy : Bool) (k : IntKind) (a b : Int) (K : Value → Prop) : lE P .add t t2 cx cy (.int k a) (.int k b) K = pD (.int k (k.wrap (a + b))) K := lX _ _ _ _ _ _ _ _ _ (by simp [mL, b0N, tX])
theorem b1V (t t2 : TypeId) (cx cy : Bool) (k : IntKind) (a b : Int) (K : Value → Prop) : lE P .sub t t2 cx cy (.int k a) (.int k b) K = pD (.int k (k.wrap (a - b))) K := lX _ _ _ _ _ _ _ _ _ (by simp [mL, b1d, tX])
theorem b3N (t t2 : TypeId) (cx cy : Bool) (k : IntKind) (a b : Int) (K : Value → Prop) : lE P .mul t t2 cx cy (.int k a) (.int k b) K = pD (.int k (k.wrap (a * b))) K := lX _ _ _ _ _ _ _ _ _ (by simp [mL, tX])
theorem b2l (t t2 : TypeId) (cx cy : Bool) (k : IntKind) (a b : Int) (K : Value → Prop) : lE P .eql t t2 cx cy (.int k a) (.int k b) K = pD (.bool (decide (a = b))) K := lX _ _ _ _ _ _ _ _ _ (by simp [mL, a2a]; rfl)
theorem b1O (t t2 : TypeId) (cx cy : Bool) (k : IntKind) (a b : Int) (K : Value → Prop) : lE P .neq t t2 cx cy (.int k a) (.int k b) K = pD (.bool (decide (¬ a = b))) K := lX _ _ _ _ _ _ _ _ _ (by simp [mL, a2a]; rfl)
theorem b2G (t t2 : TypeId) (cx cy : Bool) (k : IntKind) (a b : Int) (K : Value → Prop) : lE P .lss t t2 cx cy (.int k a) (.int k b) K = pD (.bool (decide (a < b))) K := lX _ _ _ _ _ _ _ _ _ (by simp [mL, a0h])
theorem b2b (t t2 : TypeId) (cx cy : Bool) (k : IntKind) (a b : Int) (K : Value → Prop) : lE P .leq t t2 cx cy (.int k a) (.int k b) K = pD (.bool (decide (a ≤ b))) K := lX _ _ _ _ _ _ _ _ _ (by simp [mL, a0h, ← Int.not_lt])
theorem b2R (t t2 : TypeId) (cx cy : Bool) (k : IntKind) (a b : Int) (K : Value → Prop) : lE P .gtr t t2 cx cy (.int k a) (.int k b) K = pD (.bool (decide (b < a))) K := lX _ _ _ _ _ _ _ _ _ (by simp [mL, a0h])
theorem b3A (t t2 : TypeId) (cx cy : Bool) (k : IntKind) (a b : Int) (K : Value → Prop) : lE P .geq t t2 cx cy (.int k a) (.int k b) K = pD (.bool (decide (b ≤ a))) K := lX _ _ _ _ _ _ _ _ _ (by simp [mL, a0h, ← Int.not_lt])
theorem b1X (t t2 : TypeId) (cx cy : Bool) (k : IntKind) (a b : Int) (K : Value → Prop) (hb : b ≠ 0) : lE P .rem t t2 cx cy (.int k a) (.int k b) K = pD (.int k (a.tmod b)) K := lX _ _ _ _ _ _ _ _ _ (by
 have : (b == 0) = false := by simp [hb]
 simp [mL, a2a, this])
theorem b2W (t t2 : TypeId) (cx cy : Bool) (k : IntKind) (a b : Int) (K : Value → Prop) (hb : b ≠ 0) : lE P .quo t t2 cx cy (.int k a) (.int k b) K = pD (.int k (k.wrap (a.tdiv b))) K := lX _ _ _ _ _ _ _ _ _ (by
 have : (b == 0) = false := by simp [hb]
 simp [mL, a2a, tX, this])
end
theorem lN {op : BinOp} {t t2 : TypeId} {cx cy : Bool} {x y v : Value} (hx : flat x = true) (hy : flat y = true) (hg : iL P (eqGuard op t (oL cx 0 x) (oL cy 1 y) x y) = some ())
 (hv : iL P (binOp op t x y) = some v) (hf : flat v = true) (hs : ∀ a n c, x ≠ .slice (some a) n c) (hp : ∀ a, x ≠ .pointer (some a)) (hi : ∀ k a b, x = .int k a → y = .int k b → mL op k a b = none) : lB P op t t2 cx cy x y = some v := by
 have h1 : ∀ m, ev (x :: m) (oL cx 0 x) = x := fun m => by cases cx <;> rfl
 have h2 : ∀ m c, ev (c :: y :: m) (oL cy 1 y) = y := fun m c => by cases cy <;> rfl
 have hpl : kP P ⟨none, .binOp op t (oL cx 0 x) (oL cy 1 y) t2, t, "", #[], none⟩ [x, y] .nil = some (v, .nil) := by
  unfold kP
  rw [if_pos (by simp [Op.operands, h1, h2, hx, hy])]
  have : execOp (ev [x, y]) ⟨none, .binOp op t (oL cx 0 x) (oL cy 1 y) t2, t, "", #[], none⟩ = (do let v ← (do eqGuard op t (oL cx 0 x) (oL cy 1 y) x y; binOp op t x y); pure (.value v)) := by
   simp only [execOp, h1, h2]
  rw [this, iI, iI, hg, dc, hv, dc, kO]
  simp only [hf, if_true]
 simp only [lB, opD, h1, h2, hpl]
 split
 ·exact absurd rfl (hs _ _ _)
 ·exact absurd rfl (hs _ _ _)
 ·rename_i k a k' b
  split
  ·rename_i hk
   subst hk
   rw [hi _ _ _ rfl rfl]
   rfl
  ·rfl
 ·exact absurd rfl (hp _)
 ·exact absurd rfl (hp _)
 ·exact absurd rfl (hp _)
 ·exact absurd rfl (hp _)
 ·rfl
theorem qA {op : BinOp} {t : TypeId} {x y : Operand} {k k' : IntKind} {a b : Int} : iL P (eqGuard op t x y (.int k a) (.int k' b)) = some () := by
 unfold eqGuard
 split <;> rfl
section
theorem b4T (t t2 : TypeId) (cx cy : Bool) (a b : Int) {k k' : IntKind} (hb : 0 ≤ b) : lB P .shr t t2 cx cy (.int k a) (.int k' b) = some (.int k (a.fdiv (2 ^ (min b.toNat k.bits)))) :=
 lN rfl rfl qA (by simp only [binOp, Op.shift]; rw [if_neg (by omega)]; rfl) rfl (by simp) (by simp) (by intros; rfl)
theorem b4F (t t2 : TypeId) (cx cy : Bool) (a b : Int) {k k' : IntKind} (hb : 0 ≤ b) : lB P .shl t t2 cx cy (.int k a) (.int k' b) = some (.int k (k.wrap (a * 2 ^ (min b.toNat k.bits)))) :=
 lN rfl rfl qA (by simp only [binOp, Op.shift]; rw [if_neg (by omega)]; rfl) rfl (by simp) (by simp) (by intros; rfl)
theorem b4u (t t2 : TypeId) (cx cy : Bool) (a b : Int) (k : IntKind) : lB P .and t t2 cx cy (.int k a) (.int k b) = some (.int k (k.wrap (BitVec.ofInt k.bits a &&& BitVec.ofInt k.bits b).toNat)) :=
 lN rfl rfl qA (by simp only [binOp]; rw [if_neg (by simp)]; rfl) rfl (by simp) (by simp) (by intros; rfl)
theorem b9C (t t2 : TypeId) (cx cy : Bool) (a b : Int) (k : IntKind) : lB P .or t t2 cx cy (.int k a) (.int k b) = some (.int k (k.wrap (BitVec.ofInt k.bits a ||| BitVec.ofInt k.bits b).toNat)) :=
 lN rfl rfl qA (by simp only [binOp]; rw [if_neg (by simp)]; rfl) rfl (by simp) (by simp) (by intros; rfl)
theorem b5n (t t2 : TypeId) (cx cy : Bool) (a b : Int) (k : IntKind) : lB P .xor t t2 cx cy (.int k a) (.int k b) = some (.int k (k.wrap (BitVec.ofInt k.bits a ^^^ BitVec.ofInt k.bits b).toNat)) :=
 lN rfl rfl qA (by simp only [binOp]; rw [if_neg (by simp)]; rfl) rfl (by simp) (by simp) (by intros; rfl)
theorem a6p (t t2 : TypeId) (cx cy : Bool) (a b : Int) (k : IntKind) : lB P .andNot t t2 cx cy (.int k a) (.int k b) = some (.int k (k.wrap (BitVec.ofInt k.bits a &&& ~~~ BitVec.ofInt k.bits b).toNat)) :=
 lN rfl rfl qA (by simp only [binOp]; rw [if_neg (by simp)]; rfl) rfl (by simp) (by simp) (by intros; rfl)
end
section
variable (a b : ByteArray)
theorem a0n {op : BinOp} {t : TypeId} {x y : Operand} : iL P (eqGuard op t x y (.string a) (.string b)) = some () := by
 unfold eqGuard
 split <;> rfl
theorem a0H (h : a.data.toList = b.data.toList) : a = b := by
 cases a; cases b
 simp only [ByteArray.mk.injEq]
 exact Array.toList_inj.1 h
theorem a2L : (a.toList == b.toList) = decide (a = b) := by
 rw [ByteArray.toList_eq, ByteArray.toList_eq, eh, beq_iff_eq, decide_eq_true_iff]
 exact ⟨a0H a b, fun h => by rw [h]⟩
theorem a9V (t t2 : TypeId) (cx cy : Bool) (a b : ByteArray) : lB P .eql t t2 cx cy (.string a) (.string b) = some (.bool (decide (a = b))) :=
 lN rfl rfl (a0n a b) (by rw [← a2L]; rfl) rfl (by simp) (by simp) (by intro _ _ _ h; cases h)
theorem a9U (t t2 : TypeId) (cx cy : Bool) (a b : ByteArray) : lB P .neq t t2 cx cy (.string a) (.string b) = some (.bool (decide (¬ a = b))) :=
 lN rfl rfl (a0n a b) (by
  have : decide (¬ a = b) = !(a.toList == b.toList) := by rw [a2L]; simp
  rw [this]; rfl) rfl (by simp) (by simp) (by intro _ _ _ h; cases h)
theorem a0N (t t2 : TypeId) (cx cy : Bool) (a b : ByteArray) (h : a.size + b.size < 9223372036854775808) : lB P .add t t2 cx cy (.string a) (.string b) = some (.string (a ++ b)) :=
 lN rfl rfl (a0n a b) (by
  simp only [binOp, Op.stringOp]
  rw [if_neg]
  ·rfl
  ·have : IntKind.i64.max = 9223372036854775807 := by decide
   rw [this]; omega) rfl (by simp) (by simp) (by intro _ _ _ h; cases h)
end
theorem b5F {t : TypeId} (s : ByteArray) (ht : nR P t = true) : zK P H t (.string s) = some (.int .i64 s.size) := by
 unfold nR at ht
 unfold zK
 split at ht
 ·rename_i h; rw [h]; simp [wD, goInt]
 ·cases ht
def oQ (P : Program) (t : TypeId) (x i : Value) : Option Value := (opD P ⟨none, .index t (.const x) (.const i), t, "", #[], none⟩ [] .nil).map (·.1)
theorem b2s (d ty pos af g) (t : TypeId) (x i : Operand) (l : List Value) (K : Value → Heap → Prop) :
 lT P ⟨d, .index t x i, ty, pos, af, g⟩ l H K = jI x l fun x => jI i l fun i => jY (oQ P t x i) fun v => K v H := by
 have h : opD P ⟨d, .index t x i, ty, pos, af, g⟩ l H = (oQ P t (ev l x) (ev l i)).map fun v => (v, H) := by
  have hp := mX (P := P) ⟨d, .index t x i, ty, pos, af, g⟩ ⟨none, .index t (.const (ev l x)) (.const (ev l i)), t, "", #[], none⟩ l [] H rfl rfl
  simp only [opD, oQ]
  exact hp
 have h2 : jZ ((oQ P t (ev l x) (ev l i)).map fun v => (v, H)) K = jY (oQ P t (ev l x) (ev l i)) fun v => K v H := by cases oQ P t (ev l x) (ev l i) <;> rfl
 simp only [lT, h, jI, Op.operands, h2]
 simp [and_assoc]
def oD (s : ByteArray) (i : Nat) : Nat := (s.data.toList.getD i 0).toNat
theorem a8M {t : TypeId} (s : ByteArray) (k : IntKind) (i : Int) (ht : nR P t = true) (h0 : 0 ≤ i) (h1 : i < s.size) : oQ P t (.string s) (.int k i) = some (.int .u8 (oD s i.toNat)) := by
 have hu : P.underlying t = some .string := by
  unfold nR at ht
  split at ht
  ·rename_i h; exact h
  ·cases ht
 have hr : iL P (Instr.index t (.string s) (.int k i)) = some (.int .u8 (oD s i.toNat)) := by
  unfold Instr.index
  rw [iI]
  have e1 : iL P (asIntOf (.int k i)) = some (k, i) := rfl
  rw [e1, dc]
  simp only [iI, jT hu, dc]
  rw [if_pos h0]
  have hlt : i.toNat < s.size := by omega
  have hb : s[i.toNat]? = some s[i.toNat] := by simp [getElem?_pos, hlt]
  simp only [hb]
  rw [kO]
  congr 3
  unfold oD
  rw [dj]
  have hl : i.toNat < s.data.toList.length := by simpa using hlt
  rw [dx hl]
  rfl
 have hpl : kP P ⟨none, .index t (.const (.string s)) (.const (.int k i)), t, "", #[], none⟩ [] .nil = some (.int .u8 (oD s i.toNat), .nil) := by
  unfold kP
  rw [if_pos (by rfl)]
  have : execOp (ev []) ⟨none, .index t (.const (.string s)) (.const (.int k i)), t, "", #[], none⟩ = (do let v ← Instr.index t (.string s) (.int k i); pure (.value v)) := rfl
  rw [this, iI, hr, dc, kO]
  rfl
 simp only [oQ, opD, hpl]
 rfl
def zJ (P : Program) (t : TypeId) : Option IntKind := match P.underlying t with | some (.int k) => some k | _ => none
theorem zQ {t : TypeId} {k : IntKind} (h : zJ P t = some k) : P.underlying t = some (.int k) := by
 unfold zJ at h
 split at h
 ·rename_i h2; rw [h2]; injection h with h; rw [h]
 ·cases h
theorem b3j {s t : TypeId} {k k' : IntKind} (a : Int) (hs : zJ P s = some k) (ht : zJ P t = some k') : a1D P s t (.int k a) = some (.int k' (k'.wrap a)) := by
 have hr : iL P (convert s t (.int k a)) = some (.int k' (k'.wrap a)) := by
  unfold convert
  simp only [iI, jT (zQ hs), jT (zQ ht), dc]
  rfl
 have hpl : kP P ⟨none, .convert s t (.const (.int k a)), t, "", #[], none⟩ [] .nil = some (.int k' (k'.wrap a), .nil) := by
  unfold kP
  rw [if_pos (by rfl)]
  have : execOp (ev []) ⟨none, .convert s t (.const (.int k a)), t, "", #[], none⟩ = (do let v ← convert s t (.int k a); pure (.value v)) := rfl
  rw [this, iI, hr, dc, kO]
  rfl
 simp only [a1D, hpl]
 rfl
def a4Y (P : Program) (d : Nat) (xs ys : Array Value) (fs : List Field) : Option Bool :=
 (iL P (forIn fs ((none, ()) : Option Bool × Unit) fun f _ =>
   if f.name ≠ "_" then do
    let a ← part f.type xs f.offset
    let b ← part f.type ys f.offset
    let c ← Op.equalIn d f.type a b
    if (!c) = true then pure (ForInStep.done (some false, ())) else pure (ForInStep.yield (none, ()))
   else pure (ForInStep.yield (none, ())))).bind fun x => iL P (match x.fst with | some r => pure r | none => pure true)
theorem a2b {d : Nat} {xs ys : Array Value} (g : Field → Bool) : ∀ (fs : List Field), (∀ f ∈ fs, f.name ≠ "_" ∧ iL P (part f.type xs f.offset >>= fun x => part f.type ys f.offset >>= fun y => Op.equalIn d f.type x y) = some (g f)) →
 a4Y P d xs ys fs = some (fs.all g)
 | [], _ => rfl
 | f :: fs, hg => by
   obtain ⟨h1, h2⟩ := hg f (eH ..)
   have ih := a2b g fs fun f' h => hg f' (eT _ h)
   unfold a4Y at ih ⊢
   rw [iI] at h2
   simp only [List.forIn_cons, h1, ne_eq, not_false_eq_true, if_true, iI]
   cases hx : iL P (part f.type xs f.offset) with
   | none => rw [hx] at h2; cases h2
   | some x =>
     rw [hx, dc, iI] at h2
     cases hy : iL P (part f.type ys f.offset) with
     | none => rw [hy] at h2; cases h2
     | some y =>
       rw [hy, dc] at h2
       simp only [dc, h2]
       cases hgf : g f with
       | false =>
         simp only [Bool.not_false, if_true, kO, dc, fq, hgf, fy]
       | true =>
         simp only [Bool.not_true, dV, if_false, kO, dc, fq, hgf, gM]
         exact ih
theorem a5U {d : Nat} {t : TypeId} {fs : List Field} {xs ys : Array Value} (hu : P.underlying t = some (.struct fs.toArray)) (hst : P.stoodInHeld t = false) (g : Field → Bool)
 (hg : ∀ f ∈ fs, f.name ≠ "_" ∧ iL P (part f.type xs f.offset >>= fun x => part f.type ys f.offset >>= fun y => Op.equalIn d f.type x y) = some (g f)) : iL P (Op.equalIn (d + 1) t (.agg xs) (.agg ys)) = some (fs.all g) := by
 rw [Op.equalIn, iI, jT hu, dc]
 have hp : iL P program = some P := rfl
 simp only [iI, hp, dc, hst, dV, if_false, List.forIn_toArray]
 refine Eq.trans ?_ (a2b g fs hg)
 unfold a4Y
 congr 1
 funext x
 cases x.fst <;> rfl
theorem a4p {op : BinOp} {t : TypeId} (ht : P.eqGuardType P.depth t = false) {x y : Operand} {a b : Array Value} : iL P (eqGuard op t x y (.agg a) (.agg b)) = some () := by
 have hp : iL P program = some P := rfl
 unfold eqGuard
 cases op <;> simp [iI, hp, ht, kO]
theorem b5f {t t2 : TypeId} {cx cy : Bool} {xs ys : List Value} (b : Bool) (ht : P.eqGuardType P.depth t = false) (hx : xs.all iY = true) (hy : ys.all iY = true) (h : iL P (Op.equalIn (9999 + 1) t (.agg xs.toArray) (.agg ys.toArray)) = some b) :
 lB P .eql t t2 cx cy (.agg xs.toArray) (.agg ys.toArray) = some (.bool b) :=
 lN (by simp [flat, jC, kJ, hx]) (by simp [flat, jC, kJ, hy]) (a4p ht) (by
  have hmd : Op.maxDepth = 9999 + 1 := by decide
  simp only [binOp, iI, Op.equal]
  rw [hmd, h, dc, kO]) rfl (by simp) (by simp) (by intro _ _ _ h; cases h)
theorem a5Y {t t2 : TypeId} {cx cy : Bool} {xs ys : List Value} (b : Bool) (ht : P.eqGuardType P.depth t = false) (hx : xs.all iY = true) (hy : ys.all iY = true) (h : iL P (Op.equalIn (9999 + 1) t (.agg xs.toArray) (.agg ys.toArray)) = some b) :
 lB P .neq t t2 cx cy (.agg xs.toArray) (.agg ys.toArray) = some (.bool (!b)) :=
 lN (by simp [flat, jC, kJ, hx]) (by simp [flat, jC, kJ, hy]) (a4p ht) (by
  have hmd : Op.maxDepth = 9999 + 1 := by decide
  simp only [binOp, iI, Op.equal]
  rw [hmd, h, dc, kO]) rfl (by simp) (by simp) (by intro _ _ _ h; cases h)
end
end Go.Ds
namespace Go.Ds
noncomputable section
variable {P : Program} {H : Heap}
theorem a1Z (a b : ByteArray) : (a == b) = decide (b = a) := by
 obtain ⟨x⟩ := a
 obtain ⟨y⟩ := b
 rw [eh, decide_eq_true_iff]
 constructor
 ·intro h
  have e : x = y := by simpa using (show (x == y) = true from h)
  rw [e]
 ·intro h
  cases h
  show (x == x) = true
  simp
theorem a3G (o : Option Nat) (i : Nat) : o.map (i + 1 + ·) = (o.map (· + 1)).map (i + ·) := by
 cases o with
 | none => rfl
 | some j => simp only [dO]; congr 1; omega
theorem a0M (k : ByteArray) : ∀ (es : List MapEntry) (ks : List ByteArray) (i : Nat), es.map (·.key) = ks.map Value.string →
 (Instr.findNow .string (.string k) (es.map wG) i).map (·.map (·.1)) = some ((ks.findIdx? fun x => decide (x = k)).map (i + ·))
 | [], [], i, _ => rfl
 | [], _ :: _, _, h => by simp at h
 | _ :: _, [], _, h => by simp at h
 | e :: es, s :: ks, i, h => by
   simp only [eu, fV] at h
   have hs : Instr.sameNow .string (.string k) e.key = some (decide (s = k)) := by
    rw [h.1]
    show some (k == s) = _
    rw [a1Z]
   simp only [eu, Instr.findNow, wG, hs, eZ]
   by_cases hd : s = k
   ·simp [hd]
   ·simp only [hd, decide_false, dV, if_false]
    have := a0M k es ks (i + 1) h.2
    rw [a3G] at this
    exact this
theorem b1g {κ : Type} [DecidableEq κ] {enc : κ → Value} {kt : TypeId} (heq : ∀ a b, iL P (Op.equal kt (enc a) (enc b)) = some (decide (b = a))) (k : κ) : ∀ (es : List MapEntry) (ks : List κ) (i : Nat), es.map (·.key) = ks.map enc →
 (iL P (Instr.findAsking kt (enc k) (es.map wG) i)).map (·.map (·.1)) = some ((ks.findIdx? fun x => decide (x = k)).map (i + ·))
 | [], [], i, _ => rfl
 | [], _ :: _, _, h => by simp at h
 | _ :: _, [], _, h => by simp at h
 | e :: es, s :: ks, i, h => by
   simp only [eu, fV] at h
   simp only [eu, Instr.findAsking, wG, iI, eZ]
   rw [h.1, heq, dc]
   by_cases hd : s = k
   ·simp [hd, kO]
   ·simp only [hd, decide_false, dV, if_false]
    have := b1g heq k es ks (i + 1) h.2
    rw [a3G] at this
    exact this
theorem MapK.str {t kt et : TypeId} {z : Value} (hm : xT P t = some (kt, et)) (hu : P.underlying kt = some .string) (hz : jB P et = some z) (hf : jC z = true) : MapK P t Value.string z where
 ex := by
  refine ⟨kt, et, hm, hz, hf, ?_, ?_, ?_⟩
  ·intro b k
   have : iL P (Instr.checkKey b 10000 kt (.string k)) = some () := by
    show iL P (Instr.checkKey b (9999 + 1) kt (.string k)) = some ()
    unfold Instr.checkKey
    rw [iI, jT hu, dc]
    rfl
   simp only [yJ, this]
   rfl
  ·intro k es ks h
   have h1 := a0M k es ks 0 h
   unfold rG Instr.findKey
   rw [iI, jT hu, dc]
   cases hn : Instr.findNow .string (.string k) (es.map wG) 0 with
   | none => rw [hn] at h1; cases h1
   | some r =>
     rw [hn] at h1
     simp only [kO]
     simpa using h1
  ·intro k
   show (k == k) = true
   rw [a1Z]
   simp
theorem MapK.struct {κ : Type} [DecidableEq κ] {enc : κ → Value} {t kt et : TypeId} {z : Value} {fs : Array Field} (hm : xT P t = some (kt, et)) (hu : P.underlying kt = some (.struct fs)) (hz : jB P et = some z) (hf : jC z = true)
 (hk : ∀ b k, yJ P b kt (enc k) = true) (heq : ∀ a b, iL P (Op.equal kt (enc a) (enc b)) = some (decide (b = a))) (hsb : ∀ k, Instr.sameBits 10000 (enc k) (enc k) = true) : MapK P t enc z where
 ex := by
  refine ⟨kt, et, hm, hz, hf, hk, ?_, hsb⟩
  intro k es ks h
  have h1 := b1g heq k es ks 0 h
  unfold rG Instr.findKey
  rw [iI, jT hu, dc]
  have key : ∀ (l : List MapEntry), Instr.findNow (.struct fs) (enc k) l 0 = none ∨ l = [] := by
   intro l
   cases l with
   | nil => exact .inr rfl
   | cons e l => exact .inl rfl
  rcases key (es.map wG) with hn | hn
  ·rw [hn]
   simpa using h1
  ·rw [hn]
   have : es = [] := by simpa using hn
   subst this
   have : ks = [] := by cases ks with | nil => rfl | cons a ks => simp at h
   subst this
   rfl
end
end Go.Ds
namespace Go.Ds
noncomputable section
variable {P : Program} {H : Heap}
def a2G (o : Option (Nat × TypeId)) (P : Program) (H : Heap) (t : TypeId) (z : Value) (K : Value → Heap → Prop) (_k : Keep K := ⟨⟩) : Prop := match o with
 | none => tO (jC z) (a5D P H t z K)
 | some _ => tO (jC z) (a8R P H t z K)
theorem a4G {o o' : Option (Nat × TypeId)} {t : TypeId} {z : Value} {K : Value → Heap → Prop} (h : o = o') : a2G o P H t z K = a2G o' P H t z K := by rw [h]
attribute [congr] a4G
theorem b5b {t : TypeId} (z : Value) (K : Value → Heap → Prop) : uK P H t (some z) K = a2G (jQ P t) P H t z K := by
 cases h : jQ P t with
 | none => exact a6K z K h
 | some n => exact a9x z K h
theorem a8c {t : TypeId} (z : Value) (K : Value → Heap → Prop) : a2G none P H t z K = tO (jC z) (a5D P H t z K) := rfl
theorem a7Y {t : TypeId} (n : Nat × TypeId) (z : Value) (K : Value → Heap → Prop) : a2G (some n) P H t z K = tO (jC z) (a8R P H t z K) := rfl
theorem a6q {t : TypeId} {k : IntKind} (h : zJ P t = some k) : kT P t = false := by
 simp [kT, zQ h]
def a3C (ks kt : Option IntKind) (P : Program) (s t : TypeId) (H : Heap) (k : IntKind) (a : Int) (K : Value → Heap → Prop) (_k : Keep K := ⟨⟩) : Prop := match ks, kt with
 | some k0, some k' => if k0 = k then K (.int k' (k'.wrap a)) H else qZ P s t H (.int k a) K
 | _, _ => qZ P s t H (.int k a) K
theorem a7y {ks ks' kt kt' : Option IntKind} {s t : TypeId} {k : IntKind} {a : Int} {K : Value → Heap → Prop} (h : ks = ks') (h2 : kt = kt') : a3C ks kt P s t H k a K = a3C ks' kt' P s t H k a K := by rw [h, h2]
attribute [congr] a7y
theorem b8p {s t : TypeId} (k : IntKind) (a : Int) (K : Value → Heap → Prop) : qZ P s t H (.int k a) K = a3C (zJ P s) (zJ P t) P s t H k a K := by
 unfold a3C
 split
 ·rename_i k0 k' hs ht
  split
  ·rename_i hk
   subst hk
   rw [b3r k0 a K (a6q ht), b3j a hs ht]
   rfl
  ·rfl
 ·rfl
theorem b3B {s t : TypeId} (k k' : IntKind) (a : Int) (K : Value → Heap → Prop) : a3C (some k) (some k') P s t H k a K = pD (.int k' (k'.wrap a)) fun v => K v H := by simp [a3C, pD]
def c1m (b : Bool) (P : Program) (H : Heap) (t : TypeId) (v : Value) : Option Value := match b with
 | true => (match v with | .string s => some (.int .i64 s.size) | _ => zK P H t v)
 | false => zK P H t v
theorem c1a (t : TypeId) (v : Value) : rQ none P H t v = c1m (nR P t) P H t v := by
 unfold c1m
 split
 ·rename_i h
  split
  ·exact b5F _ h
  ·rfl
 ·rfl
theorem b6r (t : TypeId) (s : ByteArray) : c1m true P H t (.string s) = some (.int .i64 s.size) := rfl
def a1y (b : Bool) (P : Program) (t : TypeId) (x i : Value) : Option Value := match b, x, i with
 | true, .string s, .int k i => if 0 ≤ i ∧ i < s.size then some (.int .u8 (oD s i.toNat)) else oQ P t (.string s) (.int k i)
 | _, x, i => oQ P t x i
theorem a7n (t : TypeId) (x i : Value) : oQ P t x i = a1y (nR P t) P t x i := by
 unfold a1y
 split
 ·rename_i h
  split
  ·rename_i h2; exact a8M _ _ _ h h2.1 h2.2
  ·rfl
 ·rfl
theorem b0s (t : TypeId) (s : ByteArray) (k : IntKind) (i : Int) (h0 : 0 ≤ i) (h1 : i < s.size) : a1y true P t (.string s) (.int k i) = some (.int .u8 (oD s i.toNat)) := by
 simp [a1y, h0, h1]
theorem OC : (∀ k n, oneCell (.int k n) = true) ∧ (∀ b, oneCell (.bool b) = true) ∧ (∀ s, oneCell (.string s) = true) ∧ (∀ a, oneCell (.pointer a) = true) ∧ (∀ a n c, oneCell (.slice a n c) = true) ∧ (∀ r, oneCell (.map r) = true) ∧ (∀ f a b, oneCell (.func f a b) = true) ∧ oneCell .nilFunc = true :=
 ⟨fun _ _ => rfl, fun _ => rfl, fun _ => rfl, fun _ => rfl, fun _ _ _ => rfl, fun _ => rfl, fun _ _ _ => rfl, rfl⟩
theorem c4e (o : Option Bool) : (o.map Value.bool).getD (.bool false) = .bool (o.getD false) := by cases o <;> rfl
theorem c4f (k : IntKind) (o : Option Int) : (o.map (Value.int k)).getD (.int k 0) = .int k (o.getD 0) := by cases o <;> rfl
theorem b8A (v : Value) (b : Bool) : pairV false v b = v := rfl
theorem b8f (v : Value) (b : Bool) : pairV true v b = .tuple #[v, .bool b] := rfl
theorem b5w (t : Tmp) : lF (.tmp t) = false := rfl
theorem a8t (v : Value) : lF (.const v) = true := rfl
theorem b5t (s : ByteArray) : flat (.string s) = true := rfl
theorem b3J (s : ByteArray) : jC (.string s) = true := rfl
theorem a9Y (s : ByteArray) : iY (.string s) = true := rfl
theorem a6e (s : ByteArray) : jJ (.string s) = true := rfl
theorem b5Z (k : IntKind) (n : Int) : pK (.int k n) = true := rfl
theorem b3Q (b : Bool) : pK (.bool b) = true := rfl
theorem b6C (s : ByteArray) : pK (.string s) = true := rfl
theorem a4s {c b : Bool} {p q : Prop} (h1 : c = true → rS (.bool true) b p q) (h2 : c = false → rS (.bool false) b p q) : rS (.bool c) b p q := by
 cases c
 ·exact h2 rfl
 ·exact h1 rfl
theorem St.pick {H0 : Base} {os os' : List Ob} (hS : St P H0 H os) (idx : List Nat) (hn : idx.Nodup) (h : idx.map (os[·]?) = os'.map some) : St P H0 H os' := by
 have hmem : ∀ o ∈ os', o ∈ os := by
  intro o ho
  have : some o ∈ idx.map (os[·]?) := by rw [h]; exact fP ho
  obtain ⟨i, _, hi⟩ := dK.1 this
  exact dT hi
 refine ⟨hS.len, hS.old, fun o ho => hS.own o (hmem o ho), fun o ho => hS.new o (hmem o ho), ?_⟩
 have hpw := eF.1 hS.sep
 rw [eF]
 intro i j hi hj hij
 have hl : idx.length = os'.length := by simpa using congrArg List.length h
 have key : ∀ i (hi : i < os'.length), ∃ hk : idx[i]'(by omega) < os.length, os[idx[i]'(by omega)] = os'[i] := by
  intro i hi
  have h1 : (idx.map (os[·]?))[i]? = (os'.map some)[i]? := by rw [h]
  rw [eN, eN, dx (by omega), dx hi] at h1
  simp only [dO, dI] at h1
  exact dA.1 h1
 obtain ⟨h1, e1⟩ := key i hi
 obtain ⟨h2, e2⟩ := key j hj
 have hne : idx[i]'(by omega) ≠ idx[j]'(by omega) := by
  have := eF.1 hn i j (by omega) (by omega) hij
  exact this
 rcases fR hne with hh | hh
 ·have := hpw _ _ h1 h2 hh
  rw [e1, e2] at this
  exact this
 ·have := hpw _ _ h2 h1 hh
  rw [e1, e2] at this
  intro B hb hb'
  exact this B hb' hb
theorem St.frame {H1 : Heap} {H0 : Base} {ls rest ls' : List Ob} (hS : St P H0 H (ls ++ rest)) (h1 : St P ⟨H, pN ls⟩ H1 ls') : St P H0 H1 (ls' ++ rest) := by
 have hls : St P H0 H ls := hS.sub (List.sublist_append_left ..)
 have h2 := hls.bC h1
 have hsep := fL.1 hS.sep
 have hkeep : ∀ o ∈ rest, ∀ B, kK o.v = some B → iQ H1 B = iQ H B := by
  intro o ho B hB
  have hlt := (hS.own o (gw _ ho)).lt hB
  exact h1.old B hlt fun ⟨x, hx, hxb⟩ => hsep.2.2 x hx o ho B hxb hB
 refine ⟨h2.len, h2.old, ?_, ?_, ?_⟩
 ·intro o ho
  rcases dN.1 ho with ho | ho
  ·exact h2.own o ho
  ·exact (hS.own o (gw _ ho)).ae (hkeep o ho)
 ·intro o ho B hB
  rcases dN.1 ho with ho | ho
  ·exact h2.new o ho B hB
  ·exact hS.new o (gw _ ho) B hB
 ·rw [fL]
  refine ⟨h2.sep, hsep.2.1, ?_⟩
  intro x hx y hy B hb hb'
  rcases h1.new x hx B hb with hh | ⟨z, hz, hzb⟩
  ·have := (hS.own y (gw _ hy)).lt hb'
   have hh : H.length ≤ B := hh
   omega
  ·exact hsep.2.2 z hz y hy B hzb hb'
theorem b8n (t : TypeId) (k : IntKind) (n : Int) : unV P .neg t (.int k n) = some (.int k (k.wrap (0 - n))) := rfl
theorem b3X (ops : Array Oper) (d : Option Tmp) (op : Op) (ty : TypeId) (pos : String) (af : Array Edge) (j : Nat) (b : Bool) (l : List Value) (H' : Heap) (v : Value) :
 rdW P ops (some ⟨d, op, ty, pos, af, some (j, b)⟩) (some (l, H', v)) H = tZ (yC ops j) l b (lT P ⟨d, op, ty, pos, af, some (j, b)⟩ l H fun v' _ => v' = v) True := by
 rw [← sG ops l d op ty pos af]
 unfold rdW
 split
 ·rename_i h1 h2
  cases h1; cases h2
  split
  ·rename_i h; simp [h]
  ·rename_i h; simp [h]
 ·rename_i h
  exact (h _ _ _ _ rfl rfl).elim
theorem b3I (t t2 : TypeId) (cx cy : Bool) (k : IntKind) (a b : Int) (K : Value → Prop) : lE P .and t t2 cx cy (.int k a) (.int k b) K = jY (lB P .and t t2 cx cy (.int k a) (.int k b)) K := by
 have h : (if k = k then mL .and k a b else none) = none := by split <;> rfl
 unfold lE; dsimp only
 rw [h]
theorem b5V (t t2 : TypeId) (cx cy : Bool) (k : IntKind) (a b : Int) (K : Value → Prop) : lE P .or t t2 cx cy (.int k a) (.int k b) K = jY (lB P .or t t2 cx cy (.int k a) (.int k b)) K := by
 have h : (if k = k then mL .or k a b else none) = none := by split <;> rfl
 unfold lE; dsimp only
 rw [h]
theorem b3q (t t2 : TypeId) (cx cy : Bool) (k : IntKind) (a b : Int) (K : Value → Prop) : lE P .xor t t2 cx cy (.int k a) (.int k b) K = jY (lB P .xor t t2 cx cy (.int k a) (.int k b)) K := by
 have h : (if k = k then mL .xor k a b else none) = none := by split <;> rfl
 unfold lE; dsimp only
 rw [h]
theorem a4R (t t2 : TypeId) (cx cy : Bool) (k : IntKind) (a b : Int) (K : Value → Prop) : lE P .andNot t t2 cx cy (.int k a) (.int k b) K = jY (lB P .andNot t t2 cx cy (.int k a) (.int k b)) K := by
 have h : (if k = k then mL .andNot k a b else none) = none := by split <;> rfl
 unfold lE; dsimp only
 rw [h]
theorem b3V (t t2 : TypeId) (cx cy : Bool) (k k' : IntKind) (a b : Int) (K : Value → Prop) : lE P .shl t t2 cx cy (.int k a) (.int k' b) K = jY (lB P .shl t t2 cx cy (.int k a) (.int k' b)) K := by
 have h : (if k = k' then mL .shl k a b else none) = none := by split <;> rfl
 unfold lE; dsimp only
 rw [h]
theorem b2y (t t2 : TypeId) (cx cy : Bool) (k k' : IntKind) (a b : Int) (K : Value → Prop) : lE P .shr t t2 cx cy (.int k a) (.int k' b) K = jY (lB P .shr t t2 cx cy (.int k a) (.int k' b)) K := by
 have h : (if k = k' then mL .shr k a b else none) = none := by split <;> rfl
 unfold lE; dsimp only
 rw [h]
theorem b2x (op : BinOp) (t t2 : TypeId) (cx cy : Bool) (a b : ByteArray) (K : Value → Prop) : lE P op t t2 cx cy (.string a) (.string b) K = jY (lB P op t t2 cx cy (.string a) (.string b)) K := rfl
theorem b1Q (op : BinOp) (t t2 : TypeId) (cx cy : Bool) (a b : Array Value) (K : Value → Prop) : lE P op t t2 cx cy (.agg a) (.agg b) K = jY (lB P op t t2 cx cy (.agg a) (.agg b)) K := rfl
theorem b2C (op : BinOp) (t t2 : TypeId) (cx cy : Bool) (a b : Bool) (K : Value → Prop) : lE P op t t2 cx cy (.bool a) (.bool b) K = jY (lB P op t t2 cx cy (.bool a) (.bool b)) K := rfl
theorem a7F (n : Int) (h1 : -9223372036854775808 ≤ n) (h2 : n < 9223372036854775808) : IntKind.wrap .i64 n = n := by
 show (if (true && decide (n % 18446744073709551616 ≥ 9223372036854775808)) = true then n % 18446744073709551616 - 18446744073709551616 else n % 18446744073709551616) = n
 simp only [gM, decide_eq_true_eq]
 omega
theorem b9D (n : Int) (h1 : -128 ≤ n) (h2 : n < 128) : IntKind.wrap .i8 n = n := by
 show (if (true && decide (n % 256 ≥ 128)) = true then n % 256 - 256 else n % 256) = n
 simp only [gM, decide_eq_true_eq]
 omega
theorem pJ (n : Int) (h1 : 0 ≤ n) (h2 : n < 18446744073709551616) : IntKind.wrap .u64 n = n := by
 show (if (false && decide (n % 18446744073709551616 ≥ 9223372036854775808)) = true then n % 18446744073709551616 - 18446744073709551616 else n % 18446744073709551616) = n
 simp only [fy]
 rw [if_neg (by simp)]
 omega
theorem b4g (n : Int) (h1 : 0 ≤ n) (h2 : n < 4294967296) : IntKind.wrap .u32 n = n := by
 show (if (false && decide (n % 4294967296 ≥ 2147483648)) = true then n % 4294967296 - 4294967296 else n % 4294967296) = n
 simp only [fy]
 rw [if_neg (by simp)]
 omega
theorem yZ (n : Int) (h1 : 0 ≤ n) (h2 : n < 65536) : IntKind.wrap .u16 n = n := by
 show (if (false && decide (n % 65536 ≥ 32768)) = true then n % 65536 - 65536 else n % 65536) = n
 simp only [fy]
 rw [if_neg (by simp)]
 omega
theorem b9S (n : Int) (h1 : 0 ≤ n) (h2 : n < 256) : IntKind.wrap .u8 n = n := by
 show (if (false && decide (n % 256 ≥ 128)) = true then n % 256 - 256 else n % 256) = n
 simp only [fy]
 rw [if_neg (by simp)]
 omega
end
end Go.Ds
namespace Go.Ds
noncomputable section
variable {P : Program}
def tH (P : Program) (t : TypeId) : List Field := match P.underlying t with | some (.struct fs) => fs.toList | _ => []
def eqC : Value → Value → Bool
 | .int _ a, .int _ b => a == b
 | .bool a, .bool b => a == b
 | .string a, .string b => decide (a = b)
 | _, _ => false
def okC (P : Program) (t : TypeId) (x y : Value) : Bool := match P.underlying t with
 | some (.int _) => (match x, y with | .int k _, .int k' _ => decide (k = k') | _, _ => false)
 | some .bool => (match x, y with | .bool _, .bool _ => true | _, _ => false)
 | some .string => (match x, y with | .string _, .string _ => true | _, _ => false)
 | _ => false
theorem eq1 {t : TypeId} {x y : Value} (d : Nat) (h : okC P t x y = true) : iL P (Op.equalIn (d + 1) t x y) = some (eqC x y) := by
 unfold okC at h
 split at h
 ·rename_i k0 hu
  split at h
  ·rename_i k a k' b
   have hk : k = k' := by simpa using h
   subst hk
   rw [Op.equalIn, iI, jT hu, dc]
   simp only [if_true]
   rfl
  ·cases h
 ·rename_i hu
  split at h
  ·rw [Op.equalIn, iI, jT hu, dc]; rfl
  ·cases h
 ·rename_i hu
  split at h
  ·rename_i a b
   rw [Op.equalIn, iI, jT hu, dc]
   show some (a == b) = some (decide (a = b))
   rw [a1Z]
   congr 1
   simp [eq_comm]
  ·cases h
 ·cases h
theorem c0k {t : TypeId} {x y v : Value} {cs : Array Value} {off : Nat} (h : okC P t x y = true) (hc : cs[off]? = some v) : iL P (part t cs off) = some v := by
 have ha : iL P (isAgg t) = some false := by
  unfold isAgg
  unfold okC at h
  split at h
  ·rename_i hu; rw [iI, jT hu, dc]; rfl
  ·rename_i hu; rw [iI, jT hu, dc]; rfl
  ·rename_i hu; rw [iI, jT hu, dc]; rfl
  ·cases h
 unfold part
 rw [iI, ha, dc]
 simp only [dV, if_false, hc]
 rfl
theorem xR {t : TypeId} {xs ys : List Value} (d : Nat) (hu : P.underlying t = some (.struct (tH P t).toArray)) (hst : P.stoodInHeld t = false)
 (hf : ((tH P t).map fun f => (f.name != "_", f.offset)) = (List.range xs.length).map fun j => (true, j)) (hy : ys.length = xs.length)
 (hok : ((tH P t).all fun f => okC P f.type (xs.getD f.offset undef) (ys.getD f.offset undef)) = true) :
 iL P (Op.equalIn (d + 2) t (.agg xs.toArray) (.agg ys.toArray)) = some ((List.range xs.length).all fun j => eqC (xs.getD j undef) (ys.getD j undef)) := by
 rw [dy] at hok
 have hmem : ∀ f ∈ tH P t, (f.name != "_") = true ∧ f.offset < xs.length := fun f hf' => by
  have : (f.name != "_", f.offset) ∈ (List.range xs.length).map fun j => (true, j) := by rw [← hf]; exact fP hf'
  obtain ⟨j, hj, he⟩ := dK.1 this
  simp only [gq] at he
  exact ⟨he.1.symm, by rw [← he.2]; exact dH.1 hj⟩
 rw [a5U hu hst (fun f => eqC (xs.getD f.offset undef) (ys.getD f.offset undef)) ?_]
 ·congr 1
  have h1 : (tH P t).all (fun f => eqC (xs.getD f.offset undef) (ys.getD f.offset undef)) = ((tH P t).map fun f => (f.name != "_", f.offset)).all fun p => eqC (xs.getD p.2 undef) (ys.getD p.2 undef) := by
   rw [List.all_map]; rfl
  rw [h1, hf, List.all_map]
  rfl
 ·intro f hf'
  obtain ⟨h1, h2⟩ := hmem f hf'
  refine ⟨by simpa using h1, ?_⟩
  have hx : xs.toArray[f.offset]? = some (xs.getD f.offset undef) := by
   rw [fi, dj, dx h2]; rfl
  have hy' : ys.toArray[f.offset]? = some (ys.getD f.offset undef) := by
   rw [fi, dj, dx (by omega)]; rfl
  rw [iI, c0k (hok f hf') hx, dc, iI, c0k (hok f hf') hy', dc]
  exact eq1 d (hok f hf')
theorem wZ {t t2 : TypeId} {cx cy : Bool} {xs ys : List Value} (hu : P.underlying t = some (.struct (tH P t).toArray)) (hst : P.stoodInHeld t = false) (hg : P.eqGuardType P.depth t = false)
 (hf : ((tH P t).map fun f => (f.name != "_", f.offset)) = (List.range xs.length).map fun j => (true, j)) (hy : ys.length = xs.length)
 (hok : ((tH P t).all fun f => okC P f.type (xs.getD f.offset undef) (ys.getD f.offset undef)) = true) (hx : xs.all iY = true) (hys : ys.all iY = true) :
 lB P .eql t t2 cx cy (.agg xs.toArray) (.agg ys.toArray) = some (.bool ((List.range xs.length).all fun j => eqC (xs.getD j undef) (ys.getD j undef))) ∧
 lB P .neq t t2 cx cy (.agg xs.toArray) (.agg ys.toArray) = some (.bool (!((List.range xs.length).all fun j => eqC (xs.getD j undef) (ys.getD j undef)))) :=
 ⟨b5f _ hg hx hys (xR 9998 hu hst hf hy hok), a5Y _ hg hx hys (xR 9998 hu hst hf hy hok)⟩
theorem c2P {t : TypeId} {k : IntKind} (hu : P.underlying t = some (.struct (tH P t).toArray)) (hst : P.stoodInHeld t = false)
 (hf : ((tH P t).map fun f => (f.name != "_", f.offset)) = (List.range 2).map fun j => (true, j))
 (hok : ∀ a b c d : Int, ((tH P t).all fun f => okC P f.type ([Value.int k a, .int k b].getD f.offset undef) ([Value.int k c, .int k d].getD f.offset undef)) = true) (a b : Int × Int) :
 iL P (Op.equal t (.agg #[.int k a.1, .int k a.2]) (.agg #[.int k b.1, .int k b.2])) = some (decide (b = a)) := by
 have hmd : Op.maxDepth = 9998 + 2 := by decide
 unfold Op.equal
 rw [hmd, xR (xs := [.int k a.1, .int k a.2]) (ys := [.int k b.1, .int k b.2]) 9998 hu hst hf rfl (hok _ _ _ _)]
 congr 1
 show ((a.1 == b.1) && ((a.2 == b.2) && true)) = _
 rw [eh]
 simp only [ft, de, beq_iff_eq, decide_eq_true_eq, Prod.ext_iff]
 constructor
 ·rintro ⟨h1, h2⟩; exact ⟨h1.symm, h2.symm⟩
 ·rintro ⟨h1, h2⟩; exact ⟨h1.symm, h2.symm⟩
theorem c0Q {k : IntKind} (a : Int × Int) : Instr.sameBits 10000 (.agg #[.int k a.1, .int k a.2]) (.agg #[.int k a.1, .int k a.2]) = true := by
 show ((2 : Nat) == 2 && ([(Value.int k a.1, Value.int k a.1), (Value.int k a.2, Value.int k a.2)]).all fun (x, y) => Instr.sameBits 9999 x y) = true
 have h : ∀ n, Instr.sameBits 9999 (.int k n) (.int k n) = true := fun n => by
  show (k == k && n == n) = true
  cases k <;> simp <;> rfl
 simp [h]
section
variable {H : Heap} {α : Type} {n : Nat} {cel : α → List Value} {v : Value} {xs : List α}
theorem Sl.aR (h : Sl n cel H v xs) (o : Oper) (l : List Value) (H' : Heap) (k : IntKind) (a : Int) (K : Value → Heap → Prop) (h0 : 0 < xs.length) (h1 : 0 ≤ a) (h2 : a ≤ xs.length) :
 oP P o l H' (some n) v none (some (.int k a)) K = pD (mK v n 0 a.toNat) fun v => K v H' := by
 obtain ⟨m, rfl⟩ : ∃ m, n = m + 1 := ⟨n - 1, by have := h.pos; omega⟩
 exact h.rd.aR (iG h.hc xs) o l H' k a K h0 h1 h2
theorem Sl.aV (h : Sl n cel H v xs) (o : Oper) (l : List Value) (H' : Heap) (k : IntKind) (a : Int) (K : Value → Heap → Prop) (h0 : 0 < xs.length) (h1 : 0 ≤ a) (h2 : a ≤ xs.length) :
 oP P o l H' (some n) v (some (.int k a)) none K = pD (mK v n a.toNat (xs.length - a).toNat) fun v => K v H' := by
 obtain ⟨m, rfl⟩ : ∃ m, n = m + 1 := ⟨n - 1, by have := h.pos; omega⟩
 rw [h.rd.aV (iG h.hc xs) o l H' k a K h0 h1 h2]
 congr 2
 omega
theorem Sl.sub (h : Sl n cel H v xs) (lo k : Nat) (hk : lo + k ≤ xs.length) (h0 : 0 < xs.length) : Sl n cel H (mK v n lo k) ((xs.drop lo).take k) := by
 refine ⟨?_, h.hc, h.pos⟩
 have hne : xs.flatMap cel ≠ [] := fun e => by
  have := iG h.hc xs
  rw [e, dC] at this
  have hp := ik h0 h.pos
  omega
 have := h.rd.sub lo k (by rw [iG h.hc, ← fo]; exact dP _ hk) hne
 rw [sF h.hc, a2w h.hc] at this
 exact this
theorem Sl.bP (h : Sl n cel H v xs) (k : Nat) (hk : k ≤ xs.length) (h0 : 0 < xs.length) : Sl n cel H (mK v n 0 k) (xs.take k) := by
 simpa using h.sub 0 k (by omega) h0
theorem Sl.cJ (h : Sl n cel H v xs) (lo : Nat) (hk : lo ≤ xs.length) (h0 : 0 < xs.length) : Sl n cel H (mK v n lo (xs.length - lo)) (xs.drop lo) := by
 have := h.sub lo (xs.length - lo) (by omega) h0
 rwa [List.take_of_length_le (by simp)] at this
end
def b0z (P : Program) (ts : Array TypeId) (ty : TypeId) (cx cy : Bool) (x y : Value) : Option Value := (kP P ⟨none, .call { callee := .builtin .max, args := #[oL cx 0 x, oL cy 1 y], argTypes := ts }, ty, "", #[], none⟩ [x, y] .nil).map (·.1)
theorem b7G (d : Option Tmp) (ty : TypeId) (pos : String) (af : Array Edge) (g : Option (Nat × Bool)) (ts : Array TypeId) (x y : Operand) (l : List Value) (H : Heap) (K : Value → Heap → Prop) :
 lT P ⟨d, .call { callee := .builtin .max, args := #[x, y], argTypes := ts }, ty, pos, af, g⟩ l H K = jI x l fun x' => jI y l fun y' => jY (b0z P ts ty (lF x) (lF y) x' y') fun v => K v H := by
 have h : opD P ⟨d, .call { callee := .builtin .max, args := #[x, y], argTypes := ts }, ty, pos, af, g⟩ l H = (b0z P ts ty (lF x) (lF y) (ev l x) (ev l y)).map fun v => (v, H) :=
  mX (P := P) ⟨d, .call { callee := .builtin .max, args := #[x, y], argTypes := ts }, ty, pos, af, g⟩ ⟨none, .call { callee := .builtin .max, args := #[oL (lF x) 0 (ev l x), oL (lF y) 1 (ev l y)], argTypes := ts }, ty, "", #[], none⟩ l [ev l x, ev l y] H
   (by cases x <;> cases y <;> rfl) (by cases x <;> cases y <;> kernel_rfl)
 have h2 : jZ ((b0z P ts ty (lF x) (lF y) (ev l x) (ev l y)).map fun v => (v, H)) K = jY (b0z P ts ty (lF x) (lF y) (ev l x) (ev l y)) fun v => K v H := by cases b0z P ts ty (lF x) (lF y) (ev l x) (ev l y) <;> rfl
 simp only [lT, h, jI, Op.operands, Call.operands, h2]
 simp [and_assoc]
theorem b6T (ts : Array TypeId) (ty : TypeId) (cx cy : Bool) (a b : Int) : b0z P ts ty cx cy (.int .i64 a) (.int .i64 b) = some (.int .i64 (max a b)) := by
 have h : b0z P ts ty cx cy (.int .i64 a) (.int .i64 b) = some (.int .i64 (if b > a then b else a)) := by cases cx <;> cases cy <;> kernel_rfl
 rw [h]
 congr 2
 split <;> omega
def b0i (P : Program) (ts : Array TypeId) (ty : TypeId) (cx cy : Bool) (x y : Value) : Option Value := (kP P ⟨none, .call { callee := .builtin .min, args := #[oL cx 0 x, oL cy 1 y], argTypes := ts }, ty, "", #[], none⟩ [x, y] .nil).map (·.1)
theorem b8a (d : Option Tmp) (ty : TypeId) (pos : String) (af : Array Edge) (g : Option (Nat × Bool)) (ts : Array TypeId) (x y : Operand) (l : List Value) (H : Heap) (K : Value → Heap → Prop) :
 lT P ⟨d, .call { callee := .builtin .min, args := #[x, y], argTypes := ts }, ty, pos, af, g⟩ l H K = jI x l fun x' => jI y l fun y' => jY (b0i P ts ty (lF x) (lF y) x' y') fun v => K v H := by
 have h : opD P ⟨d, .call { callee := .builtin .min, args := #[x, y], argTypes := ts }, ty, pos, af, g⟩ l H = (b0i P ts ty (lF x) (lF y) (ev l x) (ev l y)).map fun v => (v, H) :=
  mX (P := P) ⟨d, .call { callee := .builtin .min, args := #[x, y], argTypes := ts }, ty, pos, af, g⟩ ⟨none, .call { callee := .builtin .min, args := #[oL (lF x) 0 (ev l x), oL (lF y) 1 (ev l y)], argTypes := ts }, ty, "", #[], none⟩ l [ev l x, ev l y] H
   (by cases x <;> cases y <;> rfl) (by cases x <;> cases y <;> kernel_rfl)
 have h2 : jZ ((b0i P ts ty (lF x) (lF y) (ev l x) (ev l y)).map fun v => (v, H)) K = jY (b0i P ts ty (lF x) (lF y) (ev l x) (ev l y)) fun v => K v H := by cases b0i P ts ty (lF x) (lF y) (ev l x) (ev l y) <;> rfl
 simp only [lT, h, jI, Op.operands, Call.operands, h2]
 simp [and_assoc]
theorem b6t (ts : Array TypeId) (ty : TypeId) (cx cy : Bool) (a b : Int) : b0i P ts ty cx cy (.int .i64 a) (.int .i64 b) = some (.int .i64 (min a b)) := by
 have h : b0i P ts ty cx cy (.int .i64 a) (.int .i64 b) = some (.int .i64 (if b < a then b else a)) := by cases cx <;> cases cy <;> kernel_rfl
 rw [h]
 congr 2
 split <;> omega
section
variable {H : Heap}
def Var (H : Heap) (A n : Nat) (cs : List Value) : Prop := n = cs.length ∧ ∃ ty rw lo ver, iQ H A = some (.cells cs ty rw lo ver) ∧ lo ≤ cs.length
theorem Var.ae {H' : Heap} {A n : Nat} {cs : List Value} (h : Var H A n cs) (hk : ∀ B, B < H.length → iQ H' B = iQ H B) : Var H' A n cs := by
 obtain ⟨h1, ty, rw, lo, ver, h2, h3⟩ := h
 exact ⟨h1, ty, rw, lo, ver, by rw [hk A (jK h2), h2], h3⟩
theorem Var.ld {A n : Nat} {cs : List Value} (h : Var H A n cs) (s : Option Nat) (off : Nat) : pE (some false) s H (ptr A off n) = cs[off]? := by
 obtain ⟨rfl, ty, rw, lo, ver, h1, h2⟩ := h
 simp only [pE, jA, h1]
 by_cases h : off < cs.length
 ·rw [if_pos (by simp; omega)]
  simp only [dc]
  rw [dX (by omega), dL]
  simp
 ·rw [if_neg (by simp; omega), ef (by omega)]
  rfl
theorem Var.ai {A n : Nat} {cs : List Value} (h : Var H A n cs) (m off : Nat) : pE (some true) (some m) H (ptr A off n) = if off + m ≤ cs.length then some (.agg ((cs.drop off).take m).toArray) else none := by
 obtain ⟨rfl, ty, rw, lo, ver, h1, h2⟩ := h
 simp only [pE, jA, h1, dc]
 by_cases h : off + m ≤ cs.length
 ·rw [if_pos (by simp; omega), if_pos h]
  rfl
 ·rw [if_neg (by simp; omega), if_neg h]
  rfl
theorem St.var {P : Program} {H0 : Base} {os : List Ob} (hS : St P H0 H os) (i : Nat) {A n : Nat} {cs : List Value} (ho : os[i]? = some ⟨ptr A 0 n, 0, cs⟩) : Var H A n cs := by
 obtain ⟨h1, ty, lo, ver, h2, h3⟩ := hS.cell i ho
 exact ⟨h1, ty, true, lo, ver, h2, h3⟩
theorem St.va {H0 : Heap} {os : List Ob} (hS : St P H0 H os) {A n : Nat} {cs : List Value} (h : Var H0 A n cs) : Var H A n cs := h.ae hS.ae
end
theorem qD {P : Program} (t t2 : TypeId) (cx cy : Bool) (u x : UInt8) : lB P .add t t2 cx cy (.string ⟨#[u]⟩) (.string ⟨#[x]⟩) = some (.string ⟨#[u, x]⟩) := by
 rw [a0N _ _ _ _ _ _ (by show 1 + 1 < 9223372036854775808; decide)]
 rfl
theorem rM {P : Program} {H : Heap} {s t : TypeId} {v : Value} {n : Int} (h : RdAt H v 1 [.int .u8 n]) (hs : kT P s = true) (ht : nR P t = true) (hbt : kT P t = false) (h0 : 0 ≤ n) (h1 : n < 256) (K : Value → Heap → Prop) :
 qZ P s t H v K = K (.string ⟨#[UInt8.ofNat n.toNat]⟩) H := by
 obtain ⟨m, rfl⟩ : ∃ m : Nat, n = Int.ofNat m := ⟨n.toNat, by simp [fg h0]⟩
 have hm : m < 256 := by have : (m : Int) < 256 := h1; omega
 rcases h with ⟨_, h⟩ | ⟨A, i, e, row, ty, rw, lo, ver, k, g1, g2, g3, g4, g5, g6, rfl⟩
 ·cases h
 have hk : k = 1 := by simp at g6; omega
 subst hk
 have hc : jA H A i e 1 = some [.int .u8 (Int.ofNat m)] := by
  simp only [jA, g1]
  rw [if_pos (by simp at g4 ⊢; omega)]
  exact congrArg some g5
 have hb : mC [.int .u8 (Int.ofNat m)] = some ⟨#[UInt8.ofNat m]⟩ := by simp [mC, a0i, xS, hm]
 have hd : opD P ⟨none, .convert s t (.const (.slice (some ⟨A, i, some e⟩) 1 1)), t, "", #[], none⟩ [] H = some (.string ⟨#[UInt8.ofNat m]⟩, H) := by
  have hf : flat (.slice (some ⟨A, i, some e⟩) 1 1) = false := rfl
  simp only [opD, ev, hf, hs, ht, hc, hb, fy, dV, if_false, Bool.and_self, if_true, dc, dO]
 unfold qZ
 rw [hd]
 apply propext
 constructor
 ·rintro ⟨v, H1, h2, h3⟩
  injection (db h2) with e1 e2
  subst e1 e2
  exact h3
 ·intro h3
  exact ⟨_, _, rfl, h3⟩
theorem a4P {P : Program} {t : TypeId} {n : Nat} {elem : TypeId} {size : Nat} (ha : P.underlying t = some (.array n elem)) (hs : iE P elem = some size) (A i e : Nat) (k : IntKind) (j : Int) (h0 : 0 ≤ j) (h1 : j < n) :
 wC (iS P t) P t (ptr A i e) (.int k j) = some (ptr A (i + j.toNat * size) e) := by
 have hn : iS P t = none := by simp [iS, iJ, ha]
 rw [hn]
 simp only [wC, a2x, ha, ptr, hs, dc]
 rw [if_pos (by simp [h0, h1])]
end
end Go.Ds
namespace Go.Ds
section
variable {P : Program}
def c0X (inv : List Nat) (e : Edge) : Edge := { e with on := inv.getD e.on 0 }
def xI (inv : List Nat) (o : Oper) : Oper := { o with after := o.after.map (c0X inv), guard := o.guard.map fun g => (inv.getD g.1 0, g.2) }
def kE (π inv : List Nat) (ops : Array Oper) : Array Oper := (π.map fun i => xI inv (ops.getD i default)).toArray
def b0u (π inv : List Nat) (ops : Array Oper) : Bool :=
 decide (π.length = ops.size) && decide (inv.length = ops.size) && (List.range ops.size).all (fun i => decide (π.getD i 0 < ops.size) && decide (inv.getD i 0 < ops.size) && decide (inv.getD (π.getD i 0) 0 = i) && decide (π.getD (inv.getD i 0) 0 = i)) &&
 ops.toList.all fun o => o.after.toList.all (fun e => decide (e.on < ops.size)) && (match o.guard with | some g => decide (g.1 < ops.size) | none => true)
structure Perm (π inv : List Nat) (ops : Array Oper) : Prop where
 len : π.length = ops.size
 pi : ∀ i, i < ops.size → π.getD i 0 < ops.size
 iv : ∀ i, i < ops.size → inv.getD i 0 < ops.size
 ip : ∀ i, i < ops.size → inv.getD (π.getD i 0) 0 = i
 pv : ∀ i, i < ops.size → π.getD (inv.getD i 0) 0 = i
 edge : ∀ (i : Nat) (o : Oper), ops[i]? = some o → ∀ e ∈ o.after, e.on < ops.size
 guard : ∀ (i : Nat) (o : Oper) (g : Nat × Bool), ops[i]? = some o → o.guard = some g → g.1 < ops.size
theorem b8b {π inv : List Nat} {ops : Array Oper} (h : b0u π inv ops = true) : Perm π inv ops := by
 unfold b0u at h
 simp only [de, decide_eq_true_eq, dy, dH] at h
 obtain ⟨⟨⟨h1, h2⟩, h3⟩, h4⟩ := h
 refine ⟨h1, fun i hi => (h3 i hi).1.1.1, fun i hi => (h3 i hi).1.1.2, fun i hi => (h3 i hi).1.2, fun i hi => (h3 i hi).2, fun i o ho e he => ?_, fun i o g ho hg => ?_⟩
 ·exact (h4 o (dT (i := i) (by simpa using ho))).1 e (by simpa using he)
 ·have := (h4 o (dT (i := i) (by simpa using ho))).2
  rw [hg] at this
  simpa using this
variable {π inv : List Nat} {ops : Array Oper}
theorem a6l (p : Nat) : (kE π inv ops)[p]? = (π[p]?).map fun i => xI inv (ops.getD i default) := by
 simp [kE]
theorem qI (D : Perm π inv ops) {p i : Nat} {o : Oper} (hp : p < ops.size) (hi : π.getD p 0 = i) (ho : ops[i]? = some o) : (kE π inv ops)[p]? = some (xI inv o) := by
 rw [a6l]
 have h1 : π[p]? = some i := by
  rw [dj] at hi
  rw [dx (by rw [D.len]; exact hp)] at hi ⊢
  simpa using hi
 rw [h1]
 simp only [dO]
 rw [ec, ho]
 rfl
theorem pR (D : Perm π inv ops) : (kE π inv ops).size = ops.size := by simp [kE, D.len]
theorem a5G (D : Perm π inv ops) (tmps : Array Value) {j : Nat} (hj : j < ops.size) : yielded (kE π inv ops) tmps (inv.getD j 0) = yielded ops tmps j := by
 have ho : ops[j]? = some ops[j] := dp.2 ⟨hj, rfl⟩
 unfold yielded
 rw [qI D (D.iv j hj) (D.pv j hj) ho, ho]
 rfl
theorem a6b (D : Perm π inv ops) (tmps : Array Value) {i : Nat} {o : Oper} (ho : ops[i]? = some o) : Region.wanted (xI inv o) (yielded (kE π inv ops) tmps) = Region.wanted o (yielded ops tmps) := by
 unfold Region.wanted
 have e : (xI inv o).guard = o.guard.map fun g => (inv.getD g.1 0, g.2) := rfl
 rw [e]
 cases hg : o.guard with
 | none => rfl
 | some g =>
   simp only [dO]
   rw [a5G D tmps (D.guard i o g ho hg)]
theorem b9Z (ro : Option Nat) (ρ : Operand → Value) (o : Oper) : (xI inv o).semAt ro ρ = o.semAt ro ρ := by
 obtain ⟨dst, op, type, pos, after, guard⟩ := o
 rfl
theorem b3k (w : World) (ρ : Operand → Value) (o : Oper) : (xI inv o).about P w ρ = o.about P w ρ := by
 obtain ⟨dst, op, type, pos, after, guard⟩ := o
 rfl
theorem b5u (F : Fence) (n : Nat) (o : Oper) (a : Act) (next : Act → World → Prop) (Q : Exit → Act → World → Prop) (r : Result Next) : (xI inv o).uponIn F n P a next Q r = o.uponIn F n P a next Q r := by
 obtain ⟨dst, op, type, pos, after, guard⟩ := o
 cases r with
 | ok x w => cases x <;> rfl
 | halt x w => cases x <;> rfl
theorem b1S (D : Perm π inv ops) (F : Fence) (n : Nat) (Q : Exit → Act → World → Prop) {i : Nat} (hi : i < ops.size) (K : Act → World → Prop) (a : Act) (w : World) :
 wpOpIn F n P (kE π inv ops) Q (inv.getD i 0) K a w = wpOpIn F n P ops Q i K a w := by
 have ho : ops[i]? = some ops[i] := dp.2 ⟨hi, rfl⟩
 unfold wpOpIn
 rw [qI D (D.iv i hi) (D.pv i hi) ho, ho]
 simp only [a6b D a.tmps ho, Oper.wpIn, b3k, b5u, b9Z]
 rfl
def c2K (inv : List Nat) (n : Nat) (listed listed' : Array Bool) : Prop := listed.size = n ∧ listed'.size = n ∧ ∀ i, i < n → listed.getD i false = listed'.getD (inv.getD i 0) false
theorem wU (D : Perm π inv ops) {listed listed' : Array Bool} (hc : c2K inv ops.size listed listed') {i : Nat} (hi : i < ops.size) :
 i ∈ Region.ready .any ops listed ↔ inv.getD i 0 ∈ Region.ready .any (kE π inv ops) listed' := by
 have ho : ops[i]? = some ops[i] := dp.2 ⟨hi, rfl⟩
 have ho' := qI D (D.iv i hi) (D.pv i hi) ho
 have hsz := pR D
 obtain ⟨c1, c2, c3⟩ := hc
 constructor
 ·intro h
  obtain ⟨o, h1, h2, h3⟩ := oX c1 h
  rw [ho] at h1
  obtain rfl := db h1
  refine a0b (by rw [hsz]; exact c2) ho' (by rw [← c3 i hi]; exact h2) ?_
  intro e he hb
  have he' : e ∈ (ops[i]).after.map (c0X inv) := he
  obtain ⟨e0, he0, rfl⟩ := Array.mem_map.1 he'
  have := h3 e0 he0 hb
  show listed'.getD (inv.getD e0.on 0) false = true
  rw [← c3 _ (D.edge i _ ho e0 he0)]
  exact this
 ·intro h
  obtain ⟨o, h1, h2, h3⟩ := oX (by rw [hsz]; exact c2) h
  rw [ho'] at h1
  obtain rfl := db h1
  refine a0b c1 ho (by rw [c3 i hi]; exact h2) ?_
  intro e he hb
  have := h3 (c0X inv e) (Array.mem_map.2 ⟨e, he, rfl⟩) hb
  rw [c3 _ (D.edge i _ ho e he)]
  exact this
theorem b7l (D : Perm π inv ops) (F : Fence) (k : Nat) {Q : Exit → Act → World → Prop} : ∀ (fuel : Nat) (listed listed' : Array Bool) (a : Act) (w : World), c2K inv ops.size listed listed' →
 wpAnyIn F k P .any (kE π inv ops) Q fuel listed' a w → wpAnyIn F k P .any ops Q fuel listed a w := by
 have hsz := pR D
 have nil1 : ∀ {listed listed' : Array Bool}, c2K inv ops.size listed listed' → (Region.ready .any ops listed = [] ↔ Region.ready .any (kE π inv ops) listed' = []) := by
  intro listed listed' hc
  constructor
  ·intro h
   cases hr : Region.ready .any (kE π inv ops) listed' with
   | nil => rfl
   | cons p r =>
     exfalso
     have hp : p ∈ Region.ready .any (kE π inv ops) listed' := by rw [hr]; exact eH ..
     obtain ⟨o, h1, _, _⟩ := oX (by rw [hsz]; exact hc.2.1) hp
     have hpn : p < ops.size := by rw [← hsz]; exact (dp.1 h1).1
     have := (wU D hc (D.pi p hpn)).2 (by rw [D.ip p hpn]; exact hp)
     rw [h] at this
     cases this
  ·intro h
   cases hr : Region.ready .any ops listed with
   | nil => rfl
   | cons i r =>
     exfalso
     have hi : i ∈ Region.ready .any ops listed := by rw [hr]; exact eH ..
     obtain ⟨o, h1, _, _⟩ := oX hc.1 hi
     have := (wU D hc (dp.1 h1).1).1 hi
     rw [h] at this
     cases this
 intro fuel
 induction fuel with
 | zero =>
   intro listed listed' a w hc h
   exact ⟨(nil1 hc).2 h.1, h.2⟩
 | succ fuel ih =>
   intro listed listed' a w hc h
   refine ⟨fun hn => h.1 ((nil1 hc).1 hn), fun i hi => ?_⟩
   obtain ⟨o, h1, _, _⟩ := oX hc.1 hi
   have hin := (dp.1 h1).1
   have h2 := h.2 _ ((wU D hc hin).1 hi)
   rw [b1S D F k Q hin] at h2
   refine wpOpIn_mono (fun a' w' h3 => ih _ _ a' w' ⟨by simpa using hc.1, by simpa using hc.2.1, fun j hj => ?_⟩ h3) h2
   have e1 := sL (listed := listed) (i := i) (by rw [hc.1]; exact hin) j
   have e2 := sL (listed := listed') (i := inv.getD i 0) (by rw [hc.2.1]; exact D.iv i hin) (inv.getD j 0)
   have e3 : (inv.getD j 0 = inv.getD i 0) ↔ j = i := ⟨fun h => by rw [← D.pv j hj, h, D.pv i hin], fun h => by rw [h]⟩
   rw [eh, e1, e2, e3, hc.2.2 j hj]
end
section
variable {P : Program} {H : Heap} {π inv : List Nat} {ops : Array Oper}
theorem Sim.cK (jV : P.follows .mixedOrders = true) {id : Nat} (Dp : Perm π inv ops) {fl : Fl} (D : Draw P fl (kE π inv ops)) {T : Nat → List Value × Heap} {val : Nat → Value} (X : Text P (kE π inv ops) T val)
 (hread : ∀ i m o, (i, m) ∈ mH fl (kE π inv ops) → (kE π inv ops)[i]? = some o → Region.wanted o (iV (kE π inv ops) (T i).1) = true → ∃ H2, opD P o (T i).1 (T m).2 = some (val i, H2)) :
 Sim P (.region id ops true) (T 0).1 (T 0).2 .normal (T ops.size).1 (T ops.size).2 := by
 intro ro k B ρ w a hr hE hl hM hB
 have hsz := pR Dp
 have := a3s D X hread ro k B hr hE hM
 rw [hsz] at this
 exact wpIn_region_any jV (b7l Dp (fe ro) k ops.size _ _ a _ ⟨by simp, by simp, fun i hi => by
  have := Dp.iv i hi
  simp only [ec, Array.getElem?_replicate, hi, this, if_true]⟩ this)
theorem a3l (D : Perm π inv ops) (l : List Value) {j : Nat} (hj : j < ops.size) : iV (kE π inv ops) l (inv.getD j 0) = iV ops l j := by
 have ho : ops[j]? = some ops[j] := dp.2 ⟨hj, rfl⟩
 unfold iV
 rw [qI D (D.iv j hj) (D.pv j hj) ho, ho]
 rfl
theorem yU (D : Perm π inv ops) (l : List Value) {i : Nat} {o : Oper} (ho : ops[i]? = some o) : Region.wanted (xI inv o) (iV (kE π inv ops) l) = Region.wanted o (iV ops l) := by
 unfold Region.wanted
 have e : (xI inv o).guard = o.guard.map fun g => (inv.getD g.1 0, g.2) := rfl
 rw [e]
 cases hg : o.guard with
 | none => rfl
 | some g =>
   simp only [dO]
   rw [a3l D l (D.guard i o g ho hg)]
theorem b0M (o : Oper) (l : List Value) (K : Value → Heap → Prop) : lT P (xI inv o) l H K = lT P o l H K := by
 obtain ⟨dst, op, type, pos, after, guard⟩ := o
 rfl
theorem a3P (D : Perm π inv ops) : ∀ (os : List Oper) (tr : List (List Value × Heap × Value)) (l : List Value) (H : Heap) (K : List (List Value × Heap × Value) → List Value → Heap → Prop), (∀ o ∈ os, ∃ i : Nat, ops[i]? = some o) →
 mI P (kE π inv ops) (os.map (xI inv)) tr l H K = mI P ops os tr l H K
 | [], _, _, _, _, _ => rfl
 | o :: os, tr, l, H, K, h => by
   obtain ⟨i, ho⟩ := h o (by simp)
   have ih := fun tr l H => a3P D os tr l H K fun o ho => h o (by simp [ho])
   rw [eu, mI, mI, yU D l ho]
   have e : (xI inv o).dst = o.dst := rfl
   simp only [b0M, e, ih]
def c2J (o : Option Oper) (os : List Oper) : List Oper := match o with | some o => o :: os | none => os
def sel (os : List Oper) : List Nat → List Oper
 | [] => []
 | i :: π => c2J os[i]? (sel os π)
theorem b9r (os : List Oper) : sel os [] = [] := rfl
theorem a7C (os : List Oper) (i : Nat) (π : List Nat) : sel os (i :: π) = c2J os[i]? (sel os π) := rfl
theorem a4q (o : Oper) (os : List Oper) : c2J (some o) os = o :: os := rfl
theorem a8W (os : List Oper) : ∀ (π : List Nat), (∀ i ∈ π, i < os.length) → sel os π = π.map fun i => os.toArray.getD i default
 | [], _ => rfl
 | i :: π, h => by
   have hi := h i (by simp)
   rw [a7C, a8W os π fun j hj => h j (by simp [hj]), dx hi, a4q, eu]
   congr 1
   simp [ec, hi]
def a0d (P : Program) (os : List Oper) (tr : List (List Value × Heap × Value)) (H1 : Heap) (π : List Nat) : List (Nat × Nat) → Prop
 | [] => True
 | (p, m) :: r => rdW P os.toArray (os[π.getD p 0]?) tr[p]? (trH tr[m]? H1) ∧ a0d P os tr H1 π r
theorem a8G (os : List Oper) (tr) (H1 : Heap) (π : List Nat) : a0d P os tr H1 π [] = True := rfl
theorem a7T (os : List Oper) (tr) (H1 : Heap) (π : List Nat) (p m : Nat) (r : List (Nat × Nat)) : a0d P os tr H1 π ((p, m) :: r) = (rdW P os.toArray (os[π.getD p 0]?) tr[p]? (trH tr[m]? H1) ∧ a0d P os tr H1 π r) := rfl
theorem a2d {os : List Oper} {tr} {H1 : Heap} {π : List Nat} : ∀ {tab : List (Nat × Nat)}, a0d P os tr H1 π tab → ∀ x ∈ tab, rdW P os.toArray (os[π.getD x.1 0]?) tr[x.1]? (trH tr[x.2]? H1)
 | [], _, x, hx => by cases hx
 | (i, m) :: r, h, x, hx => by
   rcases eo.1 hx with rfl | hx
   ·exact h.1
   ·exact a2d h.2 x hx
theorem Wp.cu (jV : P.follows .mixedOrders = true) {id : Nat} {os : List Oper} {l : List Value} {Q : mW} (π inv : List Nat) (fl : Fl) (tab : List (Nat × Nat)) (hp : b0u π inv os.toArray = true)
 (htab : a2V P fl (kE π inv os.toArray) = some tab) (hn : uC (kE π inv os.toArray) tab = true)
 (h : mI P os.toArray (sel os π) [] l H fun tr l1 H1 => Q .normal l1 H1 ∧ a0d P os tr H1 π tab) : Wp P (.region id os.toArray true) l H Q := by
 have Dp := b8b hp
 obtain ⟨D, htb⟩ := a3k htab
 have hsz := pR Dp
 have hmem : ∀ i ∈ π, i < os.length := fun i hi => by
  obtain ⟨p, hpl, hpe⟩ := dW.1 hi
  have := Dp.pi p (by rw [← Dp.len]; exact hpl)
  rw [dj, dx hpl, ff, hpe] at this
  simpa using this
 have hsel : (sel os π).map (xI inv) = (kE π inv os.toArray).toList := by
  rw [a8W os π hmem]
  simp [kE]
 rw [← a3P Dp (sel os π) [] l H _ (fun o ho => by
  rw [a8W os π hmem, dK] at ho
  obtain ⟨i, hi, rfl⟩ := ho
  have := hmem i hi
  exact ⟨i, by simp [ec, this]⟩), hsel] at h
 obtain ⟨T, val, l', H', ext, h0, h1, h2, h3, h4, h5, h6⟩ := tM (kE π inv os.toArray).toList 0 rfl [] l H h
 have hlen : (kE π inv os.toArray).toList.length = os.toArray.size := by rw [fz, hsz]
 rw [hlen] at h1 h2 h3 h4
 have := Sim.cK jV (id := id) Dp D (T := T) (val := val) ⟨fun k hk => by rw [hsz] at hk; simpa using h4 k hk⟩ fun i m o hm ho hw => by
  rw [← htb] at hm
  have hr := a2d h6 (i, m) hm
  have hi : i < os.toArray.size := by rw [← hsz]; exact (dp.1 ho).1
  have hpi := Dp.pi i hi
  have hoo : os.toArray[π.getD i 0]? = some (os.toArray[π.getD i 0]) := dp.2 ⟨hpi, rfl⟩
  have hat := qI (inv := inv) Dp hi rfl hoo
  rw [ho] at hat
  have hat := db hat
  have hoo' : os[π.getD i 0]? = some (os.toArray[π.getD i 0]) := by rw [← hoo]; simp
  simp only [fj] at hr
  rw [hoo', h3 i hi] at hr
  unfold rdW at hr
  rw [hat, yU Dp _ hoo] at hw
  have hr := hr hw
  have hno : yN o = true := by
   unfold uC at hn
   have := dy.1 hn (i, m) hm
   simpa [ho] using this
  have hTm : trH ext[m]? H' = (T m).2 ∨ os.toArray.size < m := by
   unfold trH
   by_cases hm2 : m < os.toArray.size
   ·left; rw [h3 m hm2]
   ·by_cases hm3 : m = os.toArray.size
    ·left
     rw [ef (by omega), hm3, h1]
    ·right; omega
  rcases hTm with hTm | hTm
  ·rw [hTm, ← b0M (inv := inv), ← hat] at hr
   obtain ⟨v, H2, h7, h8⟩ := b1M hno hr
   exact ⟨H2, by rw [h7, h8]⟩
  ·exfalso
   rw [htb] at hm
   have := a2D hm
   rw [hsz] at this
   omega
 rw [h0, h1] at this
 exact ⟨_, _, _, this, h5⟩
end
def RA :=
 And.intro @b7O <| And.intro @b6D <| And.intro @b1x <| And.intro @c1v <| And.intro @c1X <| And.intro @b5T <| And.intro @b9z <| And.intro @c1P <| And.intro @b8Q <| And.intro @b8B <| And.intro @b6A <| And.intro @a7P <| And.intro @a3S <| And.intro @b4L <| And.intro @b3z <| And.intro @a9E <| And.intro @b0G <| And.intro @a6T <| And.intro @b5O <| And.intro @a9u <| And.intro @b7v <| And.intro @b6H <| And.intro @b2u <| And.intro @b2D <| And.intro @b8H <| And.intro @b2Q <| And.intro @a1t <| And.intro @a3q <| And.intro @a9i <| And.intro @b5X <| And.intro @b3Y <| And.intro @b7W <| And.intro @a3f <| And.intro @a3g <| And.intro @b7p <| And.intro @c1b <| And.intro @a8o <| And.intro @a6V <| And.intro @b2o <| And.intro @b6j <| And.intro @a4C <| And.intro @a9G <| And.intro @b0k <| And.intro @b0m <| And.intro @a9F <| And.intro @a7x <| And.intro @a2Y <| And.intro @a5L <| And.intro @a2q <| And.intro @b2s <| And.intro @b7G <| And.intro @b8a <| And.intro @b4w <| And.intro @b0v <| And.intro @b2a <| And.intro @b3g <| And.intro @a8D <| And.intro @a9q <| And.intro @a6i <| And.intro @a7R <| And.intro @b5S <| And.intro @b3O <| And.intro @a2Z <| And.intro @b0E <| And.intro @a6W <| And.intro @a3p <| And.intro @a7z <| And.intro @a8T <| And.intro @a7q <| @b5G
def RB :=
 And.intro @b8c <| And.intro @b0d <| And.intro @a8u <| And.intro @b3m <| And.intro @a8V <| And.intro @a6a <| And.intro @a7v <| And.intro @b5b <| And.intro @a8c <| And.intro @a7Y <| And.intro @b8p <| And.intro @b3B <| And.intro @a9X <| And.intro @b9y <| And.intro @c0d <| And.intro @b9s <| And.intro @b9x <| And.intro @a8s <| And.intro @a6D <| And.intro @b7U <| And.intro @c1a <| And.intro @b6r <| And.intro @a7n <| And.intro @b0s <| And.intro @b9E <| And.intro @b7L <| And.intro @b5i <| And.intro @b2E <| And.intro @b1V <| And.intro @b3N <| And.intro @b2l <| And.intro @b1O <| And.intro @b2G <| And.intro @b2b <| And.intro @b2R <| And.intro @b3A <| And.intro @b1X <| And.intro @b2W <| And.intro @b3I <| And.intro @b5V <| And.intro @b3q <| And.intro @a4R <| And.intro @b3V <| And.intro @b2y <| And.intro @b2x <| And.intro @b1Q <| And.intro @b2C <| And.intro @b4T <| And.intro @b4F <| And.intro @b4u <| And.intro @b9C <| And.intro @b5n <| And.intro @a6p <| And.intro @a9V <| And.intro @a9U <| And.intro @b9R <| And.intro @b5k <| And.intro @a8b <| And.intro @b7k <| And.intro @b7h <| And.intro @b3b <| And.intro @a8L <| And.intro @b5t <| And.intro @b2z <| And.intro @a9D <| And.intro @b3J <| And.intro @b6g <| And.intro @a8w <| And.intro @b3d <| And.intro @b3M <| And.intro @b0o <| And.intro @b3c <| And.intro @a8x <| And.intro @b9r <| And.intro @a7C <| And.intro @a4q <| And.intro @a8G <| And.intro @a7T <| And.intro @b9n <| And.intro @b4x <| And.intro @b3X <| And.intro @b4v <| And.intro @b5y <| And.intro @b2T <| And.intro @b7a <| And.intro @b2c <| And.intro @a5d <| And.intro @a8Y <| And.intro @a6x <| And.intro @a8S <| And.intro @a9Y <| And.intro @b6q <| And.intro @b5Z <| And.intro @b3Q <| And.intro @b6C <| And.intro @a7s <| And.intro @a5H <| And.intro @a8q <| And.intro @a7N <| And.intro @a6e <| And.intro @c4e <| And.intro @c4f <| And.intro @b8A <| And.intro @b8f <| And.intro @b6T <| And.intro @b6t <| And.intro @b5w <| And.intro @a8t <| And.intro @b8n <| And.intro @a7F <| And.intro @b9D <| And.intro @pJ <| And.intro @b4g <| And.intro @yZ <| @b9S
theorem RT :
 (∀ {α : Type} (l : List α), [] ++ l = l) ∧
 (∀ {α : Type} (l : List α), l ++ [] = l) ∧
 (∀ {α : Type} {a : α} {l m : List α}, a :: l ++ m = a :: (l ++ m)) ∧
 (∀ (cs : List Value) (i : Nat) (v : Value) (vs : List Value), iX cs i (v :: vs) = iX (cs.set i v) (i + 1) vs) ∧
 (∀ (cs : List Value) (i : Nat), iX cs i [] = cs) ∧
 (∀ {α : Type} {x : α} {xs : List α} {a : α}, (x :: xs).set 0 a = a :: xs) ∧
 (∀ {α : Type} {x : α} {xs : List α} {i : Nat} {a : α}, (x :: xs).set (i + 1) a = x :: xs.set i a) ∧
 (∀ (n : Nat), 0 + n = n) ∧
 (∀ (n : Nat), n * 1 = n) ∧
 (∀ (n : Nat), n + 0 = n) :=
 ⟨@List.nil_append, @List.append_nil, @List.cons_append, @jD, @lZ, @List.set_cons_zero, @List.set_cons_succ, @Nat.zero_add, @Nat.mul_one, @Nat.add_zero⟩
end Go.Ds
namespace Go.Ds
open Go.Proofs Go.Proofs.Tryz
abbrev I (n : Int) : Value := .int .i64 n
theorem sR (H : Heap) : St prog H H [] := .refl ..
theorem jV : prog.follows .mixedOrders = true := by kernel_rfl
theorem tS3 : iE prog 3 = some 1 := by kernel_rfl
theorem tS9 : iE prog 9 = some 1 := by kernel_rfl
theorem b7X : iE prog 26 = some 3 := by kernel_rfl
theorem c3v : iE prog 27 = some 1 := by kernel_rfl
theorem b9c : iE prog 28 = some 1 := by kernel_rfl
theorem pG : iE prog 30 = some 3 := by kernel_rfl
theorem b6m : iE prog 36 = some 1 := by kernel_rfl
theorem b5c : iE prog 37 = some 1 := by kernel_rfl
theorem a8y : iE prog 38 = some 1 := by kernel_rfl
theorem mD : iE prog 40 = some 4 := by kernel_rfl
theorem c1n : iE prog 52 = some 2 := by kernel_rfl
theorem c2c : iE prog 53 = some 5 := by kernel_rfl
theorem c4s : iE prog 57 = some 3 := by kernel_rfl
theorem b9O : iE prog 60 = some 1 := by kernel_rfl
theorem rC : iE prog 67 = some 2 := by kernel_rfl
theorem rO : iE prog 74 = some 2 := by kernel_rfl
theorem zY : iE prog 76 = some 2 := by kernel_rfl
theorem b7m : iE prog 77 = some 1 := by kernel_rfl
theorem tI : iE prog 79 = some 6 := by kernel_rfl
theorem a2l : iE prog 82 = some 3 := by kernel_rfl
theorem nQ : iE prog 96 = some 2 := by kernel_rfl
theorem sA : iE prog 108 = some 2 := by kernel_rfl
theorem b1q : iE prog 109 = some 1 := by kernel_rfl
theorem rP : iE prog 111 = some 5 := by kernel_rfl
theorem b0Z : iE prog 120 = some 4 := by kernel_rfl
theorem b4I : iE prog 124 = some 9 := by kernel_rfl
theorem vS : iE prog 126 = some 1 := by kernel_rfl
theorem mR : iE prog 128 = some 4 := by kernel_rfl
theorem b4Y : iE prog 131 = some 4 := by kernel_rfl
theorem b1p : iE prog 133 = some 4 := by kernel_rfl
theorem vJ : iE prog 135 = some 5 := by kernel_rfl
theorem a0R : iE prog 186 = some 2 := by kernel_rfl
theorem a2v : iE prog 189 = some 3 := by kernel_rfl
theorem b1o : iE prog 204 = some 3 := by kernel_rfl
theorem b6u : iE prog 207 = some 1 := by kernel_rfl
theorem c1R : iS prog 77 = some 1 := by kernel_rfl
theorem kV : kT prog 125 = true ∧ nR prog 9 = true ∧ kT prog 9 = false := ⟨by kernel_rfl, by kernel_rfl, by kernel_rfl⟩
theorem c5Z (A i e : Nat) (k : IntKind) (j : Int) (h0 : 0 ≤ j) (h1 : j < 5) : wC (iS prog 53) prog 53 (ptr A i e) (.int k j) = some (ptr A (i + j.toNat * 1) e) := a4P (n := 5) (elem := 5) (size := 1) (by kernel_rfl) (by kernel_rfl) A i e k j h0 h1
theorem c5G (A i e : Nat) (k : IntKind) (j : Int) (h0 : 0 ≤ j) (h1 : j < 3) : wC (iS prog 57) prog 57 (ptr A i e) (.int k j) = some (ptr A (i + j.toNat * 1) e) := a4P (n := 3) (elem := 56) (size := 1) (by kernel_rfl) (by kernel_rfl) A i e k j h0 h1
theorem c3W (A i e : Nat) (k : IntKind) (j : Int) (h0 : 0 ≤ j) (h1 : j < 64) : wC (iS prog 320) prog 320 (ptr A i e) (.int k j) = some (ptr A (i + j.toNat * 1) e) := a4P (n := 64) (elem := 5) (size := 1) (by kernel_rfl) (by kernel_rfl) A i e k j h0 h1
theorem c2v : mS prog 27 = some (1, 8) := by kernel_rfl
theorem c3H : ((iJ prog 27).bind (jB prog)).any jC = true := by kernel_rfl
theorem b5r : mS prog 33 = some (2, 16) := by kernel_rfl
theorem c1u : ((iJ prog 33).bind (jB prog)).any jC = true := by kernel_rfl
theorem a8Z : mS prog 36 = some (6, 80) := by kernel_rfl
theorem c1j : ((iJ prog 36).bind (jB prog)).any jC = true := by kernel_rfl
theorem a9W : mS prog 37 = some (5, 64) := by kernel_rfl
theorem c1p : ((iJ prog 37).bind (jB prog)).any jC = true := by kernel_rfl
theorem a0q : mS prog 38 = some (5, 48) := by kernel_rfl
theorem b3p : ((iJ prog 38).bind (jB prog)).any jC = true := by kernel_rfl
theorem b3y : mS prog 45 = some (2, 16) := by kernel_rfl
theorem c1G : ((iJ prog 45).bind (jB prog)).any jC = true := by kernel_rfl
theorem a1c : mS prog 60 = some (2, 16) := by kernel_rfl
theorem a8N : ((iJ prog 60).bind (jB prog)).any jC = true := by kernel_rfl
theorem b6Y : mS prog 63 = some (3, 24) := by kernel_rfl
theorem c2x : ((iJ prog 63).bind (jB prog)).any jC = true := by kernel_rfl
theorem a1A : mS prog 77 = some (1, 8) := by kernel_rfl
theorem a6c : ((iJ prog 77).bind (jB prog)).any jC = true := by kernel_rfl
theorem a1L : mS prog 109 = some (4, 56) := by kernel_rfl
theorem b5A : ((iJ prog 109).bind (jB prog)).any jC = true := by kernel_rfl
theorem a2J : mS prog 125 = some (1, 1) := by kernel_rfl
theorem a1E : ((iJ prog 125).bind (jB prog)).any jC = true := by kernel_rfl
theorem pO : mS prog 126 = some (3, 40) := by kernel_rfl
theorem vO : ((iJ prog 126).bind (jB prog)).any jC = true := by kernel_rfl
theorem a7o : mS prog 139 = some (3, 40) := by kernel_rfl
theorem a6U : ((iJ prog 139).bind (jB prog)).any jC = true := by kernel_rfl
theorem a3U : mS prog 144 = some (1, 16) := by kernel_rfl
theorem a3t : ((iJ prog 144).bind (jB prog)).any jC = true := by kernel_rfl
theorem b4j : mS prog 145 = some (2, 16) := by kernel_rfl
theorem c0F : ((iJ prog 145).bind (jB prog)).any jC = true := by kernel_rfl
theorem a4w : mS prog 187 = some (2, 16) := by kernel_rfl
theorem a3E : ((iJ prog 187).bind (jB prog)).any jC = true := by kernel_rfl
theorem c0B : mS prog 231 = some (2, 16) := by kernel_rfl
theorem c0A : ((iJ prog 231).bind (jB prog)).any jC = true := by kernel_rfl
theorem c6b : c0Y prog 77 = some (8, .int .i64 0) := by kernel_rfl
theorem c3u (t2 : TypeId) (cx cy : Bool) (a0 : Int) (a1 : Int) (b0 : Int) (b1 : Int) : lB prog .eql 67 t2 cx cy (.agg #[.int .i64 a0, .int .i64 a1]) (.agg #[.int .i64 b0, .int .i64 b1]) = some (.bool (decide (a0 = b0 ∧ a1 = b1))) ∧ lB prog .neq 67 t2 cx cy (.agg #[.int .i64 a0, .int .i64 a1]) (.agg #[.int .i64 b0, .int .i64 b1]) = some (.bool (decide (¬ (a0 = b0 ∧ a1 = b1)))) := by
 have h := wZ (P := prog) (t := 67) (t2 := t2) (cx := cx) (cy := cy) (xs := [.int .i64 a0, .int .i64 a1]) (ys := [.int .i64 b0, .int .i64 b1]) (by kernel_rfl) (by kernel_rfl) (by kernel_rfl) (by kernel_rfl) rfl (by kernel_rfl) rfl rfl
 have e : ((List.range [Value.int .i64 a0, .int .i64 a1].length).all fun j => eqC ([Value.int .i64 a0, .int .i64 a1].getD j undef) ([Value.int .i64 b0, .int .i64 b1].getD j undef)) = decide (a0 = b0 ∧ a1 = b1) := by
  show (eqC (Value.int .i64 a0) (.int .i64 b0) && (eqC (Value.int .i64 a1) (.int .i64 b1) && true)) = _
  rw [eh]
  simp [eqC]
 rw [e] at h
 exact ⟨h.1, by rw [h.2]; simp⟩
theorem c4S (t2 : TypeId) (cx cy : Bool) (a0 : Int) (a1 : Int) (b0 : Int) (b1 : Int) : lB prog .eql 67 t2 cx cy (.agg #[.int .i64 a0, .int .i64 a1]) (.agg #[.int .i64 b0, .int .i64 b1]) = some (.bool (decide (a0 = b0 ∧ a1 = b1))) := (c3u t2 cx cy a0 a1 b0 b1).1
theorem c3R (t2 : TypeId) (cx cy : Bool) (a0 : Int) (a1 : Int) (b0 : Int) (b1 : Int) : lB prog .neq 67 t2 cx cy (.agg #[.int .i64 a0, .int .i64 a1]) (.agg #[.int .i64 b0, .int .i64 b1]) = some (.bool (decide (¬ (a0 = b0 ∧ a1 = b1)))) := (c3u t2 cx cy a0 a1 b0 b1).2
theorem c4H (t2 : TypeId) (cx cy : Bool) (a0 : Int) (a1 : Int) (b0 : Int) (b1 : Int) : lB prog .eql 74 t2 cx cy (.agg #[.int .i64 a0, .int .i64 a1]) (.agg #[.int .i64 b0, .int .i64 b1]) = some (.bool (decide (a0 = b0 ∧ a1 = b1))) ∧ lB prog .neq 74 t2 cx cy (.agg #[.int .i64 a0, .int .i64 a1]) (.agg #[.int .i64 b0, .int .i64 b1]) = some (.bool (decide (¬ (a0 = b0 ∧ a1 = b1)))) := by
 have h := wZ (P := prog) (t := 74) (t2 := t2) (cx := cx) (cy := cy) (xs := [.int .i64 a0, .int .i64 a1]) (ys := [.int .i64 b0, .int .i64 b1]) (by kernel_rfl) (by kernel_rfl) (by kernel_rfl) (by kernel_rfl) rfl (by kernel_rfl) rfl rfl
 have e : ((List.range [Value.int .i64 a0, .int .i64 a1].length).all fun j => eqC ([Value.int .i64 a0, .int .i64 a1].getD j undef) ([Value.int .i64 b0, .int .i64 b1].getD j undef)) = decide (a0 = b0 ∧ a1 = b1) := by
  show (eqC (Value.int .i64 a0) (.int .i64 b0) && (eqC (Value.int .i64 a1) (.int .i64 b1) && true)) = _
  rw [eh]
  simp [eqC]
 rw [e] at h
 exact ⟨h.1, by rw [h.2]; simp⟩
theorem c3n (t2 : TypeId) (cx cy : Bool) (a0 : Int) (a1 : Int) (b0 : Int) (b1 : Int) : lB prog .eql 74 t2 cx cy (.agg #[.int .i64 a0, .int .i64 a1]) (.agg #[.int .i64 b0, .int .i64 b1]) = some (.bool (decide (a0 = b0 ∧ a1 = b1))) := (c4H t2 cx cy a0 a1 b0 b1).1
theorem c4N (t2 : TypeId) (cx cy : Bool) (a0 : Int) (a1 : Int) (b0 : Int) (b1 : Int) : lB prog .neq 74 t2 cx cy (.agg #[.int .i64 a0, .int .i64 a1]) (.agg #[.int .i64 b0, .int .i64 b1]) = some (.bool (decide (¬ (a0 = b0 ∧ a1 = b1)))) := (c4H t2 cx cy a0 a1 b0 b1).2
theorem c5a (t2 : TypeId) (cx cy : Bool) (a0 : Int) (a1 : Int) (b0 : Int) (b1 : Int) : lB prog .eql 96 t2 cx cy (.agg #[.int .u64 a0, .int .u64 a1]) (.agg #[.int .u64 b0, .int .u64 b1]) = some (.bool (decide (a0 = b0 ∧ a1 = b1))) ∧ lB prog .neq 96 t2 cx cy (.agg #[.int .u64 a0, .int .u64 a1]) (.agg #[.int .u64 b0, .int .u64 b1]) = some (.bool (decide (¬ (a0 = b0 ∧ a1 = b1)))) := by
 have h := wZ (P := prog) (t := 96) (t2 := t2) (cx := cx) (cy := cy) (xs := [.int .u64 a0, .int .u64 a1]) (ys := [.int .u64 b0, .int .u64 b1]) (by kernel_rfl) (by kernel_rfl) (by kernel_rfl) (by kernel_rfl) rfl (by kernel_rfl) rfl rfl
 have e : ((List.range [Value.int .u64 a0, .int .u64 a1].length).all fun j => eqC ([Value.int .u64 a0, .int .u64 a1].getD j undef) ([Value.int .u64 b0, .int .u64 b1].getD j undef)) = decide (a0 = b0 ∧ a1 = b1) := by
  show (eqC (Value.int .u64 a0) (.int .u64 b0) && (eqC (Value.int .u64 a1) (.int .u64 b1) && true)) = _
  rw [eh]
  simp [eqC]
 rw [e] at h
 exact ⟨h.1, by rw [h.2]; simp⟩
theorem c3F (t2 : TypeId) (cx cy : Bool) (a0 : Int) (a1 : Int) (b0 : Int) (b1 : Int) : lB prog .eql 96 t2 cx cy (.agg #[.int .u64 a0, .int .u64 a1]) (.agg #[.int .u64 b0, .int .u64 b1]) = some (.bool (decide (a0 = b0 ∧ a1 = b1))) := (c5a t2 cx cy a0 a1 b0 b1).1
theorem c4Y (t2 : TypeId) (cx cy : Bool) (a0 : Int) (a1 : Int) (b0 : Int) (b1 : Int) : lB prog .neq 96 t2 cx cy (.agg #[.int .u64 a0, .int .u64 a1]) (.agg #[.int .u64 b0, .int .u64 b1]) = some (.bool (decide (¬ (a0 = b0 ∧ a1 = b1)))) := (c5a t2 cx cy a0 a1 b0 b1).2
theorem c0s (t2 : TypeId) (cx cy : Bool) (a0 : Int) (a1 : Int) (b0 : Int) (b1 : Int) : lB prog .eql 186 t2 cx cy (.agg #[.int .i64 a0, .int .i64 a1]) (.agg #[.int .i64 b0, .int .i64 b1]) = some (.bool (decide (a0 = b0 ∧ a1 = b1))) ∧ lB prog .neq 186 t2 cx cy (.agg #[.int .i64 a0, .int .i64 a1]) (.agg #[.int .i64 b0, .int .i64 b1]) = some (.bool (decide (¬ (a0 = b0 ∧ a1 = b1)))) := by
 have h := wZ (P := prog) (t := 186) (t2 := t2) (cx := cx) (cy := cy) (xs := [.int .i64 a0, .int .i64 a1]) (ys := [.int .i64 b0, .int .i64 b1]) (by kernel_rfl) (by kernel_rfl) (by kernel_rfl) (by kernel_rfl) rfl (by kernel_rfl) rfl rfl
 have e : ((List.range [Value.int .i64 a0, .int .i64 a1].length).all fun j => eqC ([Value.int .i64 a0, .int .i64 a1].getD j undef) ([Value.int .i64 b0, .int .i64 b1].getD j undef)) = decide (a0 = b0 ∧ a1 = b1) := by
  show (eqC (Value.int .i64 a0) (.int .i64 b0) && (eqC (Value.int .i64 a1) (.int .i64 b1) && true)) = _
  rw [eh]
  simp [eqC]
 rw [e] at h
 exact ⟨h.1, by rw [h.2]; simp⟩
theorem c2m (t2 : TypeId) (cx cy : Bool) (a0 : Int) (a1 : Int) (b0 : Int) (b1 : Int) : lB prog .eql 186 t2 cx cy (.agg #[.int .i64 a0, .int .i64 a1]) (.agg #[.int .i64 b0, .int .i64 b1]) = some (.bool (decide (a0 = b0 ∧ a1 = b1))) := (c0s t2 cx cy a0 a1 b0 b1).1
theorem c2L (t2 : TypeId) (cx cy : Bool) (a0 : Int) (a1 : Int) (b0 : Int) (b1 : Int) : lB prog .neq 186 t2 cx cy (.agg #[.int .i64 a0, .int .i64 a1]) (.agg #[.int .i64 b0, .int .i64 b1]) = some (.bool (decide (¬ (a0 = b0 ∧ a1 = b1)))) := (c0s t2 cx cy a0 a1 b0 b1).2
theorem b6I {a1 : Value} {a2 : Int} (h1 : a1.cells = #[a1] ∧ oneCell a1 = true ∧ pK a1 = true) : kH prog 30 [(0, a1), (1, .int .u64 a2)] = some (.agg #[a1, .int .u64 a2, .int .u64 0]) := by cases a1 <;> first | (exfalso; simp [oneCell] at h1; done) | kernel_rfl
theorem b5E {a1 : Int} {a2 : Int} : kH prog 30 [(1, .int .u64 a1), (2, .int .u64 a2)] = some (.agg #[.slice none 0 0, .int .u64 a1, .int .u64 a2]) := by kernel_rfl
theorem c2h {a1 : ByteArray} : kH prog 40 [(0, .string a1)] = some (.agg #[.string a1, .slice none 0 0, .slice none 0 0, .slice none 0 0]) := by kernel_rfl
theorem a5F {a1 : ByteArray} {a2 : Value} {a3 : Value} {a4 : Value} (h2 : a2.cells = #[a2] ∧ oneCell a2 = true ∧ pK a2 = true) (h3 : a3.cells = #[a3] ∧ oneCell a3 = true ∧ pK a3 = true) (h4 : a4.cells = #[a4] ∧ oneCell a4 = true ∧ pK a4 = true) : kH prog 40 [(0, .string a1), (1, a2), (2, a3), (3, a4)] = some (.agg #[.string a1, a2, a3, a4]) := by cases a2 <;> cases a3 <;> cases a4 <;> first | (exfalso; simp [oneCell] at h2; done) | (exfalso; simp [oneCell] at h3; done) | (exfalso; simp [oneCell] at h4; done) | kernel_rfl
theorem a9r {a1 : Int} {a2 : Int} {a3 : Int} : kH prog 57 [(0, .int .u16 a1), (1, .int .u16 a2), (2, .int .u16 a3)] = some (.agg #[.int .u16 a1, .int .u16 a2, .int .u16 a3]) := by kernel_rfl
theorem c2I {a1 : Int} : kH prog 67 [(0, .int .i64 a1)] = some (.agg #[.int .i64 a1, .int .i64 0]) := by kernel_rfl
theorem yS {a1 : Int} {a2 : Int} : kH prog 67 [(0, .int .i64 a1), (1, .int .i64 a2)] = some (.agg #[.int .i64 a1, .int .i64 a2]) := by kernel_rfl
theorem c0y : kH prog 74 [] = some (.agg #[.int .i64 0, .int .i64 0]) := by kernel_rfl
theorem a2T {a1 : Int} {a2 : Int} : kH prog 74 [(0, .int .i64 a1), (1, .int .i64 a2)] = some (.agg #[.int .i64 a1, .int .i64 a2]) := by kernel_rfl
theorem rR {a1 : Int} {a2 : Int} : kH prog 76 [(0, .int .i64 a1), (1, .int .i64 a2)] = some (.agg #[.int .i64 a1, .int .i64 a2]) := by kernel_rfl
theorem a4M {a1 : ByteArray} {a2 : ByteArray} {a3 : Int} {a4 : Int} {a5 : Int} : kH prog 79 [(0, .string a1), (1, .string a2), (2, .agg #[.int .i64 a3, .int .i64 a4]), (3, .int .i64 a5)] = some (.agg #[.string a1, .string a2, .int .i64 a3, .int .i64 a4, .int .i64 a5, .slice none 0 0]) := by kernel_rfl
theorem a2n {a1 : ByteArray} {a2 : ByteArray} {a3 : Int} {a4 : Int} {a5 : Int} {a6 : Value} (h6 : a6.cells = #[a6] ∧ oneCell a6 = true ∧ pK a6 = true) : kH prog 79 [(0, .string a1), (1, .string a2), (2, .agg #[.int .i64 a3, .int .i64 a4]), (3, .int .i64 a5), (4, a6)] = some (.agg #[.string a1, .string a2, .int .i64 a3, .int .i64 a4, .int .i64 a5, a6]) := by cases a6 <;> first | (exfalso; simp [oneCell] at h6; done) | kernel_rfl
theorem a2z {a1 : Int} {a2 : Int} {a3 : Int} : kH prog 82 [(0, .agg #[.int .i64 a1, .int .i64 a2]), (1, .int .i64 a3)] = some (.agg #[.int .i64 a1, .int .i64 a2, .int .i64 a3]) := by kernel_rfl
theorem c0n : kH prog 96 [] = some (.agg #[.int .u64 0, .int .u64 0]) := by kernel_rfl
theorem b5s {a1 : Int} {a2 : Int} : kH prog 96 [(0, .int .u64 a1), (1, .int .u64 a2)] = some (.agg #[.int .u64 a1, .int .u64 a2]) := by kernel_rfl
theorem a0a {a1 : Int} {a2 : Int} : kH prog 108 [(0, .int .i64 a1), (1, .int .i64 a2)] = some (.agg #[.int .i64 a1, .int .i64 a2]) := by kernel_rfl
theorem c0c {a1 : ByteArray} : kH prog 111 [(0, .string a1)] = some (.agg #[.string a1, .bool false, .int .i64 0, .int .i64 0, .slice none 0 0]) := by kernel_rfl
theorem a7V {a1 : ByteArray} {a2 : Bool} {a3 : Int} {a4 : Int} : kH prog 111 [(0, .string a1), (1, .bool a2), (2, .agg #[.int .i64 a3, .int .i64 a4])] = some (.agg #[.string a1, .bool a2, .int .i64 a3, .int .i64 a4, .slice none 0 0]) := by kernel_rfl
theorem a0F {a1 : ByteArray} {a2 : Int} {a3 : Int} {a4 : Value} (h4 : a4.cells = #[a4] ∧ oneCell a4 = true ∧ pK a4 = true) : kH prog 111 [(0, .string a1), (2, .agg #[.int .i64 a2, .int .i64 a3]), (3, a4)] = some (.agg #[.string a1, .bool false, .int .i64 a2, .int .i64 a3, a4]) := by cases a4 <;> first | (exfalso; simp [oneCell] at h4; done) | kernel_rfl
theorem b3H {a1 : ByteArray} {a2 : Int} {a3 : Int} : kH prog 128 [(0, .string a1), (1, .agg #[.int .i64 a2, .int .i64 a3])] = some (.agg #[.string a1, .int .i64 a2, .int .i64 a3, .slice none 0 0]) := by kernel_rfl
theorem a6J {a1 : ByteArray} {a2 : Int} {a3 : Int} {a4 : Value} (h4 : a4.cells = #[a4] ∧ oneCell a4 = true ∧ pK a4 = true) : kH prog 128 [(0, .string a1), (1, .agg #[.int .i64 a2, .int .i64 a3]), (2, a4)] = some (.agg #[.string a1, .int .i64 a2, .int .i64 a3, a4]) := by cases a4 <;> first | (exfalso; simp [oneCell] at h4; done) | kernel_rfl
theorem a6k {a1 : ByteArray} {a2 : Int} {a3 : Int} : kH prog 135 [(0, .string a1), (1, .int .i64 a2), (2, .int .i64 a3)] = some (.agg #[.string a1, .int .i64 a2, .int .i64 a3, .int .i64 0, .bool false]) := by kernel_rfl
theorem a1a {a1 : ByteArray} {a2 : Int} {a3 : Int} {a4 : Int} {a5 : Bool} : kH prog 135 [(0, .string a1), (1, .int .i64 a2), (2, .int .i64 a3), (3, .int .i64 a4), (4, .bool a5)] = some (.agg #[.string a1, .int .i64 a2, .int .i64 a3, .int .i64 a4, .bool a5]) := by kernel_rfl
theorem a6d {a1 : ByteArray} {a2 : Int} {a3 : Int} : kH prog 135 [(0, .string a1), (1, .int .i64 a2), (3, .int .i64 a3)] = some (.agg #[.string a1, .int .i64 a2, .int .i64 0, .int .i64 a3, .bool false]) := by kernel_rfl
theorem b2N {a1 : ByteArray} {a2 : Int} : kH prog 135 [(0, .string a1), (3, .int .i64 a2)] = some (.agg #[.string a1, .int .i64 0, .int .i64 0, .int .i64 a2, .bool false]) := by kernel_rfl
theorem pY {a1 : Int} {a2 : Int} : kH prog 186 [(0, .int .i64 a1), (1, .int .i64 a2)] = some (.agg #[.int .i64 a1, .int .i64 a2]) := by kernel_rfl
theorem c1C : kH prog 189 [] = some (.agg #[.int .i64 0, .int .i64 0, .slice none 0 0]) := by kernel_rfl
theorem lJ {a1 : Int} {a2 : Int} {a3 : Value} (h3 : a3.cells = #[a3] ∧ oneCell a3 = true ∧ pK a3 = true) : kH prog 189 [(0, .int .i64 a1), (1, .int .i64 a2), (2, a3)] = some (.agg #[.int .i64 a1, .int .i64 a2, a3]) := by cases a3 <;> first | (exfalso; simp [oneCell] at h3; done) | kernel_rfl
theorem b3R {a1 : Value} {a2 : Int} {a3 : Int} (h1 : a1.cells = #[a1] ∧ oneCell a1 = true ∧ pK a1 = true) : kH prog 204 [(0, a1), (1, .agg #[.int .i64 a2, .int .i64 a3])] = some (.agg #[a1, .int .i64 a2, .int .i64 a3]) := by cases a1 <;> first | (exfalso; simp [oneCell] at h1; done) | kernel_rfl
theorem b3C {a1 : Int} {a2 : Int} : kH prog 277 [(0, .int .u64 a1), (1, .int .u64 a2)] = some (.agg #[.int .u64 a1, .int .u64 a2]) := by kernel_rfl
theorem tR4 (l : List Value) (H : Heap) : iC prog Tryz.f4 l H = some (get l 6) := rfl
theorem c5O (l : List Value) (H : Heap) : iC prog Tryz.f10 l H = some (get l 0) := rfl
theorem a8F (l : List Value) (H : Heap) : iC prog Tryz.f11 l H = some (get l 2) := rfl
theorem c5L (l : List Value) (H : Heap) : iC prog Tryz.f12 l H = pE (jO prog 40) (iE prog 40) H (get l 2) := by
 show (Option.bind (Option.bind (lQ prog H 40 (get l 2)) fun v => some [v]) fun vs => _) = _
 rw [lD]
 cases pE _ _ H (get l 2) <;> rfl
theorem b3x (l : List Value) (H : Heap) : iC prog Tryz.f13 l H = some (get l 4) := rfl
theorem b7Q (l : List Value) (H : Heap) : iC prog Tryz.f14 l H = some (get l 4) := rfl
theorem c3g (l : List Value) (H : Heap) : iC prog Tryz.f15 l H = if (jJ (get l 6) && (jJ (get l 7) && true)) = true then some (.tuple #[get l 6, get l 7]) else none := rfl
theorem c3c (l : List Value) (H : Heap) : iC prog Tryz.f16 l H = if (jJ (get l 8) && (jJ (get l 9) && (jJ (get l 10) && true))) = true then some (.tuple #[get l 8, get l 9, get l 10]) else none := rfl
theorem c6s (l : List Value) (H : Heap) : iC prog Tryz.f17 l H = pE (jO prog 30) (iE prog 30) H (get l 4) := by
 show (Option.bind (Option.bind (lQ prog H 30 (get l 4)) fun v => some [v]) fun vs => _) = _
 rw [lD]
 cases pE _ _ H (get l 4) <;> rfl
theorem c6w (l : List Value) (H : Heap) : iC prog Tryz.f18 l H = some (get l 4) := rfl
theorem c3t (l : List Value) (H : Heap) : iC prog Tryz.f19 l H = pE (jO prog 40) (iE prog 40) H (get l 4) := by
 show (Option.bind (Option.bind (lQ prog H 40 (get l 4)) fun v => some [v]) fun vs => _) = _
 rw [lD]
 cases pE _ _ H (get l 4) <;> rfl
theorem a3a (l : List Value) (H : Heap) : iC prog Tryz.f20 l H = some (get l 2) := rfl
theorem c4J (l : List Value) (H : Heap) : iC prog Tryz.f21 l H = if (jJ (get l 6) && (jJ (get l 7) && true)) = true then some (.tuple #[get l 6, get l 7]) else none := rfl
theorem c0U (l : List Value) (H : Heap) : iC prog Tryz.f22 l H = if (jJ (get l 6) && (jJ (get l 7) && true)) = true then some (.tuple #[get l 6, get l 7]) else none := rfl
theorem c3r (l : List Value) (H : Heap) : iC prog Tryz.f23 l H = if (jJ (get l 6) && (jJ (get l 7) && true)) = true then some (.tuple #[get l 6, get l 7]) else none := rfl
theorem c5p (l : List Value) (H : Heap) : iC prog Tryz.f24 l H = if (jJ (get l 6) && (jJ (get l 7) && true)) = true then some (.tuple #[get l 6, get l 7]) else none := rfl
theorem c6y (l : List Value) (H : Heap) : iC prog Tryz.f25 l H = if (jJ (get l 8) && (jJ (get l 9) && true)) = true then some (.tuple #[get l 8, get l 9]) else none := rfl
theorem c1w (l : List Value) (H : Heap) : iC prog Tryz.f27 l H = some (get l 4) := rfl
theorem c5n (l : List Value) (H : Heap) : iC prog Tryz.f29 l H = some (.tuple #[]) := rfl
theorem c2w (l : List Value) (H : Heap) : iC prog Tryz.f31 l H = some (get l 4) := rfl
theorem c5E (l : List Value) (H : Heap) : iC prog Tryz.f44 l H = pE (jO prog 40) (iE prog 40) H (get l 0) := by
 show (Option.bind (Option.bind (lQ prog H 40 (get l 0)) fun v => some [v]) fun vs => _) = _
 rw [lD]
 cases pE _ _ H (get l 0) <;> rfl
theorem c6G (l : List Value) (H : Heap) : iC prog Tryz.f45 l H = (pE (jO prog 96) (iE prog 96) H (get l 2)).bind fun v => if (jJ v && (jJ (get l 3) && true)) = true then some (.tuple #[v, get l 3]) else none := by
 show (Option.bind (Option.bind (lQ prog H 96 (get l 2)) fun v => some [v, get l 3]) fun vs => _) = _
 rw [lD]
 cases pE _ _ H (get l 2) <;> rfl
theorem c1q (l : List Value) (H : Heap) : iC prog Tryz.f46 l H = some (get l 4) := rfl
theorem c6m (l : List Value) (H : Heap) : iC prog Tryz.f47 l H = pE (jO prog 79) (iE prog 79) H (get l 4) := by
 show (Option.bind (Option.bind (lQ prog H 79 (get l 4)) fun v => some [v]) fun vs => _) = _
 rw [lD]
 cases pE _ _ H (get l 4) <;> rfl
theorem a8Q (l : List Value) (H : Heap) : iC prog Tryz.f48 l H = pE (jO prog 128) (iE prog 128) H (get l 8) := by
 show (Option.bind (Option.bind (lQ prog H 128 (get l 8)) fun v => some [v]) fun vs => _) = _
 rw [lD]
 cases pE _ _ H (get l 8) <;> rfl
theorem c6h (l : List Value) (H : Heap) : iC prog Tryz.f49 l H = (pE (jO prog 96) (iE prog 96) H (get l 2)).bind fun v => if (jJ v && (jJ (get l 3) && true)) = true then some (.tuple #[v, get l 3]) else none := by
 show (Option.bind (Option.bind (lQ prog H 96 (get l 2)) fun v => some [v, get l 3]) fun vs => _) = _
 rw [lD]
 cases pE _ _ H (get l 2) <;> rfl
theorem c6z (l : List Value) (H : Heap) : iC prog Tryz.f50 l H = some (get l 4) := rfl
theorem c4I (l : List Value) (H : Heap) : iC prog Tryz.f51 l H = some (get l 6) := rfl
theorem c6v (l : List Value) (H : Heap) : iC prog Tryz.f52 l H = some (get l 6) := rfl
theorem c5W (l : List Value) (H : Heap) : iC prog Tryz.f53 l H = some (get l 2) := rfl
theorem c6c (l : List Value) (H : Heap) : iC prog Tryz.f54 l H = some (get l 4) := rfl
theorem b2H (l : List Value) (H : Heap) : iC prog Tryz.f55 l H = some (get l 2) := rfl
theorem a9K (l : List Value) (H : Heap) : iC prog Tryz.f56 l H = some (get l 2) := rfl
theorem c4X (l : List Value) (H : Heap) : iC prog Tryz.f57 l H = some (get l 4) := rfl
theorem b6w (l : List Value) (H : Heap) : iC prog Tryz.f58 l H = some (get l 4) := rfl
theorem a0w (l : List Value) (H : Heap) : iC prog Tryz.f59 l H = some (get l 4) := rfl
theorem c5S (l : List Value) (H : Heap) : iC prog Tryz.f60 l H = some (get l 6) := rfl
theorem c5R (l : List Value) (H : Heap) : iC prog Tryz.f61 l H = if (jJ (get l 4) && (jJ (get l 5) && true)) = true then some (.tuple #[get l 4, get l 5]) else none := rfl
theorem c5A (l : List Value) (H : Heap) : iC prog Tryz.f62 l H = some (get l 4) := rfl
theorem c0T (l : List Value) (H : Heap) : iC prog Tryz.f63 l H = some (get l 4) := rfl
theorem c3U (l : List Value) (H : Heap) : iC prog Tryz.f64 l H = some (get l 6) := rfl
theorem c6j (l : List Value) (H : Heap) : iC prog Tryz.f65 l H = some (get l 6) := rfl
theorem b4i (l : List Value) (H : Heap) : iC prog Tryz.f66 l H = some (get l 4) := rfl
theorem c1F (l : List Value) (H : Heap) : iC prog Tryz.f72 l H = some (get l 2) := rfl
theorem c3e (l : List Value) (H : Heap) : iC prog Tryz.f74 l H = some (.tuple #[]) := rfl
theorem c5U (l : List Value) (H : Heap) : iC prog Tryz.f92 l H = some (get l 6) := rfl
theorem c5D (l : List Value) (H : Heap) : iC prog Tryz.f93 l H = pE (jO prog 79) (iE prog 79) H (get l 2) := by
 show (Option.bind (Option.bind (lQ prog H 79 (get l 2)) fun v => some [v]) fun vs => _) = _
 rw [lD]
 cases pE _ _ H (get l 2) <;> rfl
theorem c5F (l : List Value) (H : Heap) : iC prog Tryz.f94 l H = some (get l 2) := rfl
theorem c4F (l : List Value) (H : Heap) : iC prog Tryz.f95 l H = pE (jO prog 96) (iE prog 96) H (get l 4) := by
 show (Option.bind (Option.bind (lQ prog H 96 (get l 4)) fun v => some [v]) fun vs => _) = _
 rw [lD]
 cases pE _ _ H (get l 4) <;> rfl
theorem c6D (l : List Value) (H : Heap) : iC prog Tryz.f96 l H = pE (jO prog 76) (iE prog 76) H (get l 2) := by
 show (Option.bind (Option.bind (lQ prog H 76 (get l 2)) fun v => some [v]) fun vs => _) = _
 rw [lD]
 cases pE _ _ H (get l 2) <;> rfl
theorem c6i (l : List Value) (H : Heap) : iC prog Tryz.f97 l H = pE (jO prog 76) (iE prog 76) H (get l 2) := by
 show (Option.bind (Option.bind (lQ prog H 76 (get l 2)) fun v => some [v]) fun vs => _) = _
 rw [lD]
 cases pE _ _ H (get l 2) <;> rfl
theorem b8r (l : List Value) (H : Heap) : iC prog Tryz.f98 l H = some (get l 2) := rfl
theorem c6E (l : List Value) (H : Heap) : iC prog Tryz.f99 l H = pE (jO prog 96) (iE prog 96) H (get l 4) := by
 show (Option.bind (Option.bind (lQ prog H 96 (get l 4)) fun v => some [v]) fun vs => _) = _
 rw [lD]
 cases pE _ _ H (get l 4) <;> rfl
theorem b6W (l : List Value) (H : Heap) : iC prog Tryz.f100 l H = some (get l 4) := rfl
theorem c5m (l : List Value) (H : Heap) : iC prog Tryz.f101 l H = some (get l 2) := rfl
theorem c0r (l : List Value) (H : Heap) : iC prog Tryz.f102 l H = if (jJ (get l 6) && (jJ (get l 7) && true)) = true then some (.tuple #[get l 6, get l 7]) else none := rfl
theorem c3i (l : List Value) (H : Heap) : iC prog Tryz.f103 l H = some (get l 4) := rfl
theorem a8k (l : List Value) (H : Heap) : iC prog Tryz.f104 l H = some (get l 2) := rfl
theorem a7e (l : List Value) (H : Heap) : iC prog Tryz.f105 l H = some (get l 2) := rfl
theorem c0z (l : List Value) (H : Heap) : iC prog Tryz.f106 l H = some (get l 2) := rfl
theorem c0x (l : List Value) (H : Heap) : iC prog Tryz.f107 l H = some (get l 2) := rfl
theorem tG (l : List Value) (H : Heap) : iC prog Tryz.f108 l H = some (get l 4) := rfl
theorem c3C (l : List Value) (H : Heap) : iC prog Tryz.f109 l H = some (get l 4) := rfl
theorem c3L (l : List Value) (H : Heap) : iC prog Tryz.f110 l H = some (get l 3) := rfl
theorem c0D (l : List Value) (H : Heap) : iC prog Tryz.f111 l H = some (.tuple #[]) := rfl
theorem c3Z (l : List Value) (H : Heap) : iC prog Tryz.f113 l H = some (get l 4) := rfl
theorem b4S (l : List Value) (H : Heap) : iC prog Tryz.f114 l H = some (get l 2) := rfl
theorem c0J (l : List Value) (H : Heap) : iC prog Tryz.f115 l H = some (get l 4) := rfl
theorem c3D (l : List Value) (H : Heap) : iC prog Tryz.f116 l H = some (get l 4) := rfl
theorem c4U (l : List Value) (H : Heap) : iC prog Tryz.f117 l H = some (get l 2) := rfl
theorem c3V (l : List Value) (H : Heap) : iC prog Tryz.f118 l H = some (get l 6) := rfl
theorem c0e (l : List Value) (H : Heap) : iC prog Tryz.f128 l H = some (.tuple #[]) := rfl
theorem a6w (l : List Value) (H : Heap) : iC prog Tryz.f129 l H = some (.tuple #[]) := rfl
theorem c3y (l : List Value) (H : Heap) : iC prog Tryz.f138 l H = some (get l 4) := rfl
theorem c4o (l : List Value) (H : Heap) : iC prog Tryz.f139 l H = some (get l 2) := rfl
theorem c5e (l : List Value) (H : Heap) : iC prog Tryz.f140 l H = some (get l 2) := rfl
theorem c0u (l : List Value) (H : Heap) : iC prog Tryz.f141 l H = some (get l 2) := rfl
theorem a4v (l : List Value) (H : Heap) : iC prog Tryz.f142 l H = some (get l 2) := rfl
theorem c5t (l : List Value) (H : Heap) : iC prog Tryz.f143 l H = some (get l 4) := rfl
theorem c0m (l : List Value) (H : Heap) : iC prog Tryz.f144 l H = some (get l 2) := rfl
theorem b5h (l : List Value) (H : Heap) : iC prog Tryz.f145 l H = some (get l 2) := rfl
theorem a2P (l : List Value) (H : Heap) : iC prog Tryz.f146 l H = some (get l 4) := rfl
theorem c0v (l : List Value) (H : Heap) : iC prog Tryz.f147 l H = some (get l 4) := rfl
theorem c0L (l : List Value) (H : Heap) : iC prog Tryz.f153 l H = pE (jO prog 189) (iE prog 189) H (get l 4) := by
 show (Option.bind (Option.bind (lQ prog H 189 (get l 4)) fun v => some [v]) fun vs => _) = _
 rw [lD]
 cases pE _ _ H (get l 4) <;> rfl
theorem b1r (l : List Value) (H : Heap) : iC prog Tryz.f154 l H = (pE (jO prog 74) (iE prog 74) H (get l 6)).bind fun v => if (jJ v && (jJ (get l 7) && true)) = true then some (.tuple #[v, get l 7]) else none := by
 show (Option.bind (Option.bind (lQ prog H 74 (get l 6)) fun v => some [v, get l 7]) fun vs => _) = _
 rw [lD]
 cases pE _ _ H (get l 6) <;> rfl
theorem c3N (l : List Value) (H : Heap) : iC prog Tryz.f155 l H = some (get l 2) := rfl
theorem c4y (l : List Value) (H : Heap) : iC prog Tryz.f178 l H = some (.tuple #[]) := rfl
theorem c3q (l : List Value) (H : Heap) : iC prog Tryz.f187 l H = some (get l 4) := rfl
theorem c4b (l : List Value) (H : Heap) : iC prog Tryz.f188 l H = some (.tuple #[]) := rfl
theorem c3b (l : List Value) (H : Heap) : iC prog Tryz.f189 l H = some (get l 2) := rfl
theorem c3Y (l : List Value) (H : Heap) : iC prog Tryz.f190 l H = some (get l 4) := rfl
theorem c0N (l : List Value) (H : Heap) : iC prog Tryz.f191 l H = some (get l 2) := rfl
theorem c0M (l : List Value) (H : Heap) : iC prog Tryz.f192 l H = some (get l 4) := rfl
theorem c3m (l : List Value) (H : Heap) : iC prog Tryz.f193 l H = some (get l 4) := rfl
theorem c0P (l : List Value) (H : Heap) : iC prog Tryz.f211 l H = some (get l 4) := rfl
theorem c0H (l : List Value) (H : Heap) : iC prog Tryz.f212 l H = some (get l 3) := rfl
theorem c4n (l : List Value) (H : Heap) : iC prog Tryz.f213 l H = some (get l 4) := rfl
theorem c5l (l : List Value) (H : Heap) : iC prog Tryz.f226 l H = some (.tuple #[]) := rfl
theorem c0t (l : List Value) (H : Heap) : iC prog Tryz.f231 l H = some (get l 4) := rfl
theorem a5S : MapK prog 147 Value.string (.bool false) := MapK.str (kt := 9) (et := 4) (by kernel_rfl) (by kernel_rfl) (by kernel_rfl) rfl
theorem a6C : MapK prog 207 (fun p : Int × Int => .agg #[I p.1, I p.2]) (.bool false) := MapK.struct (kt := 67) (et := 4) (fs := (tH prog 67).toArray) (by kernel_rfl) (by kernel_rfl) (by kernel_rfl) rfl (fun b k => by cases b <;> kernel_rfl) (fun a b => c2P (by kernel_rfl) (by kernel_rfl) (by kernel_rfl) (fun _ _ _ _ => by kernel_rfl) a b) (fun k => c0Q k)
theorem tt0 : jO prog 3 = some false ∧ jO prog 4 = some false ∧ iE prog 4 = some 1 ∧ jO prog 5 = some false ∧ iE prog 5 = some 1 ∧ jO prog 9 = some false ∧ jO prog 22 = some false ∧ iE prog 22 = some 1 ∧ jO prog 23 = some false ∧ iE prog 23 = some 1 ∧ jO prog 24 = some false ∧ iE prog 24 = some 1 ∧ jO prog 26 = some true ∧ jO prog 27 = some false ∧ jO prog 28 = some false ∧ jO prog 30 = some true ∧ jO prog 36 = some false ∧ jO prog 37 = some false ∧ jO prog 38 = some false ∧ jO prog 40 = some true ∧ jO prog 52 = some true ∧ jO prog 53 = some true ∧ jO prog 56 = some false ∧ iE prog 56 = some 1 ∧ jO prog 57 = some true ∧ jO prog 60 = some false ∧ jO prog 67 = some true ∧ jO prog 74 = some true ∧ jO prog 76 = some true ∧ jO prog 77 = some false ∧ jO prog 79 = some true ∧ jO prog 82 = some true ∧ jO prog 96 = some true ∧ jO prog 108 = some true ∧ jO prog 109 = some false ∧ jO prog 111 = some true ∧ jO prog 118 = some false ∧ iE prog 118 = some 1 ∧ jO prog 120 = some true ∧ jO prog 122 = some false := by and_intros <;> kernel_rfl
theorem tt1 : iE prog 122 = some 1 ∧ jO prog 124 = some true ∧ jO prog 126 = some false ∧ jO prog 128 = some true ∧ jO prog 131 = some true ∧ jO prog 133 = some true ∧ jO prog 135 = some true ∧ jO prog 186 = some true ∧ jO prog 187 = some false ∧ iE prog 187 = some 1 ∧ jO prog 189 = some true ∧ jO prog 204 = some true ∧ jO prog 207 = some false ∧ iS prog 22 = some 9 ∧ iS prog 23 = some 4 ∧ iS prog 24 = some 4 ∧ iS prog 27 = some 1 ∧ iS prog 33 = some 2 ∧ iS prog 36 = some 6 ∧ iS prog 37 = some 5 ∧ iS prog 38 = some 5 ∧ iS prog 45 = some 2 ∧ iS prog 60 = some 2 ∧ iS prog 63 = some 3 ∧ iS prog 109 = some 4 ∧ iS prog 118 = some 4 ∧ iS prog 125 = some 1 ∧ iS prog 126 = some 3 ∧ iS prog 139 = some 3 ∧ iS prog 144 = some 1 ∧ iS prog 145 = some 2 ∧ iS prog 187 = some 2 ∧ iS prog 231 = some 2 ∧ lG prog 27 = true ∧ lG prog 33 = true ∧ lG prog 36 = true ∧ lG prog 37 = true ∧ lG prog 38 = true ∧ lG prog 45 = true ∧ lG prog 60 = true := by and_intros <;> kernel_rfl
theorem tt2 : lG prog 63 = true ∧ lG prog 77 = true ∧ lG prog 109 = true ∧ lG prog 125 = true ∧ lG prog 126 = true ∧ lG prog 139 = true ∧ lG prog 144 = true ∧ lG prog 145 = true ∧ lG prog 187 = true ∧ lG prog 231 = true ∧ iS prog 9 = none ∧ nR prog 9 = true ∧ iU prog 26 0 = some 0 ∧ iU prog 26 1 = some 1 ∧ iU prog 26 2 = some 2 ∧ iU prog 30 0 = some 0 ∧ iU prog 30 1 = some 1 ∧ iU prog 30 2 = some 2 ∧ iU prog 40 0 = some 0 ∧ iU prog 40 1 = some 1 ∧ iU prog 40 2 = some 2 ∧ iU prog 40 3 = some 3 ∧ iU prog 52 0 = some 0 ∧ iU prog 52 1 = some 1 ∧ iU prog 67 0 = some 0 ∧ iU prog 67 1 = some 1 ∧ iU prog 74 0 = some 0 ∧ iU prog 74 1 = some 1 ∧ iU prog 76 0 = some 0 ∧ iU prog 76 1 = some 1 ∧ iU prog 79 0 = some 0 ∧ iU prog 79 1 = some 1 ∧ iU prog 79 2 = some 2 ∧ iU prog 79 3 = some 4 ∧ iU prog 79 4 = some 5 ∧ iU prog 82 1 = some 2 ∧ iU prog 96 0 = some 0 ∧ iU prog 96 1 = some 1 ∧ iU prog 108 0 = some 0 ∧ iU prog 108 1 = some 1 := by and_intros <;> kernel_rfl
theorem tt3 : iU prog 111 0 = some 0 ∧ iU prog 111 2 = some 2 ∧ iU prog 111 3 = some 4 ∧ iU prog 120 0 = some 0 ∧ iU prog 120 1 = some 1 ∧ iU prog 120 2 = some 2 ∧ iU prog 120 3 = some 3 ∧ iU prog 124 0 = some 0 ∧ iU prog 124 1 = some 1 ∧ iU prog 124 2 = some 2 ∧ iU prog 124 3 = some 3 ∧ iU prog 124 4 = some 4 ∧ iU prog 128 0 = some 0 ∧ iU prog 128 1 = some 1 ∧ iU prog 128 2 = some 3 ∧ iU prog 131 0 = some 0 ∧ iU prog 131 1 = some 1 ∧ iU prog 131 2 = some 2 ∧ iU prog 131 3 = some 3 ∧ iU prog 133 0 = some 0 ∧ iU prog 133 1 = some 1 ∧ iU prog 133 2 = some 2 ∧ iU prog 133 3 = some 3 ∧ iU prog 135 0 = some 0 ∧ iU prog 135 1 = some 1 ∧ iU prog 135 2 = some 2 ∧ iU prog 135 3 = some 3 ∧ iU prog 135 4 = some 4 ∧ iU prog 186 0 = some 0 ∧ iU prog 186 1 = some 1 ∧ iU prog 189 0 = some 0 ∧ iU prog 189 1 = some 1 ∧ iU prog 189 2 = some 2 ∧ iU prog 204 0 = some 0 ∧ iU prog 204 1 = some 1 ∧ jB prog 30 = some (.agg #[.slice none 0 0, .int .u64 0, .int .u64 0]) ∧ jQ prog 30 = none ∧ jB prog 40 = some (.agg #[.string ⟨#[]⟩, .slice none 0 0, .slice none 0 0, .slice none 0 0]) ∧ jQ prog 40 = none ∧ jB prog 60 = some (.slice none 0 0) := by and_intros <;> kernel_rfl
theorem tt4 : jQ prog 60 = none ∧ jB prog 67 = some (.agg #[.int .i64 0, .int .i64 0]) ∧ jQ prog 67 = none ∧ jB prog 74 = some (.agg #[.int .i64 0, .int .i64 0]) ∧ jQ prog 74 = none ∧ jB prog 76 = some (.agg #[.int .i64 0, .int .i64 0]) ∧ jQ prog 76 = none ∧ jB prog 79 = some (.agg #[.string ⟨#[]⟩, .string ⟨#[]⟩, .int .i64 0, .int .i64 0, .int .i64 0, .slice none 0 0]) ∧ jQ prog 79 = none ∧ jB prog 96 = some (.agg #[.int .u64 0, .int .u64 0]) ∧ jQ prog 96 = none ∧ jB prog 108 = some (.agg #[.int .i64 0, .int .i64 0]) ∧ jQ prog 108 = none ∧ jB prog 111 = some (.agg #[.string ⟨#[]⟩, .bool false, .int .i64 0, .int .i64 0, .slice none 0 0]) ∧ jQ prog 111 = none ∧ jB prog 120 = some (.agg #[.int .u8 0, .int .u8 0, .bool false, .slice none 0 0]) ∧ jQ prog 120 = none ∧ jB prog 128 = some (.agg #[.string ⟨#[]⟩, .int .i64 0, .int .i64 0, .slice none 0 0]) ∧ jQ prog 128 = none ∧ jB prog 133 = some (.agg #[.int .u8 0, .int .u8 0, .int .i8 0, .bool false]) ∧ jQ prog 133 = none ∧ jB prog 135 = some (.agg #[.string ⟨#[]⟩, .int .i64 0, .int .i64 0, .int .i64 0, .bool false]) ∧ jQ prog 135 = none ∧ jB prog 186 = some (.agg #[.int .i64 0, .int .i64 0]) ∧ jQ prog 186 = none ∧ jB prog 189 = some (.agg #[.int .i64 0, .int .i64 0, .slice none 0 0]) ∧ jQ prog 189 = none ∧ jB prog 207 = some (.map none) ∧ jQ prog 207 = none ∧ zJ prog 3 = some .i64 ∧ zJ prog 5 = some .u8 ∧ zJ prog 28 = some .u64 ∧ zJ prog 56 = some .u16 ∧ zJ prog 122 = some .i8 ∧ zJ prog 143 = some .u64 := by and_intros <;> kernel_rfl
def TS := (And.intro (And.intro (And.intro (And.intro (And.intro @tt0 (And.intro @tt1 @tt2)) (And.intro @tt3 (And.intro @tt4 @tS3))) (And.intro (And.intro @tS9 (And.intro @b7X @c3v)) (And.intro (And.intro @b9c @pG) (And.intro @b6m @b5c)))) (And.intro (And.intro (And.intro @a8y (And.intro @mD @c1n)) (And.intro @c2c (And.intro @c4s @b9O))) (And.intro (And.intro @rC (And.intro @rO @zY)) (And.intro (And.intro @b7m @tI) (And.intro @a2l @nQ))))) (And.intro (And.intro (And.intro (And.intro @sA (And.intro @b1q @rP)) (And.intro @b0Z (And.intro @b4I @vS))) (And.intro (And.intro @mR (And.intro @b4Y @b1p)) (And.intro (And.intro @vJ @a0R) (And.intro @a2v @b1o)))) (And.intro (And.intro (And.intro @b6u (And.intro @c1R @c5Z)) (And.intro @c5G (And.intro @c3W @c4S))) (And.intro (And.intro @c3R (And.intro @c3n @c4N)) (And.intro (And.intro @c3F @c4Y) (And.intro @c2m @c2L))))))
def RZ := And.intro @RB (And.intro @RC @TS)
end Go.Ds
