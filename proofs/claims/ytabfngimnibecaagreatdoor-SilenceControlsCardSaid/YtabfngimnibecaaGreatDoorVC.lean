/-
  A part of the proof of SilenceControls.
-/
import Derived.Test.YtabfngimnibecaaGreatDoorVA
import Derived.Test.YtabfngimnibecaaGreatDoorVB
import Derived.Test.YtabfngimnibecaaGreatDoorProg
import Derived.KernelRfl
import Derived.Lib.LaidTab
import Derived.Stop.LaidErr
import Derived.Laws.Strings
set_option linter.unusedVariables false
set_option linter.unusedSimpArgs false
set_option linter.defProp false
set_option linter.unusedSectionVars false
namespace Go.Ds
noncomputable section
inductive Pth where
 | z
 | l (p : Pth)
 | r (p : Pth)
inductive Fr where
 | e
 | n (v : Value) (l r : Fr)
def a4c : Nat → Nat → Pth := fun f => Nat.rec (motive := fun _ => Nat → Pth) (fun _ => .z) (fun _ ih k => Nat.rec (motive := fun _ => Pth) .z (fun k _ => Bool.rec (motive := fun _ => Pth) (.r (ih (Nat.div k 2))) (.l (ih (Nat.div k 2))) (Nat.beq (Nat.mod k 2) 0)) k) f
def jZ (k : Nat) : Pth := a4c k k
def mX (p : Pth) : Fr → Value := Pth.rec (motive := fun _ => Fr → Value)
 (fun f => Fr.rec (motive := fun _ => Value) undef (fun v _ _ _ _ => v) f)
 (fun _ ih f => Fr.rec (motive := fun _ => Value) undef (fun _ l _ _ _ => ih l) f)
 (fun _ ih f => Fr.rec (motive := fun _ => Value) undef (fun _ _ r _ _ => ih r) f) p
def oO {α : Type} (v : Value) (p : Pth) : Fr → (Fr → α) → α := Pth.rec (motive := fun _ => Fr → (Fr → α) → α)
 (fun f K => Fr.rec (motive := fun _ => α) (K (.n v .e .e)) (fun _ l r _ _ => K (.n v l r)) f)
 (fun _ ih f K => Fr.rec (motive := fun _ => α) (ih .e fun l => K (.n undef l .e)) (fun w l r _ _ => ih l fun l => K (.n w l r)) f)
 (fun _ ih f K => Fr.rec (motive := fun _ => α) (ih .e fun r => K (.n undef .e r)) (fun w l r _ _ => ih r fun r => K (.n w l r)) f) p
def kY {α : Type} (p : Pth) : (Pth → α) → α := Pth.rec (motive := fun _ => (Pth → α) → α) (fun K => K .z) (fun _ ih K => ih fun p => K (.l p)) (fun _ ih K => ih fun p => K (.r p)) p
inductive LArg where
 | t (p : Pth)
 | c (v : Value)
def lV (f : Fr) (x : LArg) : Value := LArg.rec (motive := fun _ => Value) (fun p => mX p f) (fun v => v) x
inductive Rs where
 | no
 | ok (v : Value) (H : Heap)
 | th (v : Value) (H : Heap)
def nH {α : Type} (v : Value) (K : Value → α) : α :=
 match v with
 | .bool b => K (.bool b)
 | .int k n => K (.int k n)
 | .string s => K (.string s)
 | .pointer a => K (.pointer a)
 | .slice a n c => K (.slice a n c)
 | .map r => K (.map r)
 | .func fn a b => K (.func fn a b)
 | .agg cs => K (.agg cs)
 | .tuple vs => K (.tuple vs)
 | v => K v
inductive LOp where
 | bad
 | mv (x : LArg)
 | pick (c a b : LArg)
 | bin (g : IntKind → Int → Int → Option Value) (x y : LArg)
 | not (x : LArg)
 | ld1 (x : LArg)
 | ldn (n : Nat) (x : LArg)
 | st (n : Nat) (x y : LArg)
 | fa (off : Nat) (x : LArg)
 | ixs (size : Nat) (x i : LArg)
 | ixa (n size : Nat) (x i : LArg)
 | ext (i : Nat) (x : LArg)
 | f1 (off : Nat) (x : LArg)
 | fn (off n : Nat) (x : LArg)
 | len (x : LArg)
 | slen (x : LArg)
 | app (elem size bytes : Nat) (x y : LArg)
 | alloc (t : TypeId) (cs : List Value)
 | callF (f : FuncId) (p : Pth) (args : List LArg)
 | callV (g : LArg) (args : List LArg)
 | gen (o : Oper)
inductive LOps where
 | nil
 | cons (d : Option Pth) (o : LOp) (rest : LOps)
 | gcons (p : Pth) (w : Bool) (d : Option Pth) (o : LOp) (rest : LOps)
inductive LCode where
 | bad
 | skip
 | reg (ops : LOps)
 | drw (ops : LOps) (tab : List (Nat × Option Nat × Option (Pth × Bool) × LOp))
 | seq (a b : LCode)
 | cond (c : LArg) (x y : LCode)
 | block (id : Nat) (b : LCode)
 | loop (b : LCode)
 | exit (id : Nat)
 | ret
 | range (g : LArg) (ps : List Pth) (pp : List Pth) (params : Array Tmp) (assign body : Code) (a b : LCode)
inductive LRes where
 | t (p : Pth)
 | c1 (p : Pth)
 | cn (n : Nat) (p : Pth)
structure LFunc where
 ps : List Pth
 body : LCode
 res : List LRes
inductive LT where
 | e
 | n (g : Option LFunc) (l r : LT)
def a1w (p : Pth) : LT → Option LFunc := Pth.rec (motive := fun _ => LT → Option LFunc)
 (fun f => LT.rec (motive := fun _ => Option LFunc) none (fun v _ _ _ _ => v) f)
 (fun _ ih f => LT.rec (motive := fun _ => Option LFunc) none (fun _ l _ _ _ => ih l) f)
 (fun _ ih f => LT.rec (motive := fun _ => Option LFunc) none (fun _ _ r _ _ => ih r) f) p
def qT {α : Type} (v : LFunc) (p : Pth) : LT → (LT → α) → α := Pth.rec (motive := fun _ => LT → (LT → α) → α)
 (fun f K => LT.rec (motive := fun _ => α) (K (.n (some v) .e .e)) (fun _ l r _ _ => K (.n (some v) l r)) f)
 (fun _ ih f K => LT.rec (motive := fun _ => α) (ih .e fun l => K (.n none l .e)) (fun w l r _ _ => ih l fun l => K (.n w l r)) f)
 (fun _ ih f K => LT.rec (motive := fun _ => α) (ih .e fun r => K (.n none .e r)) (fun w l r _ _ => ih r fun r => K (.n w l r)) f) p
structure LEnv where
 L : Nat
 ps : List Pth
 pp : List Pth
 a : LCode
 b : LCode
def b5K (P : Program) (o : Oper) (ρ : Operand → Value) (H : Heap) : Option (Value × Heap) :=
 if o.op.operands.toList.all (fun x => flat (ρ x)) then
  match gU P (execOp ρ o) with
  | some (.value v) => if flat v then some (v, H) else none
  | _ => none
 else none
def b8L (P : Program) (o : Oper) (ρ : Operand → Value) (H : Heap) : Option (Value × Heap) :=
 let keep (v : Option Value) : Option (Value × Heap) := v.map fun v => (v, H)
 let plain : Option (Value × Heap) := b5K P o ρ H
 match o.op with
 | .move x | .assign x => some (ρ x, H)
 | .pick c a b => match ρ c with | .bool t => some (if t then ρ a else ρ b, H) | _ => none
 | .alloc t => (iF P t).bind fun z => if iL z then pO P H t z else none
 | .box t x => uY P H t (ρ x)
 | .build t parts =>
   let ps := parts.toList.map fun (i, x) => (i, ρ x)
   if (iF P t).any iL && ps.all (fun x => x.2.cells.toList.all oneCell) then
    (P.built t ps).map fun cs => (.agg cs, H)
   else none
 | .buildSlice t len parts =>
   (gQ P t).bind fun elem => (gM P elem).bind fun size => (iF P elem).bind fun z =>
   let ps := parts.toList.map fun (i, x) => (i, ρ x)
   if len == 0 && ps.isEmpty && size != 0 then some (.slice (some ⟨H.length, 0, some 0⟩) 0 size, qG H elem []) else
   if iL z && ps.all (fun x => x.2.cells.toList.all oneCell) && len * size ≤ 2 ^ 24 && len * size != 0 && z.cells.size == size then
    (Instr.fill (fun i => some (i * size, size)) ((Array.range (len * size)).map (z.cells[· % z.cells.size]!)) ps).map fun cs =>
      (.slice (some ⟨H.length, 0, some cs.toList.length⟩) len size, qG H elem cs.toList)
   else none
 | .makeSlice t n c =>
   (gQ P t).bind fun elem => (gM P elem).bind fun size => (mN P elem).bind fun bytes => (iF P elem).bind fun z =>
   match ρ n, ρ c with
   | .int .i64 a, .int .i64 b =>
     if iL z && decide (a ≤ b) && 0 ≤ a && b * (bytes + 1) ≤ (nT : Int) && size != 0 && z.cells.size == size then
      let cs := if size = 1 then List.replicate b.toNat (z.cells[0]!) else (madeCells z.cells (b.toNat * size)).toList
      some (.slice (some ⟨H.length, 0, some cs.length⟩) a.toNat size, qG H elem cs)
     else none
   | _, _ => none
 | .load t a => keep (kQ P H t (ρ a))
 | .store t a x => (pM P H t (ρ a) (ρ x)).map fun H => (undef, H)
 | .nilCheck x => match ρ x with
   | .pointer (some a) => some (.pointer (some a), H)
   | .func (.func f) a b => some (.func (.func f) a b, H)
   | _ => none
 | .fieldAddr s x f => match ρ x with
   | .pointer (some ⟨A, i, some e⟩) => (nJ P s f).bind fun fd => (gM P fd.type).bind fun n => if n == 0 then none else some (.pointer (some ⟨A, i + fd.offset, some e⟩), H)
   | _ => none
 | .indexAddr t x ix => match P.underlying t, ρ x, ρ ix with
   | some (.slice elem), .slice (some ⟨A, i, some e⟩) n _, .int _ j => (gM P elem).bind fun size =>
     if 0 ≤ j && j < n then some (.pointer (some ⟨A, i + j.toNat * size, some e⟩), H) else none
   | some (.array n elem), .pointer (some ⟨A, i, some e⟩), .int _ j => (gM P elem).bind fun size =>
     if 0 ≤ j && j < n then some (.pointer (some ⟨A, i + j.toNat * size, some e⟩), H) else none
   | some (.array n elem), .pointer (some ⟨A, i, none⟩), .int _ j => (gM P elem).bind fun size =>
     if 0 ≤ j && j < n then some (.pointer (some ⟨A, i + j.toNat * size, none⟩), H) else none
   | _, _, _ => none
 | .slice t x lo hi none => if flat (ρ x) then plain else match iS P t with
   | some (n, elem) => keep (a3w P H n elem (ρ x) (lo.map ρ) (hi.map ρ))
   | none => keep (uZ P t (ρ x) (lo.map ρ) (hi.map ρ))
 | .field t x f => if flat (ρ x) then plain else
   match ρ x with
   | .agg cs => (nJ P t f).bind fun fd => match iV P fd.type with
     | some true => (gM P fd.type).map fun n => (.agg (cs.extract fd.offset (fd.offset + n)), H)
     | some false => (cs[fd.offset]?).map fun v => (v, H)
     | none => none
   | _ => none
 | .extract t i => match ρ t with
   | .tuple vs => (vs[i]?).map fun v => (v, H)
   | _ => none
 | .makeFunc fn first captured => match fn with
   | .func f => if (first ++ captured).toList.all (fun x => nR (ρ x)) then some (.func (.func f) (first.map ρ) (captured.map ρ), H) else none
   | _ => none
 | .binOp op t x y _ => match op, ρ x, ρ y with
   | .eql, .slice (some _) _ _, .slice none 0 0 => if ((P.underlying t).map uA) == some true then some (.bool false, H) else none
   | .neq, .slice (some _) _ _, .slice none 0 0 => if ((P.underlying t).map uA) == some true then some (.bool true, H) else none
   | op, .int k a, .int k' b => if k = k' then (match lU op k a b with | some v => some (v, H) | none => plain) else plain
   | .eql, .pointer (some _), .pointer none => if sB P t then some (.bool false, H) else none
   | .neq, .pointer (some _), .pointer none => if sB P t then some (.bool true, H) else none
   | .eql, .pointer (some ⟨A, i, some e⟩), .pointer (some ⟨A', i', some e'⟩) => if sB P t && A == A' && i == i' && e == e' then some (.bool true, H) else none
   | .neq, .pointer (some ⟨A, i, some e⟩), .pointer (some ⟨A', i', some e'⟩) => if sB P t && A == A' && i == i' && e == e' then some (.bool false, H) else none
   | _, _, _ => plain
 | .call c => match c.callee with
   | .builtin .len => if c.args.size == 1 && c.argTypes.size == 1 then
      match (P.underlying (c.argTypes.getD 0 0)), ρ (c.args.getD 0 (.tmp 0)) with
      | some (.slice _), .slice a n k => keep (vJ H (.slice a n k))
      | some .string, .string s => keep (vJ H (.string s))
      | some (.map _ _), .map r => keep (vJ H (.map r))
      | _, _ => none
     else none
   | .builtin .append => if c.args.size == 2 && c.argTypes.size == 2 && ((P.underlying (c.argTypes.getD 1 0)).map oQ) == some true then
      mM P H (c.argTypes.getD 0 0) (ρ (c.args.getD 0 (.tmp 0))) (ρ (c.args.getD 1 (.tmp 0)))
     else none
   | .builtin .copy => if c.args.size == 2 && c.argTypes.size == 2 then a0W P H (c.argTypes.getD 0 0) (ρ (c.args.getD 0 (.tmp 0))) (ρ (c.args.getD 1 (.tmp 0))) else none
   | .builtin .clear => if c.args.size == 1 && c.argTypes.size == 1 then rW P H (c.argTypes.getD 0 0) (ρ (c.args.getD 0 (.tmp 0))) else none
   | .builtin .cap => plain
   | .builtin .unsafeSliceData => if c.args.size == 1 && c.argTypes.size == 1 then match ρ (c.args.getD 0 (.tmp 0)) with
      | .slice (some a) n _ => if n == 0 then none else some (.pointer (some a), H)
      | _ => none
     else none
   | .builtin .unsafeString => if c.args.size == 2 && c.argTypes.size == 2 then uF P H (c.argTypes.getD 0 0) (ρ (c.args.getD 0 (.tmp 0))) (ρ (c.args.getD 1 (.tmp 0))) else none
   | .builtin .max => plain
   | .builtin .min => plain
   | _ => none
 | .unOp op _ x => match op, ρ x with
   | .not, .bool b => some (.bool (!b), H)
   | _, _ => plain
 | .makeMap t r => oK P H t (r.map ρ)
 | .lookup t x k c => keep (oF P H t (ρ x) (ρ k) c)
 | .mapUpdate t m k v => (a0b P H t (ρ m) (ρ k) (ρ v)).map fun H => (undef, H)
 | .convert s t x => if flat (ρ x) && !(kJ P t) then plain else match ρ x with
   | .slice (some ⟨A, i, some e⟩) n _ => if kJ P s && nU P t then keep ((iM H A i e n).bind fun l => (mG l).map .string) else none
   | .string b => if kJ P t && nU P s && b.size ≤ 2 ^ 40 then (gQ P t).bind fun elem => some (.slice (some ⟨H.length, 0, some b.size⟩) b.size 1, b4u H elem (b.data.toList.map fun c => .int .u8 c.toNat)) else none
   | .pointer (some ⟨A, 0, some e⟩) => if a2S P H s t A e then some (.pointer (some ⟨A, 0, some e⟩), H) else none
   | _ => none
 | .index _ _ _ => plain
 | .makeInterface _ _ => plain
 | _ => none
def mU {α : Type} (b : Bool) (no : α) (x : α) : α := Bool.rec (motive := fun _ => α) no x b
def a4B {α : Type} (cs : List α) : Nat → Bool := List.rec (motive := fun _ => Nat → Bool) (fun e => Nat.beq e 0) (fun _ _ ih e => Nat.rec (motive := fun _ => Bool) true (fun m _ => ih m) e) cs
def a2P {α : Type} (cs : List α) : Nat → Bool := List.rec (motive := fun _ => Nat → Bool) (fun e => Nat.beq e 0) (fun _ _ ih e => Nat.rec (motive := fun _ => Bool) false (fun m _ => ih m) e) cs
def a0k {α : Type} (cs : List α) : Nat → Option α := List.rec (motive := fun _ => Nat → Option α) (fun _ => none) (fun v _ ih e => Nat.rec (motive := fun _ => Option α) (some v) (fun m _ => ih m) e) cs
def a1j {α : Type} (cs : List α) : Nat → (List α → Rs) → Rs := List.rec (motive := fun _ => Nat → (List α → Rs) → Rs) (fun n K => Nat.rec (motive := fun _ => Rs) (K []) (fun _ _ => .no) n) (fun v _ ih n K => Nat.rec (motive := fun _ => Rs) (K []) (fun m _ => ih m fun l => K (v :: l)) n) cs
def a9v {α : Type} (cs : List α) : Nat → List α := List.rec (motive := fun _ => Nat → List α) (fun _ => []) (fun v t ih n => Nat.rec (motive := fun _ => List α) (v :: t) (fun m _ => ih m) n) cs
def kIx (k : IntKind) : Nat := IntKind.rec (motive := fun _ => Nat) 0 1 2 3 4 5 6 7 k
def hMv (x : LArg) (f : Fr) (H : Heap) : Rs := nH (lV f x) fun v => .ok v H
def b3A (c a b : LArg) (f : Fr) (H : Heap) : Rs := match lV f c with
 | .bool t => nH (lV f (Bool.rec (motive := fun _ => LArg) b a t)) fun v => .ok v H
 | _ => .no
def oV (v : Option Value) (H : Heap) : Rs := Option.rec (motive := fun _ => Rs) .no (fun v => .th v H) v
def b8o (g : IntKind → Int → Int → Option Value) (k : IntKind) (a : Int) (H : Heap) (y : Value) : Rs := match y with
 | .int k' b => mU (Nat.beq (kIx k) (kIx k')) .no (oV (g k a b) H)
 | _ => .no
def b9e (g : IntKind → Int → Int → Option Value) (x y : LArg) (f : Fr) (H : Heap) : Rs := match lV f x with
 | .int k a => b8o g k a H (lV f y)
 | _ => .no
def c3F (x : LArg) (f : Fr) (H : Heap) : Rs := match lV f x with
 | .bool b => .ok (.bool (Bool.rec (motive := fun _ => Bool) true false b)) H
 | _ => .no
def b6C (b : Option Blk) (i e : Nat) (H : Heap) : Rs := match b with
 | some (.cells cs _ _ lo _) => mU (Nat.ble lo e) .no (mU (a4B cs e) .no (mU (Nat.ble (Nat.succ i) e) .no (Option.rec (motive := fun _ => Rs) .no (fun v => nH v fun v => .ok v H) (a0k cs i))))
 | _ => .no
def b9w (b : Option Blk) (i : Nat) (H : Heap) : Rs := match b with
 | some (.cells cs _ false lo 1) => mU (a4B cs lo) .no (Option.rec (motive := fun _ => Rs) .no (fun v => nH v fun v => .ok v H) (a0k cs i))
 | _ => .no
def b1Q (x : LArg) (f : Fr) (H : Heap) : Rs := match lV f x with
 | .pointer (some ⟨A, i, some e⟩) => b6C (gY H A) i e H
 | .pointer (some ⟨A, i, none⟩) => b9w (gY H A) i H
 | _ => .no
def b7i (b : Option Blk) (n i e : Nat) (H : Heap) : Rs := match b with
 | some (.cells cs _ _ lo _) => mU (Nat.ble lo e) .no (mU (a4B cs e) .no (mU (Nat.ble (Nat.add i n) e) .no (a1j (a9v cs i) n fun l => .ok (.agg ⟨l⟩) H)))
 | _ => .no
def b0H (n : Nat) (x : LArg) (f : Fr) (H : Heap) : Rs := match lV f x with
 | .pointer (some ⟨A, i, some e⟩) => b7i (gY H A) n i e H
 | _ => .no
def stB (b : Option Blk) (n A i e : Nat) (vs : List Value) (H : Heap) : Rs := match b with
 | some (.cells cs ty true lo ver) => mU (a2P vs n) .no (mU (vs.all oneCell) .no (mU (a2P cs e) .no (mU (Nat.ble (Nat.add i n) e) .no (mU (Nat.ble lo e) .no
    (.th undef (hset H A (.cells (iG cs i vs) ty true e ver)))))))
 | _ => .no
def hSt (n : Nat) (x y : LArg) (f : Fr) (H : Heap) : Rs := match lV f x with
 | .pointer (some ⟨A, i, some e⟩) => stB (gY H A) n A i e (lV f y).cells.toList H
 | _ => .no
def hFa (off : Nat) (x : LArg) (f : Fr) (H : Heap) : Rs := match lV f x with
 | .pointer (some ⟨A, i, some e⟩) => jH (Nat.add i off) fun i => .ok (.pointer (some ⟨A, i, some e⟩)) H
 | _ => .no
def ixP (A i e size n : Nat) (H : Heap) (j : Value) : Rs := match j with
 | .int _ (.ofNat j) => mU (Nat.blt j n) .no (jH (Nat.add i (Nat.mul j size)) fun i => .ok (.pointer (some ⟨A, i, some e⟩)) H)
 | _ => .no
def b8I (size : Nat) (x i : LArg) (f : Fr) (H : Heap) : Rs := match lV f x with
 | .slice (some ⟨A, a, some e⟩) n _ => ixP A a e size n H (lV f i)
 | _ => .no
def ixG (A i size n : Nat) (H : Heap) (j : Value) : Rs := match j with
 | .int _ (.ofNat j) => mU (Nat.blt j n) .no (jH (Nat.add i (Nat.mul j size)) fun i => .ok (.pointer (some ⟨A, i, none⟩)) H)
 | _ => .no
def c0c (n size : Nat) (x i : LArg) (f : Fr) (H : Heap) : Rs := match lV f x with
 | .pointer (some ⟨A, a, some e⟩) => ixP A a e size n H (lV f i)
 | .pointer (some ⟨A, a, none⟩) => ixG A a size n H (lV f i)
 | _ => .no
def okV (v : Option Value) (H : Heap) : Rs := Option.rec (motive := fun _ => Rs) .no (fun v => nH v fun v => .ok v H) v
def b9L (i : Nat) (x : LArg) (f : Fr) (H : Heap) : Rs := match lV f x with
 | .tuple ⟨vs⟩ => okV (a0k vs i) H
 | _ => .no
def hF1 (off : Nat) (x : LArg) (f : Fr) (H : Heap) : Rs := match lV f x with
 | .agg ⟨cs⟩ => okV (a0k cs off) H
 | _ => .no
def hFn (off n : Nat) (x : LArg) (f : Fr) (H : Heap) : Rs := match lV f x with
 | .agg ⟨cs⟩ => a1j (a9v cs off) n fun l => .ok (.agg ⟨l⟩) H
 | _ => .no
def b8O (x : LArg) (f : Fr) (H : Heap) : Rs := match lV f x with
 | .slice _ n _ => .th (goInt n) H
 | _ => .no
def b2k (x : LArg) (f : Fr) (H : Heap) : Rs := match lV f x with
 | .string s => .th (goInt s.size) H
 | _ => .no
def c0Y (b : Option Blk) (elem size bytes A i e k : Nat) (n : Nat) (l : List Value) (P : Program) (H : Heap) : Rs := match b with
 | some (.cells cs ty true lo ver) => mU (Bool.rec (motive := fun _ => Bool) (gM P ty == some size) true (Nat.beq ty elem)) .no (mU (a2P cs e) .no (mU (Nat.ble lo e) .no
    (mU (Nat.beq (Nat.add i (Nat.mul k size)) e)
      (mU (Nat.beq n 0) (mU (Nat.ble (Nat.add i (Nat.mul (Nat.add k n) size)) e) .no (.th (.slice (some ⟨A, i, some e⟩) (k + n) size) (hset H A (.cells (iG cs (i + k * size) l) ty true e ver)))) .no)
      (mU (Nat.ble (Nat.mul (Nat.add k n) (Nat.succ bytes)) nT) .no (.th (.slice (some ⟨A, i, some (e + l.length)⟩) (k + n) size) (hset H A (.cells (a3r cs l) ty true lo (Bool.rec (motive := fun _ => Nat) 2 ver (Nat.beq ty elem)))))))))
 | _ => .no
def c2B (P : Program) (elem size bytes : Nat) (s : Value) (H : Heap) (n : Nat) (l : List Value) : Rs := match s with
 | .slice none k c => mU (Nat.beq k 0) .no (mU (Nat.beq c 0) .no (mU (Nat.ble (Nat.mul n (Nat.succ bytes)) nT) .no (mU (Nat.beq n 0) (.th (.slice (some ⟨H.length, 0, some l.length⟩) n size) (qG H elem l)) (.ok (.slice none 0 0) H))))
 | .slice (some ⟨A, i, some e⟩) k _ => c0Y (gY H A) elem size bytes A i e k n l P H
 | _ => .no
def b9m (P : Program) (elem size bytes : Nat) (x y : LArg) (f : Fr) (H : Heap) : Rs := match yH H size (lV f y) with
 | some (n, l) => c2B P elem size bytes (lV f x) H n l
 | none => .no
def c0r (t : TypeId) (cs : List Value) (_ : Fr) (H : Heap) : Rs := .th (.pointer (some ⟨H.length, 0, some cs.length⟩)) (qG H t cs)
def evF (f : Fr) : Operand → Value
 | .tmp t => mX (jZ t) f
 | .const v => v
 | .global g => .pointer (some ⟨g, 0, none⟩)
 | .func k => .func (.func k) #[] #[]
def c4a (P : Program) (o : Oper) (f : Fr) (H : Heap) : Rs := match b8L P o (evF f) H with
 | some (v, H1) => .th v H1
 | none => .no
def a2D {α : Type} (f : Fr) (l : List LArg) : (List Value → α) → α := List.rec (motive := fun _ => (List Value → α) → α) (fun K => K []) (fun x _ ih K => nH (lV f x) fun v => ih fun l => K (v :: l)) l
structure Calls' where
 fn : Pth → FuncId → List Value → Heap → Rs
 rd : Nat → List Value → Heap → Rs
def b9h (C : Calls') (k : FuncId) (p : Pth) (args : List LArg) (f : Fr) (H : Heap) : Rs := a2D f args fun l => C.fn p k l H
def a6T (C : Calls') (l : List Value) (H : Heap) (g : Value) : Rs := match g with
 | .func (.func k) ⟨a⟩ ⟨b⟩ => jH k fun k => kY (jZ k) fun p => C.fn p k (a3r a (a3r l b)) H
 | .func (.yield L) _ _ => C.rd L l H
 | _ => .no
def c0b (C : Calls') (g : LArg) (args : List LArg) (f : Fr) (H : Heap) : Rs := a2D f args fun l => a6T C l H (lV f g)
def c3W (_ : Fr) (_ : Heap) : Rs := .no
def opF (P : Program) (C : Calls') (o : LOp) : Fr → Heap → Rs :=
 LOp.rec (motive := fun _ => Fr → Heap → Rs) c3W hMv b3A b9e c3F b1Q b0H hSt hFa b8I c0c b9L hF1 hFn b8O b2k (b9m P) c0r (b9h C) (c0b C) (c4a P) o
inductive Rf where
 | no
 | ok (f : Fr) (H : Heap)
def tH {α : Type} (d : Option Pth) (v : Value) (f : Fr) (K : Fr → α) : α := Option.rec (motive := fun _ => α) (K f) (fun p => oO v p f K) d
def a9B {α : Type} (no : α) (d : Option Pth) (f : Fr) (K : Fr → Heap → α) (r : Rs) : α :=
 Rs.rec (motive := fun _ => α) no (fun v H => tH d v f fun f => K f H) (fun v H => wW v fun v => mQ H fun H => tH d v f fun f => K f H) r
def isB (v : Value) (w : Bool) : Bool := match v with
 | .bool b => Bool.rec (motive := fun _ => Bool) (Bool.rec (motive := fun _ => Bool) true false w) w b
 | _ => false
def xJ (P : Program) (C : Calls') (ops : LOps) : Fr → Heap → Rf := LOps.rec (motive := fun _ => Fr → Heap → Rf)
 (fun f H => .ok f H)
 (fun d o _ ih f H => a9B .no d f ih (opF P C o f H))
 (fun p w d o _ ih f H => mU (isB (mX p f) w) (tH d undef f fun f => ih f H) (a9B .no d f ih (opF P C o f H))) ops
inductive Rt where
 | no
 | ok (tr : List (Fr × Heap × Value)) (f : Fr) (H : Heap)
def a9z (tr : List (Fr × Heap × Value)) (f0 : Fr) (H0 : Heap) (d : Option Pth) (K : List (Fr × Heap × Value) → Fr → Heap → Rt) (r : Rs) : Rt :=
 Rs.rec (motive := fun _ => Rt) .no (fun v H => tH d v f0 fun f => K ((f0, H0, v) :: tr) f H) (fun v H => wW v fun v => mQ H fun H => tH d v f0 fun f => K ((f0, H0, v) :: tr) f H) r
def pW (P : Program) (C : Calls') (ops : LOps) : List (Fr × Heap × Value) → Fr → Heap → Rt := LOps.rec (motive := fun _ => List (Fr × Heap × Value) → Fr → Heap → Rt)
 (fun tr f H => .ok tr f H)
 (fun d o _ ih tr f H => a9z tr f H d ih (opF P C o f H))
 (fun p w d o _ ih tr f H => mU (isB (mX p f) w) (tH d undef f fun f1 => ih ((f, H, undef) :: tr) f1 H) (a9z tr f H d ih (opF P C o f H))) ops
def b6r (v : Value) (r : Rs) : Bool := Rs.rec (motive := fun _ => Bool) false (fun w _ => veq w v) (fun w _ => veq w v) r
def b2Y (f : Fr) (g : Option (Pth × Bool)) : Bool := match g with
 | none => true
 | some (p, w) => isB (mX p f) w
def b4j (P : Program) (C : Calls') (tr : List (Fr × Heap × Value)) (H1 : Heap) (x : Nat × Option Nat × Option (Pth × Bool) × LOp) : Bool :=
 match a0k tr x.1 with
 | some (f, _, v) => mU (b2Y f x.2.2.1) true (match x.2.1 with
   | none => b6r v (opF P C x.2.2.2 f H1)
   | some m => match a0k tr m with
     | some (_, H, _) => b6r v (opF P C x.2.2.2 f H)
     | none => false)
 | none => false
def b4F {α : Type} (p : α → Bool) (l : List α) : Bool := List.rec (motive := fun _ => Bool) true (fun x _ ih => mU (p x) false ih) l
inductive Rc where
 | no
 | ok (e : Ex) (f : Fr) (H : Heap)
def c2J (r : Rf) : Rc := Rf.rec (motive := fun _ => Rc) .no (fun f H => .ok .normal f H) r
def b7R (P : Program) (C : Calls') (tab : List (Nat × Option Nat × Option (Pth × Bool) × LOp)) (r : Rt) : Rc := Rt.rec (motive := fun _ => Rc) .no (fun tr f H => mU (b4F (b4j P C tr H) tab) .no (.ok .normal f H)) r
def oB {α : Type} (no : α) (l : List Value) : List Pth → Fr → (Fr → α) → α := List.rec (motive := fun _ => List Pth → Fr → (Fr → α) → α) (fun _ f K => K f)
 (fun v _ ih ps f K => List.rec (motive := fun _ => α) no (fun p ps _ => oO v p f fun f => ih ps f K) ps) l
def a2W (H : Heap) (f : Fr) (r : LRes) : Rs := LRes.rec (motive := fun _ => Rs) (fun p => nH (mX p f) fun v => .ok v H) (fun p => b1Q (.t p) f H) (fun n p => b0H n (.t p) f H) r
def b2e (H : Heap) (f : Fr) (l : List LRes) : (List Value → Rs) → Rs := List.rec (motive := fun _ => (List Value → Rs) → Rs) (fun K => K []) (fun r _ ih K => Rs.rec (motive := fun _ => Rs) .no (fun v _ => ih fun l => K (v :: l)) (fun _ _ => .no) (a2W H f r)) l
def noT (v : Value) : Bool := match v with | .tuple _ => false | _ => true
def a5z (l : List LRes) (f : Fr) (H : Heap) : Rs := match l with
 | [r] => a2W H f r
 | l => b2e H f l fun vs => mU (b4F noT vs) .no (.ok (.tuple ⟨vs⟩) H)
def c0k (l : List LRes) (r : Rc) : Rs := match r with
 | .ok .normal f H => a5z l f H
 | .ok .ret f H => a5z l f H
 | _ => .no
abbrev oW := List LEnv → LCode → Fr → Heap → Rc
def c0t (P : Program) (k : FuncId) (args : List Value) (H : Heap) : Rs := match pA P k args H with
 | some (v, H1) => .th v H1
 | none => .no
def nI (T : LT) (ih : oW) (E : List LEnv) (p : Pth) (args : List Value) (H : Heap) : Rs := match a1w p T with
 | some g => oB .no args g.ps .e fun f => c0k g.res (ih E g.body f H)
 | none => .no
def b3c (P : Program) (T : LT) (ih : oW) (E : List LEnv) (p : Pth) (k : FuncId) (args : List Value) (H : Heap) : Rs := match a1w p T with
 | some g => oB .no args g.ps .e fun f => c0k g.res (ih E g.body f H)
 | none => c0t P k args H
def b2C (E : List LEnv) (L : Nat) : Option LEnv := List.rec (motive := fun _ => Option LEnv) none (fun e _ ih => mU (Nat.beq e.L L) ih (some e)) E
def b8a (e : Ex) : Option Code := match e with | .normal => none | .ret => some .ret | .exit id => some (.exit id)
def a0V (L : Nat) (e : Ex) (H : Heap) : Rs := match gY H L with
 | some (.loop ⟨_, _, fn, tmps, ps, a, b, d⟩) => match b8a e with
   | none => .th (.bool true) (hset H L (.loop ⟨.ready, none, fn, tmps, ps, a, b, d⟩))
   | some c => .th (.bool false) (hset H L (.loop ⟨.done, some c, fn, tmps, ps, a, b, d⟩))
 | _ => .no
def a9V (L : Nat) (r : Rc) : Rs := match r with
 | .ok e _ H => a0V L e H
 | .no => .no
def yG (ih : oW) (E : List LEnv) (en : LEnv) (f : Fr) (H : Heap) : Rs := match gY H en.L with
 | some (.loop ⟨.ready, p, fn, tmps, ps, a, b, d⟩) => mQ (hset H en.L (.loop ⟨.busy, p, fn, tmps, ps, a, b, d⟩)) fun H => a9V en.L (ih E en.b f H)
 | _ => .no
def rO (ih : oW) (E : List LEnv) (en : LEnv) (r : Rc) : Rs := match r with
 | .ok .normal f H => yG ih E en f H
 | _ => .no
def a6P (ih : oW) (E : List LEnv) (L : Nat) (args : List Value) (H : Heap) : Rs := match b2C E L with
 | some en => match gY H L with
   | some (.loop ⟨.ready, _, _, ⟨tmps⟩, ps, _, _, _⟩) => mU (a2P args ps.size) .no (oB .no tmps en.ps .e fun f => oB .no args en.pp f fun f => rO ih E en (ih E en.a f H))
   | _ => .no
 | none => .no
def yI (P : Program) (T : LT) (ih : oW) (E : List LEnv) : Calls' := ⟨b3c P T ih E, a6P ih E⟩
def c3H (_ : Fr) (_ : Heap) : Rc := .no
def c1q (f : Fr) (H : Heap) : Rc := .ok .normal f H
def c3w (P : Program) (T : LT) (ih : oW) (E : List LEnv) (ops : LOps) (f : Fr) (H : Heap) : Rc := c2J (xJ P (yI P T ih E) ops f H)
def c3r (P : Program) (T : LT) (ih : oW) (E : List LEnv) (ops : LOps) (tab : List (Nat × Option Nat × Option (Pth × Bool) × LOp)) (f : Fr) (H : Heap) : Rc := b7R P (yI P T ih E) tab (pW P (yI P T ih E) ops [] f H)
def b6P (ih : oW) (E : List LEnv) (b : LCode) (r : Rc) : Rc := match r with
 | .ok .normal f H => ih E b f H
 | r => r
def c3O (ih : oW) (E : List LEnv) (a b : LCode) (_ _ : Fr → Heap → Rc) (f : Fr) (H : Heap) : Rc := b6P ih E b (ih E a f H)
def b2z (ih : oW) (E : List LEnv) (c : LArg) (x y : LCode) (_ _ : Fr → Heap → Rc) (f : Fr) (H : Heap) : Rc := match lV f c with
 | .bool t => ih E (Bool.rec (motive := fun _ => LCode) y x t) f H
 | _ => .no
def c0L (id : Nat) (r : Rc) : Rc := match r with
 | .ok (.exit i) f H => .ok (Bool.rec (motive := fun _ => Ex) (.exit i) .normal (Nat.beq i id)) f H
 | r => r
def b9X (ih : oW) (E : List LEnv) (id : Nat) (b : LCode) (_ : Fr → Heap → Rc) (f : Fr) (H : Heap) : Rc := c0L id (ih E b f H)
def c2g (ih : oW) (E : List LEnv) (b : LCode) (_ : Fr → Heap → Rc) (f : Fr) (H : Heap) : Rc := b6P ih E (.loop b) (ih E b f H)
def c2F (id : Nat) (f : Fr) (H : Heap) : Rc := .ok (.exit id) f H
def c3m (f : Fr) (H : Heap) : Rc := .ok .ret f H
def frL {α : Type} (f : Fr) (ps : List Pth) : (List Value → α) → α := List.rec (motive := fun _ => (List Value → α) → α) (fun K => K []) (fun p _ ih K => nH (mX p f) fun v => ih fun l => K (v :: l)) ps
def sL (L : Nat) (f : Fr) (H : Heap) : Rc := match gY H L with
 | some (.loop ⟨.ready, none, fn, tmps, ps, a, b, d⟩) => mQ (hset H L (.loop ⟨.exhausted, none, fn, tmps, ps, a, b, d⟩)) fun H => .ok .normal f H
 | some (.loop ⟨.done, none, fn, tmps, ps, a, b, d⟩) => mQ (hset H L (.loop ⟨.exhausted, none, fn, tmps, ps, a, b, d⟩)) fun H => .ok .normal f H
 | some (.loop ⟨.done, some .ret, fn, tmps, ps, a, b, d⟩) => mQ (hset H L (.loop ⟨.exhausted, some .ret, fn, tmps, ps, a, b, d⟩)) fun H => .ok .ret f H
 | some (.loop ⟨.done, some (.exit id), fn, tmps, ps, a, b, d⟩) => mQ (hset H L (.loop ⟨.exhausted, some (.exit id), fn, tmps, ps, a, b, d⟩)) fun H => .ok (.exit id) f H
 | _ => .no
def b0Z (L : Nat) (f : Fr) (r : Rs) : Rc := match r with
 | .no => .no
 | .ok _ H => sL L f H
 | .th _ H => mQ H fun H => sL L f H
def a8Q (T : LT) (ih : oW) (E : List LEnv) (f : Fr) (L : Nat) (k : FuncId) (args : List Value) (H : Heap) : Rc := kY (jZ k) fun p => b0Z L f (nI T ih E p args H)
def a7W (T : LT) (ih : oW) (E : List LEnv) (g : LArg) (ps pp : List Pth) (params : Array Tmp) (assign body : Code) (a b : LCode) (_ _ : Fr → Heap → Rc) (f : Fr) (H : Heap) : Rc := match lV f g with
 | .func (.func k) ⟨x⟩ ⟨y⟩ => jH H.length fun L => frL f ps fun l => mQ (H.cons (.loop ⟨.ready, none, 0, ⟨l⟩, params, assign, body, 0⟩)) fun H1 =>
    jH k fun k => a8Q T ih (⟨L, ps, pp, a, b⟩ :: E) f L k (a3r x (.func (.yield L) #[] #[] :: y)) H1
 | _ => .no
def a9e (P : Program) (T : LT) (ih : oW) (E : List LEnv) (c : LCode) : Fr → Heap → Rc :=
 LCode.rec (motive := fun _ => Fr → Heap → Rc) c3H c1q (c3w P T ih E) (c3r P T ih E) (c3O ih E) (b2z ih E) (b9X ih E) (c2g ih E) c2F c3m (a7W T ih E) c
def exF (P : Program) (T : LT) (n : Nat) : oW := Nat.rec (motive := fun _ => oW) (fun _ _ _ _ => .no) (fun _ ih => a9e P T ih) n
section
variable {α : Type}
def lA (x : Operand) (K : LArg → α) : α := match x with
 | .tmp t => kY (jZ t) fun p => K (.t p)
 | .const v => K (.c v)
 | .global g => K (.c (.pointer (some ⟨g, 0, none⟩)))
 | .func k => K (.c (.func (.func k) #[] #[]))
def a3s (l : List Operand) : (List LArg → α) → α := List.rec (motive := fun _ => (List LArg → α) → α) (fun K => K []) (fun x _ ih K => lA x fun x => ih fun l => K (x :: l)) l
def a1T (o : Option Nat) (d : α) (K : Nat → α) : α := match o with
 | some n => jH n K
 | none => d
def c4b (k : IntKind) (a b : Int) : Option Value := some (.int k (uJ k (b5N a b)))
def c3q (k : IntKind) (a b : Int) : Option Value := some (.int k (uJ k (b7w a b)))
def c0U (a b : Int) : Int := match a, b with
 | .ofNat a, .ofNat b => .ofNat (Nat.mul a b)
 | a, b => a * b
def c1R (k : IntKind) (a b : Int) : Option Value := some (.int k (uJ k (c0U a b)))
def c1h (a b : Int) : Int := match a, b with
 | .ofNat a, .ofNat b => .ofNat (Nat.div a b)
 | a, b => a.tdiv b
def c0W (a b : Int) : Int := match a, b with
 | .ofNat a, .ofNat b => .ofNat (Nat.mod a b)
 | a, b => a.tmod b
def b6z (k : IntKind) (a b : Int) : Option Value := match eqI b 0 with | true => none | false => some (.int k (uJ k (c1h a b)))
def b6L (k : IntKind) (a b : Int) : Option Value := match eqI b 0 with | true => none | false => some (.int k (c0W a b))
def c3D (_ : IntKind) (a b : Int) : Option Value := some (.bool (eqI a b))
def c3T (_ : IntKind) (a b : Int) : Option Value := some (.bool (!eqI a b))
def c3p (_ : IntKind) (a b : Int) : Option Value := some (.bool (ltI a b))
def c3K (_ : IntKind) (a b : Int) : Option Value := some (.bool (!ltI b a))
def c3N (_ : IntKind) (a b : Int) : Option Value := some (.bool (ltI b a))
def c3E (_ : IntKind) (a b : Int) : Option Value := some (.bool (!ltI a b))
def b7B (op : BinOp) : Option (IntKind → Int → Int → Option Value) := match op with
 | .add => some c4b
 | .sub => some c3q
 | .mul => some c1R
 | .quo => some b6z
 | .rem => some b6L
 | .eql => some c3D
 | .neq => some c3T
 | .lss => some c3p
 | .leq => some c3K
 | .gtr => some c3N
 | .geq => some c3E
 | _ => none
def b9B (d : Option TypeDesc) : Bool := match d with | some (.int _) => true | _ => false
def c4d (P : Program) (s : TypeId) (f : Nat) (d : α) (K1 : Nat → α) (Kn : Nat → Nat → α) : α := match nJ P s f with
 | some fd => jH fd.offset fun off => match iV P fd.type with
   | some true => a1T (gM P fd.type) d fun n => Kn off n
   | some false => K1 off
   | none => d
 | none => d
def b4U (P : Program) (o : Oper) (c : Call) (K : LOp → α) : α := match c.callee with
 | .value (.func k) => kY (jZ k) fun p => a3s c.args.toList fun l => K (.callF k p l)
 | .value g => lA g fun g => a3s c.args.toList fun l => K (.callV g l)
 | .builtin .len => mU (c.args.size == 1 && c.argTypes.size == 1) (K (.gen o)) (match P.underlying (c.argTypes.getD 0 0) with
    | some (.slice _) => lA (c.args.getD 0 (.tmp 0)) fun x => K (.len x)
    | some .string => lA (c.args.getD 0 (.tmp 0)) fun x => K (.slen x)
    | _ => K (.gen o))
 | .builtin .append => mU (c.args.size == 2 && c.argTypes.size == 2 && ((P.underlying (c.argTypes.getD 1 0)).map oQ) == some true) (K (.gen o))
    (match gQ P (c.argTypes.getD 0 0) with
     | some elem => a1T (gM P elem) (K (.gen o)) fun size => a1T (mN P elem) (K (.gen o)) fun bytes => match iF P elem with
       | some z => mU (z.cells.size == size && size != 0) (K (.gen o)) (jH elem fun elem => lA (c.args.getD 0 (.tmp 0)) fun x => lA (c.args.getD 1 (.tmp 0)) fun y => K (.app elem size bytes x y))
       | none => K (.gen o)
     | none => K (.gen o))
 | _ => K (.gen o)
def c1i (P : Program) (o : Oper) (K : LOp → α) : α := match o.op with
 | .move x => lA x fun x => K (.mv x)
 | .assign x => lA x fun x => K (.mv x)
 | .pick c a b => lA c fun c => lA a fun a => lA b fun b => K (.pick c a b)
 | .binOp op t x y _ => mU (b9B (P.underlying t)) (K (.gen o)) (match b7B op with
   | some g => lA x fun x => lA y fun y => K (.bin g x y)
   | none => K (.gen o))
 | .load t x => match iV P t with
   | some true => a1T (gM P t) (K (.gen o)) fun n => lA x fun x => K (.ldn n x)
   | some false => lA x fun x => K (.ld1 x)
   | none => K (.gen o)
 | .store t x y => a1T (gM P t) (K (.gen o)) fun n => lA x fun x => lA y fun y => K (.st n x y)
 | .fieldAddr s x f => match nJ P s f with
   | some fd => match gM P fd.type with
     | some 0 => K (.gen o)
     | some _ => jH fd.offset fun off => lA x fun x => K (.fa off x)
     | none => K (.gen o)
   | none => K (.gen o)
 | .indexAddr t x i => match P.underlying t with
   | some (.slice elem) => a1T (gM P elem) (K (.gen o)) fun size => lA x fun x => lA i fun i => K (.ixs size x i)
   | some (.array n elem) => a1T (gM P elem) (K (.gen o)) fun size => lA x fun x => lA i fun i => K (.ixa n size x i)
   | _ => K (.gen o)
 | .extract t i => jH i fun i => lA t fun t => K (.ext i t)
 | .call c => b4U P o c K
 | _ => K (.gen o)
def wI (P : Program) (o : Oper) (K : LOp → α) : α := mU (o.op.operands.toList.all hP) (K .bad) (c1i P o K)
def a6a (k : Nat) (d : Option Tmp) (no : α) (K : Option Pth → α) : α := match d with
 | none => K none
 | some t => mU (Nat.blt t k) no (kY (jZ t) fun p => K (some p))
def sY (P : Program) (k : Nat) (ops : Array Oper) (l : List Oper) : (LOps → α) → α → α := List.rec (motive := fun _ => (LOps → α) → α → α) (fun K _ => K .nil)
 (fun o _ ih K no => a6a k o.dst no fun d => wI P o fun o' => match o.guard with
   | none => ih (fun r => K (.cons d o' r)) no
   | some (j, w) => match (ops[j]?).bind (·.dst) with
     | some t => mU (Nat.blt t k) no (kY (jZ t) fun p => xQ w fun w => ih (fun r => K (.gcons p w d o' r)) no)
     | none => no) l
def loG (k : Nat) (ops : Array Oper) (g : Option (Nat × Bool)) (no : α) (K : Option (Pth × Bool) → α) : α := match g with
 | none => K none
 | some (j, w) => match (ops[j]?).bind (·.dst) with
   | some t => mU (Nat.blt t k) no (kY (jZ t) fun p => xQ w fun w => K (some (p, w)))
   | none => no
def sF (P : Program) (k : Nat) (ops : Array Oper) (N : Nat) (tab : List (Nat × Nat)) : (List (Nat × Option Nat × Option (Pth × Bool) × LOp) → α) → α → α := List.rec (motive := fun _ => (List (Nat × Option Nat × Option (Pth × Bool) × LOp) → α) → α → α) (fun K _ => K [])
 (fun x _ ih K no => match ops[x.1]? with
   | some o => loG k ops o.guard no fun g => wI P o fun o' => jH (N - 1 - x.1) fun i => mU (Nat.blt x.2 N) (ih (fun l => K ((i, none, g, o') :: l)) no) (jH (N - 1 - x.2) fun m => ih (fun l => K ((i, some m, g, o') :: l)) no)
   | none => no) tab
def b3D (k : Nat) : (List Pth → α) → α := Nat.rec (motive := fun _ => (List Pth → α) → α) (fun K => K []) (fun n ih K => kY (jZ n) fun p => ih fun l => K (p :: l)) k
def b9F {β : Type} (l : List β) : List β → (List β → α) → α := List.rec (motive := fun _ => List β → (List β → α) → α) (fun a K => K a) (fun x _ ih a K => ih (x :: a) K) l
def b1E (k : Nat) (K : List Pth → α) : α := b3D k fun l => b9F l [] K
def vL (k : Nat) (l : List Tmp) : (List Pth → α) → α → α := List.rec (motive := fun _ => (List Pth → α) → α → α) (fun K _ => K []) (fun t _ ih K no => mU (Nat.blt t k) no (kY (jZ t) fun p => ih (fun l => K (p :: l)) no)) l
def mF (P : Program) (k : Nat) (c : Code) : (LCode → α) → α := Code.rec (motive := fun _ => (LCode → α) → α)
 (fun K => K .skip)
 (fun _ ops d K => Bool.rec (motive := fun _ => α) (sY P k ops ops.toList (fun l => K (.reg l)) (K .bad))
   (match mC P ops with
     | some [] => sY P k ops ops.toList (fun l => K (.reg l)) (K .bad)
     | some tab => sY P k ops ops.toList (fun l => sF P k ops ops.size tab (fun t => K (.drw l t)) (K .bad)) (K .bad)
     | none => K .bad) d)
 (fun _ _ iha ihb K => iha fun a => ihb fun b => K (.seq a b))
 (fun c _ _ ihx ihy K => mU (hP c) (K .bad) (lA c fun c => ihx fun x => ihy fun y => K (.cond c x y)))
 (fun id _ ih K => jH id fun id => ih fun b => K (.block id b))
 (fun _ ih K => ih fun b => K (.loop b))
 (fun g ps assign body iha ihb K => mU (hP g) (K .bad) (lA g fun g' => b1E k fun pp => vL k ps.toList (fun q => iha fun a => ihb fun b => K (.range g' pp q ps assign body a b)) (K .bad)))
 (fun id K => jH id fun id => K (.exit id))
 (fun _ _ K => K .bad)
 (fun _ K => K .skip)
 (fun _ K => K .bad)
 (fun K => K .ret)
 (fun _ K => K .bad) c
def zJ (P : Program) (l : List ResultVar) : (List LRes → α) → α → α := List.rec (motive := fun _ => (List LRes → α) → α → α) (fun K _ => K [])
 (fun r _ ih K no => match r with
   | .tmp t => kY (jZ t) fun p => ih (fun l => K (.t p :: l)) no
   | .cell a t => match iV P t with
     | some true => a1T (gM P t) no fun n => kY (jZ a) fun p => ih (fun l => K (.cn n p :: l)) no
     | some false => kY (jZ a) fun p => ih (fun l => K (.c1 p :: l)) no
     | none => no) l
def a1H (P : Program) (f : FuncId) (no : α) (K : LFunc → α) : α := match P.funcs[f]? with
 | some fn => match fn.body with
   | some c => mU (fn.name == "runtime.NumGoroutine") (zJ P fn.results.toList (fun res => b1E fn.ntmps fun ps => mF P fn.ntmps c fun b => K ⟨ps, b, res⟩) no) no
   | none => no
 | none => no
def tE (P : Program) (fs : List FuncId) : LT → (LT → α) → α := List.rec (motive := fun _ => LT → (LT → α) → α) (fun T K => K T)
 (fun f _ ih T K => a1H P f (ih T K) fun g => kY (jZ f) fun p => qT g p T fun T => ih T K) fs
end
end
end Go.Ds
namespace Go.Ds
section
variable {α : Type}
theorem tR (f k : Nat) : a4c (f + 1) (k + 1) = if k % 2 = 0 then .l (a4c f (k / 2)) else .r (a4c f (k / 2)) := by
 show Bool.rec (motive := fun _ => Pth) (.r (a4c f (k / 2))) (.l (a4c f (k / 2))) (Nat.beq (k % 2) 0) = _
 by_cases h : k % 2 = 0
 ·rw [if_pos h, h]; rfl
 ·rw [if_neg h]
  have : Nat.beq (k % 2) 0 = false := fJ.2 fun e => h (dL e)
  rw [this]
theorem a2M (f : Nat) : a4c f 0 = .z := by cases f <;> rfl
theorem a1G : ∀ (f g a b : Nat), a ≤ f → b ≤ g → a4c f a = a4c g b → a = b
 | _, _, 0, 0, _, _, _ => rfl
 | 0, _, a + 1, _, h, _, _ => by omega
 | _, 0, _, b + 1, _, h, _ => by omega
 | f, g + 1, 0, b + 1, _, _, h => by
   rw [a2M, tR] at h
   split at h <;> cases h
 | f + 1, g, a + 1, 0, _, _, h => by
   rw [a2M, tR] at h
   split at h <;> cases h
 | f + 1, g + 1, a + 1, b + 1, ha, hb, h => by
   rw [tR, tR] at h
   by_cases h1 : a % 2 = 0
   ·rw [if_pos h1] at h
    by_cases h2 : b % 2 = 0
    ·rw [if_pos h2] at h
     injection h with h
     have := a1G f g (a / 2) (b / 2) (by omega) (by omega) h
     omega
    ·rw [if_neg h2] at h; cases h
   ·rw [if_neg h1] at h
    by_cases h2 : b % 2 = 0
    ·rw [if_pos h2] at h; cases h
    ·rw [if_neg h2] at h
     injection h with h
     have := a1G f g (a / 2) (b / 2) (by omega) (by omega) h
     omega
theorem a9A {a b : Nat} (h : jZ a = jZ b) : a = b := a1G _ _ _ _ (dc _) (dc _) h
theorem kU (p : Pth) (K : Pth → α) : kY p K = K p := by
 induction p generalizing K with
 | z => rfl
 | l p ih => exact ih _
 | r p ih => exact ih _
theorem mA (v : Value) (K : Value → α) : nH v K = K v := by cases v <;> rfl
theorem rX (v : Value) (p : Pth) (f : Fr) (K : Fr → α) : oO v p f K = K (oO v p f fun f => f) := by
 induction p generalizing f α with
 | z => cases f <;> rfl
 | l p ih =>
   cases f with
   | e =>
     show oO v p .e (fun l => K (.n undef l .e)) = K (oO v p .e fun l => .n undef l .e)
     rw [ih, ih (K := fun l => Fr.n undef l .e)]
   | n w l r =>
     show oO v p l (fun l => K (.n w l r)) = K (oO v p l fun l => .n w l r)
     rw [ih, ih (K := fun l => Fr.n w l r)]
 | r p ih =>
   cases f with
   | e =>
     show oO v p .e (fun l => K (.n undef .e l)) = K (oO v p .e fun l => .n undef .e l)
     rw [ih, ih (K := fun l => Fr.n undef .e l)]
   | n w l r =>
     show oO v p r (fun r => K (.n w l r)) = K (oO v p r fun r => .n w l r)
     rw [ih, ih (K := fun r => Fr.n w l r)]
theorem sW (p : Pth) : mX p .e = undef := by
 cases p <;> rfl
theorem b1v (v : Value) (p q : Pth) (f : Fr) : (q = p → mX q (oO v p f fun f => f) = v) ∧ (q ≠ p → mX q (oO v p f fun f => f) = mX q f) := by
 induction p generalizing f q with
 | z =>
   refine ⟨fun h => ?_, fun h => ?_⟩
   ·subst h; cases f <;> rfl
   ·cases q with
    | z => exact absurd rfl h
    | l q =>
      cases f with
      | e => show mX q .e = undef; exact sW q
      | n => rfl
    | r q =>
      cases f with
      | e => show mX q .e = undef; exact sW q
      | n => rfl
 | l p ih =>
   have h1 : ∀ f, oO v (.l p) f (fun f => f) = match f with | .e => .n undef (oO v p .e fun f => f) .e | .n w l r => .n w (oO v p l fun f => f) r := fun f => by
    cases f with
    | e => exact rX v p .e fun l => Fr.n undef l .e
    | n w l r => exact rX v p l fun l => Fr.n w l r
   rw [h1]
   cases q with
   | z => exact ⟨fun h => (nomatch h), fun _ => by cases f <;> rfl⟩
   | r q =>
     refine ⟨fun h => (nomatch h), fun _ => ?_⟩
     cases f with
     | e => show mX q .e = undef; exact sW q
     | n => rfl
   | l q =>
     refine ⟨fun h => ?_, fun h => ?_⟩
     ·injection h with h
      cases f with
      | e => exact (ih q .e).1 h
      | n w l r => exact (ih q l).1 h
     ·have h : q ≠ p := fun e => h (by rw [e])
      cases f with
      | e => show mX q (oO v p .e fun f => f) = undef; rw [(ih q .e).2 h, sW]
      | n w l r => exact (ih q l).2 h
 | r p ih =>
   have h1 : ∀ f, oO v (.r p) f (fun f => f) = match f with | .e => .n undef .e (oO v p .e fun f => f) | .n w l r => .n w l (oO v p r fun f => f) := fun f => by
    cases f with
    | e => exact rX v p .e fun l => Fr.n undef .e l
    | n w l r => exact rX v p r fun r => Fr.n w l r
   rw [h1]
   cases q with
   | z => exact ⟨fun h => (nomatch h), fun _ => by cases f <;> rfl⟩
   | l q =>
     refine ⟨fun h => (nomatch h), fun _ => ?_⟩
     cases f with
     | e => show mX q .e = undef; exact sW q
     | n => rfl
   | r q =>
     refine ⟨fun h => ?_, fun h => ?_⟩
     ·injection h with h
      cases f with
      | e => exact (ih q .e).1 h
      | n w l r => exact (ih q r).1 h
     ·have h : q ≠ p := fun e => h (by rw [e])
      cases f with
      | e => show mX q (oO v p .e fun f => f) = undef; rw [(ih q .e).2 h, sW]
      | n w l r => exact (ih q r).2 h
def FAg (f : Fr) (l : List Value) : Prop := ∀ t, mX (jZ t) f = get l t
def FRel (k : Nat) (f : Fr) (l : List Value) : Prop := l.length = k ∧ FAg f l
noncomputable def b3n (f : Fr) (t : Tmp) (v : Value) : Fr := oO v (jZ t) f fun f => f
theorem a2p (f : Fr) (t u : Tmp) (v : Value) : mX (jZ u) (b3n f t v) = if u = t then v else mX (jZ u) f := by
 have h := b1v v (jZ t) (jZ u) f
 by_cases he : u = t
 ·rw [if_pos he]; exact h.1 (by rw [he])
 ·rw [if_neg he]; exact h.2 (fun e => he (a9A e))
theorem FRel.put {k : Nat} {f : Fr} {l : List Value} (h : FRel k f l) {t : Tmp} (ht : t < k) (v : Value) : FRel k (b3n f t v) (Go.Ds.put l (some t) v) := by
 refine ⟨by simp [Go.Ds.put, kG, h.1], fun u => ?_⟩
 rw [a2p, a9G]
 by_cases he : u = t
 ·subst he; rw [if_pos rfl, if_pos ⟨rfl, by rw [h.1]; exact ht⟩]
 ·rw [if_neg he, if_neg (fun hh => he (cU hh.1).symm)]; exact h.2 u
theorem FRel.set {k : Nat} {f : Fr} {l : List Value} (h : FRel k f l) {t : Tmp} (ht : t < k) (v : Value) : FRel k (b3n f t v) (l.set t v) := by
 have := h.put ht v
 simpa [Go.Ds.put, kG] using this
def Rs.Is (r : Rs) (v : Value) (H : Heap) : Prop := r = .ok v H ∨ r = .th v H
theorem Rs.ar {v : Value} {H : Heap} : ¬ Rs.no.Is v H := by rintro (h | h) <;> cases h
theorem Rs.aN {v w : Value} {H H1 : Heap} (h : (Rs.ok v H).Is w H1) : w = v ∧ H1 = H := by
 rcases h with h | h
 ·injection h with a b; exact ⟨a.symm, b.symm⟩
 ·cases h
theorem Rs.aP {v w : Value} {H H1 : Heap} (h : (Rs.th v H).Is w H1) : w = v ∧ H1 = H := by
 rcases h with h | h
 ·cases h
 ·injection h with a b; exact ⟨a.symm, b.symm⟩
theorem jP (b : Bool) (no x : α) : mU b no x = if b = true then x else no := by cases b <;> rfl
theorem kO {b : Bool} {x : Rs} {v : Value} {H : Heap} (h : (mU b Rs.no x).Is v H) : b = true ∧ x.Is v H := by
 cases b with
 | false => exact absurd h Rs.ar
 | true => exact ⟨rfl, h⟩
theorem wA {β : Type} : ∀ (cs : List β) (e : Nat), a4B cs e = decide (e ≤ cs.length)
 | [], 0 => rfl
 | [], e + 1 => by simp; rfl
 | _ :: _, 0 => rfl
 | _ :: cs, e + 1 => by show a4B cs e = _; rw [wA cs e]; simp
theorem wT {β : Type} : ∀ (cs : List β) (e : Nat), a2P cs e = decide (e = cs.length)
 | [], 0 => rfl
 | [], e + 1 => by simp; rfl
 | _ :: _, 0 => by simp; rfl
 | _ :: cs, e + 1 => by show a2P cs e = _; rw [wT cs e]; simp
theorem vZ {β : Type} : ∀ (cs : List β) (e : Nat), a0k cs e = cs[e]?
 | [], _ => rfl
 | _ :: _, 0 => rfl
 | _ :: cs, e + 1 => by show a0k cs e = _; rw [vZ cs e]; simp
theorem a5i {β : Type} : ∀ (cs : List β) (e : Nat), a9v cs e = cs.drop e
 | [], e => by cases e <;> rfl
 | _ :: _, 0 => rfl
 | _ :: cs, e + 1 => by show a9v cs e = _; rw [a5i cs e]; rfl
theorem a6z {β : Type} : ∀ {cs : List β} {n : Nat} {K : List β → Rs} {v : Value} {H : Heap}, (a1j cs n K).Is v H → n ≤ cs.length ∧ (K (cs.take n)).Is v H
 | [], 0, K, v, H, h => ⟨dc _, h⟩
 | [], n + 1, K, v, H, h => absurd h Rs.ar
 | _ :: _, 0, K, v, H, h => ⟨eG _, h⟩
 | c :: cs, n + 1, K, v, H, h => by
   have h' : (a1j cs n fun l => K (c :: l)).Is v H := h
   obtain ⟨h1, h2⟩ := a6z h'
   exact ⟨by simp; omega, h2⟩
theorem b7k {a b : IntKind} (h : Nat.beq (kIx a) (kIx b) = true) : a = b := by
 cases a <;> cases b <;> first | rfl | (exact absurd h (by decide))
theorem b2I (k : Nat) (K : List Pth → α) : b3D k K = K ((List.range k).map jZ).reverse := by
 induction k generalizing K with
 | zero => rfl
 | succ n ih =>
   show kY (jZ n) (fun p => b3D n fun l => K (p :: l)) = _
   rw [kU, ih, eE]
   simp
theorem b5P {β : Type} (l : List β) : ∀ (a : List β) (K : List β → α), b9F l a K = K (l.reverse ++ a) := by
 induction l with
 | nil => intro a K; rfl
 | cons x l ih => intro a K; show b9F l (x :: a) K = _; rw [ih]; simp
theorem a9j (k : Nat) (K : List Pth → α) : b1E k K = K ((List.range k).map jZ) := by
 unfold b1E; rw [b2I, b5P]; simp
theorem oE (n : Nat) (d : α) (K : Nat → α) : a1T (some n) d K = K n := jF n K
def LK (H H' : Heap) : Prop := H.length ≤ H'.length ∧ ∀ A r', A < H.length → gY H' A = some (.loop r') →
 ∃ r, gY H A = some (.loop r) ∧ r'.assign = r.assign ∧ r'.body = r.body ∧ r'.params = r.params ∧ r'.tmps = r.tmps
theorem LK.refl (H : Heap) : LK H H := ⟨dc _, fun _ r _ h => ⟨r, h, rfl, rfl, rfl, rfl⟩⟩
theorem LK.trans {H H1 H2 : Heap} (h : LK H H1) (k : LK H1 H2) : LK H H2 := ⟨dz h.1 k.1, fun A r' hA hr => by
 obtain ⟨r1, h1, a1, b1, c1, d1⟩ := k.2 A r' (dE hA h.1) hr
 obtain ⟨r, h2, a2, b2, c2, d2⟩ := h.2 A r1 hA h1
 exact ⟨r, h2, a1.trans a2, b1.trans b2, c1.trans c2, d1.trans d2⟩⟩
def Blk.cb : Blk → Bool
 | .loop _ => true
 | _ => false
theorem LK.hset (H : Heap) (A : Nat) {b : Blk} (hb : b.cb = false) : LK H (hset H A b) := by
 refine ⟨by rw [iO]; exact dc _, fun B r' hB h => ?_⟩
 by_cases he : A = B
 ·subst he; rw [iC _ hB] at h; injection h with h; subst h; cases hb
 ·rw [gT _ he] at h; exact ⟨r', h, rfl, rfl, rfl, rfl⟩
theorem LK.cons (H : Heap) (b : Blk) : LK H (H.cons b) := by
 refine ⟨by rw [length_cons]; omega, fun B r' hB h => ?_⟩
 rw [iX b hB] at h; exact ⟨r', h, rfl, rfl, rfl, rfl⟩
theorem LK.row (H : Heap) (ty : TypeId) (cs : List Value) : LK H (qG H ty cs) := by rw [kT]; exact .cons _ _
theorem LK.loop {H : Heap} {L : Nat} {r r' : Loop} (h : gY H L = some (.loop r)) (e : r'.assign = r.assign ∧ r'.body = r.body ∧ r'.params = r.params ∧ r'.tmps = r.tmps) : LK H (Go.Ds.hset H L (.loop r')) := by
 refine ⟨by rw [iO]; exact dc _, fun B r2 hB hg => ?_⟩
 by_cases he : L = B
 ·subst he; rw [iC _ hB] at hg; injection hg with hg; injection hg with hg; subst hg; exact ⟨r, h, e⟩
 ·rw [gT _ he] at hg; exact ⟨r2, hg, rfl, rfl, rfl, rfl⟩
variable {P : Program}
theorem a6j {H H' : Heap} {t : TypeId} {p v : Value} (h : pM P H t p v = some H') : LK H H' := by
 unfold pM at h
 split at h
 ·split at h
  ·dsimp only at h
   split at h
   ·injection h with h; subst h; exact .hset _ _ rfl
   ·cases h
  ·cases h
 ·cases h
theorem a2R {H H' : Heap} {t : TypeId} {v r : Value} (h : uY P H t v = some (r, H')) : LK H H' := by
 unfold uY at h
 dsimp only at h
 split at h
 ·injection h with h; injection h with _ h; subst h; exact .row _ _ _
 ·cases h
theorem a4r {H H' : Heap} {t : TypeId} {s x r : Value} (h : mM P H t s x = some (r, H')) : LK H H' := by
 unfold mM at h
 simp only [cX] at h
 obtain ⟨elem, _, size, _, bytes, _, z, _, ⟨n, l⟩, _, h⟩ := h
 try dsimp only at h
 split at h
 ·split at h
  ·split at h
   ·injection h with h; injection h with _ h; subst h; exact .refl _
   ·injection h with h; injection h with _ h; subst h; exact .row _ _ _
  ·cases h
 ·split at h
  ·split at h
   ·injection h with h; injection h with _ h; subst h; exact .hset _ _ rfl
   ·split at h
    ·injection h with h; injection h with _ h; subst h; exact .hset _ _ rfl
    ·cases h
  ·cases h
 ·cases h
theorem a5X {H H' : Heap} {t : TypeId} {v r : Value} (h : pO P H t v = some (r, H')) : LK H H' := by
 unfold pO at h
 split at h
 ·dsimp only at h
  rename_i n elem _
  have key : ∀ (b : Bool), (if b = true then some (Value.pointer (some ⟨H.length, 0, some v.cells.toList.length⟩), b2M H elem v.cells.toList) else none) = some (r, H') → LK H H' := by
   intro b h
   cases b
   ·cases h
   ·injection h with h; injection h with _ h; subst h; rw [a0v]; exact .cons _ _
  exact key _ h
 ·exact a2R h
theorem a4a {H H' : Heap} {t : TypeId} {x y r : Value} (h : uF P H t x y = some (r, H')) : LK H H' := by
 unfold uF at h
 split at h
 ·split at h
  ·split at h
   ·simp only [de] at h
    obtain ⟨_, _, h⟩ := h
    injection h with _ h; subst h; exact .hset _ _ rfl
   ·cases h
  ·cases h
 ·cases h
theorem a3Z {H H' : Heap} {k : FuncId} {args : List Value} {r : Value} (h : pA P k args H = some (r, H')) : LK H H' := by
 unfold pA at h
 simp only [cX] at h
 obtain ⟨fn, _, h⟩ := h
 split at h
 case isFalse => cases h
 split at h
 ·split at h
  ·injection h with h; injection h with _ h; subst h; exact .refl _
  ·cases h
 split at h
 ·split at h
  ·split at h
   ·simp only [cX] at h
    obtain ⟨_, _, h⟩ := h
    split at h
    ·injection h with h; injection h with _ h; subst h; exact .row _ _ _
    ·cases h
   ·cases h
  ·cases h
 split at h
 ·split at h
  ·split at h
   ·split at h
    ·injection h with h; injection h with _ h; subst h; exact .refl _
    ·cases h
   ·cases h
  ·cases h
 ·cases h
theorem a8I {H H' : Heap} {t : TypeId} {s x r : Value} (h : a0W P H t s x = some (r, H')) : LK H H' := by
 unfold a0W at h
 simp only [cX] at h
 obtain ⟨elem, _, size, _, m, _, h⟩ := h
 try dsimp only at h
 split at h
 ·split at h
  ·injection h with h; injection h with _ h; subst h; exact .refl _
  ·cases h
 ·split at h
  ·injection h with h; injection h with _ h; subst h; exact .refl _
  ·simp only [cX] at h
   obtain ⟨l, _, h⟩ := h
   split at h
   ·split at h
    ·injection h with h; injection h with _ h; subst h; exact .hset _ _ rfl
    ·cases h
   ·cases h
 ·cases h
theorem a5S {H H' : Heap} {t : TypeId} {x r : Value} (h : rW P H t x = some (r, H')) : LK H H' := by
 unfold rW at h
 simp only [cX] at h
 obtain ⟨elem, _, z, _, h⟩ := h
 split at h
 ·injection h with h; injection h with _ h; subst h; exact .refl _
 ·split at h
  ·injection h with h; injection h with _ h; subst h; exact .refl _
  ·try dsimp only at h
   split at h
   ·split at h
    ·injection h with h; injection h with _ h; subst h; exact .hset _ _ rfl
    ·cases h
   ·cases h
 ·cases h
theorem b1o {H H' : Heap} {t : TypeId} {m k v : Value} (h : a0b P H t m k v = some H') : LK H H' := by
 unfold a0b at h
 simp only [cX] at h
 obtain ⟨⟨kt, et⟩, _, h⟩ := h
 dsimp only at h
 split at h
 ·split at h
  ·split at h
   ·simp only [cX] at h
    obtain ⟨r, _, h⟩ := h
    split at h
    ·simp only [cX] at h
     obtain ⟨e, _, h⟩ := h
     split at h
     ·injection h with h; subst h; exact .hset _ _ rfl
     ·cases h
    ·injection h with h; subst h; exact .hset _ _ rfl
   ·cases h
  ·cases h
 ·cases h
theorem a2h {H H' : Heap} {t : TypeId} {o : Option Value} {r : Value} (h : oK P H t o = some (r, H')) : LK H H' := by
 unfold oK at h
 simp only [cX] at h
 obtain ⟨_, _, h⟩ := h
 split at h
 ·injection h with h; injection h with _ h; subst h; exact .cons _ _
 ·injection h with h; injection h with _ h; subst h; exact .cons _ _
 ·cases h
theorem a5n {H H' : Heap} {o : Oper} {l : List Value} {r : Value} (h : jU P o l H = some (r, H')) : H' = H := by
 unfold jU at h
 split at h
 ·split at h
  ·split at h
   ·injection h with h; injection h with _ h; exact h.symm
   ·cases h
  ·cases h
 ·cases h
theorem tO {H H' : Heap} {v r : Value} (h : some (v, H) = some (r, H')) : LK H H' := by injection h with h; injection h with _ h; subst h; exact .refl _
theorem tD {H H' : Heap} {v : Option Value} {r : Value} (h : v.map (fun v => (v, H)) = some (r, H')) : LK H H' := by
 cases v with
 | none => cases h
 | some v => exact tO h
set_option maxHeartbeats 1000000 in
theorem b1Y {H H' : Heap} {o : Oper} {l : List Value} {r : Value} (h : opD P o l H = some (r, H')) : LK H H' := by
 obtain ⟨dst, op, type, pos, after, guard⟩ := o
 have pl : ∀ {o : Oper}, jU P o l H = some (r, H') → LK H H' := fun h => by rw [a5n h]; exact .refl _
 cases op with
 | alloc t =>
   simp only [opD, cX] at h
   obtain ⟨z, _, h⟩ := h
   split at h
   ·exact a5X h
   ·cases h
 | box t x => simp only [opD] at h; exact a2R h
 | store t x y =>
   simp only [opD, de] at h
   obtain ⟨H1, h, e⟩ := h
   injection e with _ e; subst e
   exact a6j h
 | mapUpdate t m x y =>
   simp only [opD, de] at h
   obtain ⟨H1, h, e⟩ := h
   injection e with _ e; subst e
   exact b1o h
 | makeMap t x => simp only [opD] at h; exact a2h h
 | buildSlice t len parts =>
   simp only [opD, cX] at h
   obtain ⟨elem, _, size, _, z, _, h⟩ := h
   split at h
   ·injection h with h; injection h with _ h; subst h; exact .row _ _ _
   split at h
   ·simp only [de] at h
    obtain ⟨cs, _, e⟩ := h
    injection e with _ e; subst e
    exact .row _ _ _
   ·cases h
 | makeSlice t n c =>
   simp only [opD, cX] at h
   obtain ⟨elem, _, size, _, bytes, _, z, _, h⟩ := h
   split at h
   ·split at h
    ·injection h with h; injection h with _ h; subst h; exact .row _ _ _
    ·cases h
   ·cases h
 | call c =>
   simp only [opD] at h
   split at h
   ·split at h
    ·split at h
     all_goals first | exact tD h | cases h
    ·cases h
   ·split at h
    ·exact a4r h
    ·cases h
   ·split at h
    ·exact a8I h
    ·cases h
   ·split at h
    ·exact a5S h
    ·cases h
   ·exact pl h
   ·split at h
    ·split at h
     ·split at h
      ·cases h
      ·exact tO h
     ·cases h
    ·cases h
   ·split at h
    ·exact a4a h
    ·cases h
   ·exact pl h
   ·exact pl h
   ·cases h
 | convert s t x =>
   simp only [opD] at h
   split at h
   ·exact pl h
   ·split at h
    ·split at h
     ·exact tD h
     ·cases h
    ·split at h
     ·simp only [cX] at h
      obtain ⟨_, _, h⟩ := h
      injection h with h; injection h with _ h; subst h
      rw [a9i]; exact .cons _ _
     ·cases h
    ·split at h
     ·exact tO h
     ·cases h
    ·cases h
 | slice t x lo hi mx =>
   cases mx with
   | some _ => simp only [opD] at h; cases h
   | none =>
     simp only [opD] at h
     split at h
     ·exact pl h
     ·split at h
      ·exact tD h
      ·exact tD h
 | _ =>
   simp only [opD] at h
   repeat' first
    | exact LK.refl _
    | exact tO h
    | exact tD h
    | exact pl h
    | (cases h; done)
    | split at h
    | (simp only [cX, de] at h; obtain ⟨_, _, h⟩ := h)
    | (obtain ⟨_, _, h⟩ := h)
    | (injection h with h; injection h with _ h; subst h; exact LK.refl _)
    | (injection h with _ h; subst h; exact LK.refl _)
    | (cases h; exact LK.refl _)
end
end Go.Ds
namespace Go.Ds
variable {P : Program}
structure CallsOk (P : Program) (C : Calls') (H0 : Heap) : Prop where
 fn : ∀ p f args H v H1, LK H0 H → (C.fn p f args H).Is v H1 → p = jZ f → (FnS P f args H (fun v' H' => v' = v ∧ H' = H1) ∨ pA P f args H = some (v, H1)) ∧ LK H H1
 rd : ∀ L args H v H1, LK H0 H → (C.rd L args H).Is v H1 → wF P L args H v H1 ∧ LK H H1
noncomputable def iE (x : Operand) : LArg := match x with
 | .tmp t => .t (jZ t)
 | .const v => .c v
 | .global g => .c (.pointer (some ⟨g, 0, none⟩))
 | .func k => .c (.func (.func k) #[] #[])
theorem kH {α : Type} (x : Operand) (K : LArg → α) : lA x K = K (iE x) := by
 cases x with
 | tmp t => exact kU _ _
 | _ => rfl
theorem jA {f : Fr} {l : List Value} (h : FAg f l) (x : Operand) : lV f (iE x) = ev l x := by
 cases x with
 | tmp t => exact h t
 | _ => rfl
theorem a3a {α : Type} (l : List Operand) (K : List LArg → α) : a3s l K = K (l.map iE) := by
 induction l generalizing K with
 | nil => rfl
 | cons x l ih =>
   show lA x (fun x => a3s l fun l => K (x :: l)) = _
   rw [kH, ih]; rfl
theorem a6m {α : Type} {f : Fr} {l : List Value} (h : FAg f l) (xs : List Operand) (K : List Value → α) : a2D f (xs.map iE) K = K (xs.map (ev l)) := by
 induction xs generalizing K with
 | nil => rfl
 | cons x xs ih =>
   show nH (lV f (iE x)) (fun v => a2D f (xs.map iE) fun l => K (v :: l)) = _
   rw [mA, ih, jA h]; rfl
theorem b9Z {f : Fr} {l : List Value} (h : FAg f l) : evF f = ev l := by
 funext x
 cases x with
 | tmp t => exact h t
 | _ => rfl
def uS (P : Program) (o : Oper) (lo : LOp) : Prop := ∀ C H0 f l H v H1, CallsOk P C H0 → LK H0 H → FAg f l → (opF P C lo f H).Is v H1 → StepR P o l H v H1 ∧ LK H H1
def LowPl (P : Program) (o : Oper) (lo : LOp) : Prop := ∀ C f l H v H1, FAg f l → (opF P C lo f H).Is v H1 → opD P o l H = some (v, H1)
theorem LowPl.low {o : Oper} {lo : LOp} (hok : o.op.operands.toList.all hP = true) (h : LowPl P o lo) : uS P o lo :=
 fun C _ f l H v H1 _ _ hf hr => by have := h C f l H v H1 hf hr; exact ⟨.op hok this, b1Y this⟩
theorem b6M (o : Oper) : uS P o .bad := fun _ _ _ _ _ _ _ _ _ _ h => absurd h Rs.ar
theorem b6S (o : Oper) : LowPl P o (.gen o) := fun C f l H v H1 hf hr => by
 have hr : (match b8L P o (evF f) H with | some (v, H1) => Rs.th v H1 | none => .no).Is v H1 := hr
 rw [b9Z hf] at hr
 have e : b8L P o (ev l) H = opD P o l H := rfl
 rw [e] at hr
 split at hr
 ·rename_i v2 H2 h2
  obtain ⟨rfl, rfl⟩ := Rs.aP hr
  exact h2
 ·exact absurd hr Rs.ar
section
variable {dst : Option Tmp} {type : TypeId} {pos : String} {after : Array Edge} {guard : Option (Nat × Bool)}
theorem c0o (x : Operand) : LowPl P ⟨dst, .move x, type, pos, after, guard⟩ (.mv (iE x)) := fun C f l H v H1 hf hr => by
 have hr : (nH (lV f (iE x)) fun v => Rs.ok v H).Is v H1 := hr
 rw [mA, jA hf] at hr
 obtain ⟨rfl, rfl⟩ := Rs.aN hr
 rfl
theorem b8Z (x : Operand) : LowPl P ⟨dst, .assign x, type, pos, after, guard⟩ (.mv (iE x)) := fun C f l H v H1 hf hr => by
 have hr : (nH (lV f (iE x)) fun v => Rs.ok v H).Is v H1 := hr
 rw [mA, jA hf] at hr
 obtain ⟨rfl, rfl⟩ := Rs.aN hr
 rfl
theorem b1W (c a b : Operand) : LowPl P ⟨dst, .pick c a b, type, pos, after, guard⟩ (.pick (iE c) (iE a) (iE b)) := fun C f l H v H1 hf hr => by
 have hr : (b3A (iE c) (iE a) (iE b) f H).Is v H1 := hr
 unfold b3A at hr
 rw [jA hf] at hr
 split at hr
 ·rename_i t ht
  rw [mA] at hr
  simp only [opD, ht]
  cases t
  ·have hr : (Rs.ok (lV f (iE b)) H).Is v H1 := hr
   rw [jA hf] at hr
   obtain ⟨rfl, rfl⟩ := Rs.aN hr; rfl
  ·have hr : (Rs.ok (lV f (iE a)) H).Is v H1 := hr
   rw [jA hf] at hr
   obtain ⟨rfl, rfl⟩ := Rs.aN hr; rfl
 ·exact absurd hr Rs.ar
theorem b6W (a b : Int) : c0U a b = a * b := by cases a <;> cases b <;> rfl
theorem a4i (a b : Int) : c1h a b = a.tdiv b := by cases a <;> cases b <;> rfl
theorem a4b (a b : Int) : c0W a b = a.tmod b := by cases a <;> cases b <;> rfl
theorem b5B {op : BinOp} {g : IntKind → Int → Int → Option Value} (h : b7B op = some g) (k : IntKind) (a b : Int) : lU op k a b = g k a b := by
 cases op <;> simp only [b7B] at h <;> first | (cases h; done) | (injection h with h; subst h)
 all_goals first
  | rfl
  | (simp only [lU, c1R, b6W]; done)
  | (simp only [lU, b6z, a4i]; done)
  | (simp only [lU, b6L, a4b]; done)
  | (simp only [lU, b6z, a4i]; rfl)
  | (simp only [lU, b6L, a4b]; rfl)
  | (simp only [lU, b6z, a4i]; cases eqI b 0 <;> rfl)
  | (simp only [lU, b6L, a4b]; cases eqI b 0 <;> rfl)
theorem c1m {o : Option Value} {H H1 : Heap} {v : Value} (h : (oV o H).Is v H1) : o = some v ∧ H1 = H := by
 cases o with
 | none => exact absurd h Rs.ar
 | some w => obtain ⟨rfl, rfl⟩ := Rs.aP h; exact ⟨rfl, rfl⟩
theorem b2E {o : Option Value} {H H1 : Heap} {v : Value} (h : (okV o H).Is v H1) : o = some v ∧ H1 = H := by
 cases o with
 | none => exact absurd h Rs.ar
 | some w =>
   have h : (nH w fun v => Rs.ok v H).Is v H1 := h
   rw [mA] at h
   obtain ⟨rfl, rfl⟩ := Rs.aN h; exact ⟨rfl, rfl⟩
theorem b5W {op : BinOp} {g : IntKind → Int → Int → Option Value} (hg : b7B op = some g) (t yt : TypeId) (x y : Operand) : LowPl P ⟨dst, .binOp op t x y yt, type, pos, after, guard⟩ (.bin g (iE x) (iE y)) := fun C f l H v H1 hf hr => by
 have hr : (b9e g (iE x) (iE y) f H).Is v H1 := hr
 unfold b9e at hr
 rw [jA hf] at hr
 split at hr
 ·rename_i k a hx
  unfold b8o at hr
  rw [jA hf] at hr
  split at hr
  ·rename_i k' b hy
   obtain ⟨hk, hq⟩ := kO hr
   obtain rfl := b7k hk
   obtain ⟨hv, rfl⟩ := c1m hq
   rw [← b5B hg] at hv
   have : opD P ⟨dst, .binOp op t x y yt, type, pos, after, guard ⟩ l H1 = if k = k then (match lU op k a b with | some v => some (v, H1) | none => jU P ⟨dst, .binOp op t x y yt, type, pos, after, guard ⟩ l H1) else jU P ⟨dst, .binOp op t x y yt, type, pos, after, guard ⟩ l H1 := by
    simp only [opD, hx, hy]
    cases op <;> rfl
   rw [this, if_pos rfl, hv]
  ·exact absurd hr Rs.ar
 ·exact absurd hr Rs.ar
theorem b5Q {b : Option Blk} {i e : Nat} {H H1 : Heap} {v : Value} (h : (b6C b i e H).Is v H1) : H1 = H ∧ ∃ cs ty rw lo ver, b = some (.cells cs ty rw lo ver) ∧ lo ≤ e ∧ e ≤ cs.length ∧ i + 1 ≤ e ∧ cs[i]? = some v := by
 unfold b6C at h
 split at h
 ·rename_i cs ty rw lo ver
  obtain ⟨h1, h⟩ := kO h
  obtain ⟨h2, h⟩ := kO h
  obtain ⟨h3, h⟩ := kO h
  have h : (okV (a0k cs i) H).Is v H1 := h
  obtain ⟨h4, h5⟩ := b2E h
  rw [wA] at h2
  rw [vZ] at h4
  exact ⟨h5, cs, ty, rw, lo, ver, rfl, dX h1, by simpa using h2, dX h3, h4⟩
 ·exact absurd h Rs.ar
theorem b7C {b : Option Blk} {n i e : Nat} {H H1 : Heap} {v : Value} (h : (b7i b n i e H).Is v H1) : H1 = H ∧ ∃ cs ty rw lo ver, b = some (.cells cs ty rw lo ver) ∧ lo ≤ e ∧ e ≤ cs.length ∧ i + n ≤ e ∧ v = .agg ((cs.drop i).take n).toArray := by
 unfold b7i at h
 split at h
 ·rename_i cs ty rw lo ver
  obtain ⟨h1, h⟩ := kO h
  obtain ⟨h2, h⟩ := kO h
  obtain ⟨h3, h⟩ := kO h
  obtain ⟨h4, h⟩ := a6z h
  obtain ⟨rfl, rfl⟩ := Rs.aN h
  rw [wA] at h2
  exact ⟨rfl, cs, ty, rw, lo, ver, rfl, dX h1, by simpa using h2, dX h3, by rw [a5i]⟩
 ·exact absurd h Rs.ar
theorem a8V {X : LArg} {f : Fr} {H H1 : Heap} {v w : Value} {t : TypeId} (ht : iV P t = some false) (hw : lV f X = w) (h : (b1Q X f H).Is v H1) : H1 = H ∧ kQ P H t w = some v := by
 unfold b1Q at h
 rw [hw] at h
 split at h
 ·rename_i A i e
  obtain ⟨h1, cs, ty, rw', lo, ver, h2, h3, h4, h5, h6⟩ := b5Q h
  refine ⟨h1, ?_⟩
  simp only [kQ, ht, iM, h2]
  rw [if_pos (by simp; omega)]
  simp [h6]
 ·rename_i A i
  unfold b9w at h
  split at h
  ·rename_i cs ty lo hg
   obtain ⟨h1, h⟩ := kO h
   rw [wA] at h1
   have h1 : lo ≤ cs.length := by simpa using h1
   cases hn : a0k cs i with
   | none => rw [hn] at h; exact absurd h Rs.ar
   | some c =>
     rw [hn] at h
     have h : (nH c fun v => Rs.ok v H).Is v H1 := h
     rw [mA] at h
     obtain ⟨rfl, rfl⟩ := Rs.aN h
     rw [vZ] at hn
     have hi := (dq.1 hn).1
     refine ⟨rfl, ?_⟩
     simp only [kQ, ht, iM, hg]
     rw [if_pos (by simp; omega)]
     simp [hn]
  ·exact absurd h Rs.ar
 ·exact absurd h Rs.ar
theorem a9F {X : LArg} {f : Fr} {H H1 : Heap} {v w : Value} {t : TypeId} {n : Nat} (ht : iV P t = some true) (hn : gM P t = some n) (hw : lV f X = w) (h : (b0H n X f H).Is v H1) : H1 = H ∧ kQ P H t w = some v := by
 unfold b0H at h
 rw [hw] at h
 split at h
 ·rename_i A i e
  obtain ⟨h1, cs, ty, rw', lo, ver, h2, h3, h4, h5, h6⟩ := b7C h
  refine ⟨h1, ?_⟩
  simp only [kQ, ht, hn, cV, iM, h2]
  rw [if_pos (by simp; omega), h6]
  rfl
 ·exact absurd h Rs.ar
theorem b6o {t : TypeId} (ht : iV P t = some false) (x : Operand) : LowPl P ⟨dst, .load t x, type, pos, after, guard⟩ (.ld1 (iE x)) := fun C f l H v H1 hf hr => by
 obtain ⟨rfl, h⟩ := a8V (P := P) ht (jA hf x) hr
 simp only [opD, h, dK]
theorem b7e {t : TypeId} {n : Nat} (ht : iV P t = some true) (hn : gM P t = some n) (x : Operand) : LowPl P ⟨dst, .load t x, type, pos, after, guard⟩ (.ldn n (iE x)) := fun C f l H v H1 hf hr => by
 obtain ⟨rfl, h⟩ := a9F (P := P) ht hn (jA hf x) hr
 simp only [opD, h, dK]
theorem b8F {t : TypeId} {n : Nat} (hn : gM P t = some n) (x y : Operand) : LowPl P ⟨dst, .store t x y, type, pos, after, guard⟩ (.st n (iE x) (iE y)) := fun C f l H v H1 hf hr => by
 have hr : (hSt n (iE x) (iE y) f H).Is v H1 := hr
 unfold hSt at hr
 rw [jA hf, jA hf] at hr
 split at hr
 ·rename_i A i e hx
  unfold stB at hr
  split at hr
  ·rename_i cs ty lo ver hg
   obtain ⟨h1, hr⟩ := kO hr
   obtain ⟨h2, hr⟩ := kO hr
   obtain ⟨h3, hr⟩ := kO hr
   obtain ⟨h4, hr⟩ := kO hr
   obtain ⟨h5, hr⟩ := kO hr
   obtain ⟨rfl, rfl⟩ := Rs.aP hr
   rw [wT] at h1 h3
   have h1 : n = (ev l y).cells.toList.length := by simpa only [decide_eq_true_eq] using h1
   have h3 : e = cs.length := by simpa only [decide_eq_true_eq] using h3
   have h4 : i + n ≤ e := dX h4
   have h5 : lo ≤ e := dX h5
   simp only [opD, pM, hx, hg]
   rw [if_pos ⟨by rw [hn, h1], h2, h3, by omega, h5⟩]
   simp only [dK]
   rw [h3]
  ·exact absurd hr Rs.ar
 ·exact absurd hr Rs.ar
theorem b9R {s : TypeId} {k n : Nat} {fd : Field} (hf' : nJ P s k = some fd) (hn : gM P fd.type = some n) (hn0 : n ≠ 0) (x : Operand) : LowPl P ⟨dst, .fieldAddr s x k, type, pos, after, guard⟩ (.fa fd.offset (iE x)) := fun C f l H v H1 hf hr => by
 have hr : (hFa fd.offset (iE x) f H).Is v H1 := hr
 unfold hFa at hr
 rw [jA hf] at hr
 split at hr
 ·rename_i A i e hx
  rw [jF] at hr
  obtain ⟨rfl, rfl⟩ := Rs.aN hr
  simp only [opD, hx, hf', cV, hn]
  rw [if_neg (by simpa using hn0)]; rfl
 ·exact absurd hr Rs.ar
theorem b2W {A i e size n : Nat} {H H1 : Heap} {j v : Value} (h : (ixP A i e size n H j).Is v H1) : H1 = H ∧ ∃ k m, j = .int k (.ofNat m) ∧ m < n ∧ v = .pointer (some ⟨A, i + m * size, some e⟩) := by
 unfold ixP at h
 split at h
 ·rename_i k m
  obtain ⟨h1, h⟩ := kO h
  rw [jF] at h
  obtain ⟨rfl, rfl⟩ := Rs.aN h
  rw [blt_eq] at h1
  exact ⟨rfl, k, m, rfl, by simpa using h1, rfl⟩
 ·exact absurd h Rs.ar
theorem b6p {t elem : TypeId} {size : Nat} (ht : P.underlying t = some (.slice elem)) (hs : gM P elem = some size) (x i : Operand) : LowPl P ⟨dst, .indexAddr t x i, type, pos, after, guard⟩ (.ixs size (iE x) (iE i)) := fun C f l H v H1 hf hr => by
 have hr : (b8I size (iE x) (iE i) f H).Is v H1 := hr
 unfold b8I at hr
 rw [jA hf, jA hf] at hr
 split at hr
 ·rename_i A a e n c hx
  obtain ⟨rfl, k, m, hj, hm, rfl⟩ := b2W hr
  simp only [opD, ht, hx, hj, hs, cV]
  rw [if_pos (by simp; omega)]
  rfl
 ·exact absurd hr Rs.ar
theorem c2Q (a b : Nat) : Nat.beq a b = (a == b) := by
 cases h : Nat.beq a b with
 | true => rw [dL h]; simp
 | false => have := Nat.ne_of_beq_eq_false h; simp [this]
theorem b9E {A i size n : Nat} {H H1 : Heap} {j v : Value} (h : (ixG A i size n H j).Is v H1) : H1 = H ∧ ∃ k m, j = .int k (.ofNat m) ∧ m < n ∧ v = .pointer (some ⟨A, i + m * size, none⟩) := by
 unfold ixG at h
 split at h
 ·rename_i k m
  obtain ⟨h1, h⟩ := kO h
  rw [jF] at h
  obtain ⟨rfl, rfl⟩ := Rs.aN h
  exact ⟨rfl, k, m, rfl, by simpa [gF] using h1, rfl⟩
 ·exact absurd h Rs.ar
theorem b5u {t elem : TypeId} {n size : Nat} (ht : P.underlying t = some (.array n elem)) (hs : gM P elem = some size) (x i : Operand) : LowPl P ⟨dst, .indexAddr t x i, type, pos, after, guard⟩ (.ixa n size (iE x) (iE i)) := fun C f l H v H1 hf hr => by
 have hr : (c0c n size (iE x) (iE i) f H).Is v H1 := hr
 unfold c0c at hr
 rw [jA hf, jA hf] at hr
 split at hr
 ·rename_i A a e hx
  obtain ⟨rfl, k, m, hj, hm, rfl⟩ := b2W hr
  simp only [opD, ht, hx, hj, hs, cV]
  rw [if_pos (by simp; omega)]
  rfl
 ·rename_i A a hx
  obtain ⟨rfl, k, m, hj, hm, rfl⟩ := b9E hr
  simp only [opD, ht, hx, hj, hs, cV]
  rw [if_pos (by simp; omega)]
  rfl
 ·exact absurd hr Rs.ar
theorem b7o (i : Nat) (x : Operand) : LowPl P ⟨dst, .extract x i, type, pos, after, guard⟩ (.ext i (iE x)) := fun C f l H v H1 hf hr => by
 have hr : (b9L i (iE x) f H).Is v H1 := hr
 unfold b9L at hr
 rw [jA hf] at hr
 split at hr
 ·rename_i vs hx
  obtain ⟨h1, rfl⟩ := b2E hr
  rw [vZ] at h1
  simp only [opD, hx]
  simp [h1]
 ·exact absurd hr Rs.ar
theorem b7G {c : Call} {elem : TypeId} (hc : c.callee = .builtin .len) (h1 : c.args.size = 1) (h2 : c.argTypes.size = 1) (ht : P.underlying (c.argTypes.getD 0 0) = some (.slice elem)) : LowPl P ⟨dst, .call c, type, pos, after, guard⟩ (.len (iE (c.args.getD 0 (.tmp 0)))) := fun C f l H v H1 hf hr => by
 have hr : (b8O (iE (c.args.getD 0 (.tmp 0))) f H).Is v H1 := hr
 unfold b8O at hr
 rw [jA hf] at hr
 split at hr
 ·rename_i a n k hx
  obtain ⟨rfl, rfl⟩ := Rs.aP hr
  simp only [opD, hc, h1, h2, ht, hx, vJ]; rfl
 ·exact absurd hr Rs.ar
theorem b3G {c : Call} (hc : c.callee = .builtin .len) (h1 : c.args.size = 1) (h2 : c.argTypes.size = 1) (ht : P.underlying (c.argTypes.getD 0 0) = some .string) : LowPl P ⟨dst, .call c, type, pos, after, guard⟩ (.slen (iE (c.args.getD 0 (.tmp 0)))) := fun C f l H v H1 hf hr => by
 have hr : (b2k (iE (c.args.getD 0 (.tmp 0))) f H).Is v H1 := hr
 unfold b2k at hr
 rw [jA hf] at hr
 split at hr
 ·rename_i s hx
  obtain ⟨rfl, rfl⟩ := Rs.aP hr
  simp only [opD, hc, h1, h2, ht, hx, vJ]; rfl
 ·exact absurd hr Rs.ar
theorem b6v {c : Call} {elem : TypeId} {size bytes : Nat} {z : Value} (hc : c.callee = .builtin .append) (h1 : c.args.size = 2) (h2 : c.argTypes.size = 2) (hi : ((P.underlying (c.argTypes.getD 1 0)).map oQ) = some true)
 (he : gQ P (c.argTypes.getD 0 0) = some elem) (hs : gM P elem = some size) (hb : mN P elem = some bytes) (hz : iF P elem = some z) (hzs : z.cells.size = size) (hs0 : size ≠ 0) :
 LowPl P ⟨dst, .call c, type, pos, after, guard⟩ (.app elem size bytes (iE (c.args.getD 0 (.tmp 0))) (iE (c.args.getD 1 (.tmp 0)))) := fun C f l H v H1 hf hr => by
 have hr : (b9m P elem size bytes (iE (c.args.getD 0 (.tmp 0))) (iE (c.args.getD 1 (.tmp 0))) f H).Is v H1 := hr
 unfold b9m at hr
 rw [jA hf, jA hf] at hr
 have hD : opD P ⟨dst, .call c, type, pos, after, guard⟩ l H = mM P H (c.argTypes.getD 0 0) (ev l (c.args.getD 0 (.tmp 0))) (ev l (c.args.getD 1 (.tmp 0))) := by
  simp only [opD, hc, h1, h2, hi]; rfl
 rw [hD]
 unfold mM
 rw [he, cV, hs, cV, hb, cV, hz, cV]
 split at hr
 ·rename_i n m hsrc
  rw [hsrc, cV]
  unfold c2B at hr
  split at hr
  ·rename_i k cc hx
   obtain ⟨g1, hq1⟩ := kO hr
   obtain ⟨g2, hq2⟩ := kO hq1
   obtain ⟨g3, hq⟩ := kO hq2
   clear hr hq1 hq2
   obtain rfl : k = 0 := dL g1
   obtain rfl : cc = 0 := dL g2
   have g3 : n * (bytes + 1) ≤ nT := dX g3
   simp only [hx]
   rw [if_pos (by simp [hs0, hzs, g3])]
   rw [jP] at hq
   by_cases hn : n = 0
   ·subst hn
    rw [if_pos (by rfl)] at hq
    obtain ⟨rfl, rfl⟩ := Rs.aN hq
    simp
   ·rw [if_neg (fun e => hn (dL e))] at hq
    obtain ⟨rfl, rfl⟩ := Rs.aP hq
    simp [hn]
  ·rename_i A i e k cc hx
   unfold c0Y at hr
   split at hr
   ·rename_i cs ty lo ver hg
    obtain ⟨g2, hr⟩ := kO hr
    obtain ⟨g4, hr⟩ := kO hr
    obtain ⟨g5, hr⟩ := kO hr
    have g2 : (ty == elem || gM P ty == some size) = true := by
     rw [c2Q] at g2
     cases hh : (ty == elem) with
     | true => rfl
     | false => rw [hh] at g2; exact g2
    rw [wT] at g4
    have g4 : e = cs.length := by simpa only [decide_eq_true_eq] using g4
    have g5 : lo ≤ e := dX g5
    simp only [hx, hg]
    rw [jP] at hr
    by_cases g3 : i + k * size = e
    ·rw [if_pos (by simpa using g3)] at hr
     obtain ⟨g1, hr⟩ := kO hr
     obtain ⟨rfl, rfl⟩ := Rs.aP hr
     have g1 : (k + n) * (bytes + 1) ≤ nT := dX g1
     have et : (Bool.rec (motive := fun _ => Nat) 2 ver (Nat.beq ty elem)) = (if (ty == elem) = true then ver else 2) := by
      rw [c2Q]
      cases hh : (ty == elem) with
      | true => rfl
      | false => rfl
     rw [et, if_pos (by simp only [g2, fc, cW, bne_iff_ne, beq_iff_eq, decide_eq_true_eq]; exact ⟨⟨⟨⟨⟨hs0, g1⟩, by simpa using hzs⟩, g3⟩, g4⟩, g5⟩)]
    ·rw [if_neg (by simpa using g3)] at hr
     rw [jP] at hr
     by_cases hn : n = 0
     ·rw [if_pos (by simpa using hn)] at hr
      exact absurd hr Rs.ar
     ·rw [if_neg (by simpa using hn)] at hr
      obtain ⟨g6, hr⟩ := kO hr
      obtain ⟨rfl, rfl⟩ := Rs.aP hr
      have g6 : i + (k + n) * size ≤ e := dX g6
      rw [if_neg (by simp [g3]), if_pos (by simp only [g2, fc, cW, bne_iff_ne, beq_iff_eq, decide_eq_true_eq]; exact ⟨⟨⟨⟨⟨hs0, hn⟩, by simpa using hzs⟩, g6⟩, g4⟩, g5⟩), g4]
   ·exact absurd hr Rs.ar
  ·exact absurd hr Rs.ar
 ·exact absurd hr Rs.ar
theorem b1e {c : Call} {k : FuncId} (hc : c.callee = .value (.func k)) (hok : (Op.call c).operands.toList.all hP = true) : uS P ⟨dst, .call c, type, pos, after, guard⟩ (.callF k (jZ k) (c.args.toList.map iE)) := fun C H0 f l H v H1 hC hk hf hr => by
 have hr : (a2D f (c.args.toList.map iE) fun l => C.fn (jZ k) k l H).Is v H1 := hr
 rw [a6m hf] at hr
 obtain ⟨h1 | hx, h2⟩ := hC.fn _ _ _ _ _ _ hk hr rfl
 case inr => exact ⟨.ext hok c (.func k) k #[] #[] rfl hc rfl (by simpa using hx), h2⟩
 obtain ⟨he, v', H', hcall, rfl, rfl⟩ := h1.fn
 exact ⟨.call hok c (.func k) k #[] #[] rfl hc rfl he (by simpa using hcall), h2⟩
theorem b0A {c : Call} {g : Operand} (hc : c.callee = .value g) (hok : (Op.call c).operands.toList.all hP = true) : uS P ⟨dst, .call c, type, pos, after, guard⟩ (.callV (iE g) (c.args.toList.map iE)) := fun C H0 f l H v H1 hC hk hf hr => by
 have hr : (a2D f (c.args.toList.map iE) fun l => a6T C l H (lV f (iE g))).Is v H1 := hr
 rw [a6m hf, jA hf] at hr
 unfold a6T at hr
 split at hr
 ·rename_i k a b hg
  rw [jF, kU] at hr
  obtain ⟨h1 | hx, h2⟩ := hC.fn _ _ _ _ _ _ hk hr rfl
  case inr => exact ⟨.ext hok c g k ⟨a⟩ ⟨b⟩ rfl hc hg (by simpa [wX] using hx), h2⟩
  obtain ⟨he, v', H', hcall, rfl, rfl⟩ := h1.fn
  exact ⟨.call hok c g k ⟨a⟩ ⟨b⟩ rfl hc hg he (by simpa [wX] using hcall), h2⟩
 ·rename_i L a b hg
  obtain ⟨h1, h2⟩ := hC.rd _ _ _ _ _ hk hr
  exact ⟨.round hok c g L _ _ rfl hc hg h1, h2⟩
 ·exact absurd hr Rs.ar
end
set_option maxHeartbeats 1000000 in
theorem a8R {α : Type} (o : Oper) (K : LOp → α) : ∃ lo, uS P o lo ∧ wI P o K = K lo := by
 unfold wI
 rw [jP]
 by_cases hok : o.op.operands.toList.all hP = true
 case neg => rw [if_neg hok]; exact ⟨_, b6M o, rfl⟩
 rw [if_pos hok]
 have gen : ∃ lo, uS P o lo ∧ K (.gen o) = K lo := ⟨_, (b6S o).low hok, rfl⟩
 obtain ⟨dst, op, type, pos, after, guard⟩ := o
 unfold c1i
 cases op with
 | move x => simp only [kH]; exact ⟨_, (c0o x).low hok, rfl⟩
 | assign x => simp only [kH]; exact ⟨_, (b8Z x).low hok, rfl⟩
 | pick c a b => simp only [kH]; exact ⟨_, (b1W c a b).low hok, rfl⟩
 | binOp op t x y yt =>
   simp only [kH, jP]
   split
   ·split
    ·rename_i g hg; exact ⟨_, (b5W hg t yt x y).low hok, rfl⟩
    ·exact gen
   ·exact gen
 | load t x =>
   simp only [kH]
   split
   ·rename_i ht
    cases hn : gM P t with
    | none => exact gen
    | some n => rw [oE]; exact ⟨_, (b7e ht hn x).low hok, rfl⟩
   ·rename_i ht; exact ⟨_, (b6o ht x).low hok, rfl⟩
   ·exact gen
 | store t x y =>
   simp only [kH]
   cases hn : gM P t with
   | none => exact gen
   | some n => rw [oE]; exact ⟨_, (b8F hn x y).low hok, rfl⟩
 | fieldAddr s x k =>
   simp only [kH]
   split
   ·rename_i fd hfd
    split
    ·exact gen
    ·rename_i n hn0 hn
     rw [jF]
     exact ⟨_, (b9R hfd hn (fun e => hn0 e) x).low hok, rfl⟩
    ·exact gen
   ·exact gen
 | indexAddr t x i =>
   simp only [kH]
   split
   ·rename_i elem ht
    cases hs : gM P elem with
    | none => exact gen
    | some n => rw [oE]; exact ⟨_, (b6p ht hs x i).low hok, rfl⟩
   ·rename_i n elem ht
    cases hs : gM P elem with
    | none => exact gen
    | some m => rw [oE]; exact ⟨_, (b5u ht hs x i).low hok, rfl⟩
   ·exact gen
 | extract t i => simp only [kH]; rw [jF]; exact ⟨_, (b7o i t).low hok, rfl⟩
 | call c =>
   simp only
   unfold b4U
   split
   ·rename_i k hc
    rw [kU, a3a]
    exact ⟨_, b1e hc hok, rfl⟩
   ·rename_i g _ hc
    rw [kH, a3a]
    exact ⟨_, b0A hc hok, rfl⟩
   ·rename_i hc
    rw [jP]
    split
    ·rename_i h1
     simp only [cW, beq_iff_eq] at h1
     split
     ·rename_i elem ht; rw [kH]; exact ⟨_, (b7G hc h1.1 h1.2 ht).low hok, rfl⟩
     ·rename_i ht; rw [kH]; exact ⟨_, (b3G hc h1.1 h1.2 ht).low hok, rfl⟩
     ·exact gen
    ·exact gen
   ·rename_i hc
    rw [jP]
    split
    ·rename_i h1
     simp only [cW, beq_iff_eq] at h1
     split
     ·rename_i elem he
      cases hs : gM P elem with
      | none => exact gen
      | some size =>
        rw [oE]
        cases hb : mN P elem with
        | none => exact gen
        | some bytes =>
          rw [oE]
          split
          ·rename_i z hz
           rw [jP]
           split
           ·rename_i h2
            simp only [cW, beq_iff_eq, bne_iff_ne] at h2
            rw [jF, kH, kH]
            exact ⟨_, (b6v hc h1.1.1 h1.1.2 h1.2 he hs hb hz h2.1 h2.2).low hok, rfl⟩
           ·exact gen
          ·exact gen
     ·exact gen
    ·exact gen
   ·exact gen
 | _ => exact gen
def DOk (k : Nat) (dst : Option Tmp) (d : Option Pth) : Prop := (dst = none ∧ d = none) ∨ ∃ t, dst = some t ∧ t < k ∧ d = some (jZ t)
inductive LowOps (P : Program) (k : Nat) (ops : Array Oper) : List Oper → LOps → Prop
 | nil : LowOps P k ops [] .nil
 | cons {o : Oper} {os : List Oper} {d : Option Pth} {lo : LOp} {r : LOps} (hd : DOk k o.dst d) (ho : uS P o lo) (hg : o.guard = none) (hr : LowOps P k ops os r) : LowOps P k ops (o :: os) (.cons d lo r)
 | gcons {o : Oper} {os : List Oper} {d : Option Pth} {lo : LOp} {r : LOps} {j t : Nat} {w : Bool} (hd : DOk k o.dst d) (ho : uS P o lo) (hg : o.guard = some (j, w)) (ht : (ops[j]?).bind (·.dst) = some t) (htk : t < k) (hr : LowOps P k ops os r) : LowOps P k ops (o :: os) (.gcons (jZ t) w d lo r)
def GOk (ops : Array Oper) (o : Oper) (g : Option (Pth × Bool)) : Prop := (o.guard = none ∧ g = none) ∨ ∃ j w t, o.guard = some (j, w) ∧ (ops[j]?).bind (·.dst) = some t ∧ g = some (jZ t, w)
theorem GOk.runs {ops : Array Oper} {o : Oper} {g : Option (Pth × Bool)} (h : GOk ops o g) {f : Fr} {l : List Value} (hf : FAg f l) (hw : Region.wanted o (iD ops l) = true) : b2Y f g = true := by
 rcases h with ⟨_, rfl⟩ | ⟨j, w, t, hg, ht, rfl⟩
 ·rfl
 ·simp only [Region.wanted, hg, iD, ht] at hw
  show isB (mX (jZ t) f) w = true
  rw [hf t, nK, cZ]
  cases hl : l[t]? with
  | none => rw [hl] at hw; simp at hw
  | some v =>
    rw [hl] at hw
    cases v <;> simp at hw
    subst hw
    rename_i b
    cases b <;> rfl
inductive LowTab (P : Program) (ops : Array Oper) : List (Nat × Nat) → List (Nat × Option Nat × Option (Pth × Bool) × LOp) → Prop
 | nil : LowTab P ops [] []
 | cons {i m : Nat} {o : Oper} {lo : LOp} {tab : List (Nat × Nat)} {t : List (Nat × Option Nat × Option (Pth × Bool) × LOp)} {g : Option (Pth × Bool)} (ho : ops[i]? = some o) (hgd : GOk ops o g) (hl : uS P o lo) (hr : LowTab P ops tab t) :
    LowTab P ops ((i, m) :: tab) ((ops.size - 1 - i, if m < ops.size then some (ops.size - 1 - m) else none, g, lo) :: t)
inductive Low (P : Program) (k : Nat) : Code → LCode → Prop
 | bad (c : Code) : Low P k c .bad
 | skip : Low P k .skip .skip
 | label (t : Nat) : Low P k (.label t) .skip
 | reg {id : Nat} {ops : Array Oper} {d : Bool} {lo : LOps} (h : LowOps P k ops ops.toList lo) (hd : d = true → mC P ops = some []) : Low P k (.region id ops d) (.reg lo)
 | drw {id : Nat} {ops : Array Oper} {lo : LOps} {tab : List (Nat × Nat)} {t : List (Nat × Option Nat × Option (Pth × Bool) × LOp)} (h : LowOps P k ops ops.toList lo) (ht : mC P ops = some tab) (hl : LowTab P ops tab t) : Low P k (.region id ops true) (.drw lo t)
 | seq {a b : Code} {A B : LCode} (ha : Low P k a A) (hb : Low P k b B) : Low P k (.seq a b) (.seq A B)
 | cond {c : Operand} {x y : Code} {X Y : LCode} (hc : hP c = true) (hx : Low P k x X) (hy : Low P k y Y) : Low P k (.cond c x y) (.cond (iE c) X Y)
 | block {id : Nat} {b : Code} {B : LCode} (hb : Low P k b B) : Low P k (.block id b) (.block id B)
 | loop {b : Code} {B : LCode} (hb : Low P k b B) : Low P k (.loop b) (.loop B)
 | exit (id : Nat) : Low P k (.exit id) (.exit id)
 | ret : Low P k .ret .ret
 | range {g : Operand} {ps : Array Tmp} {assign body : Code} {A B : LCode} (hg : hP g = true) (hps : ∀ t ∈ ps.toList, t < k) (ha : Low P k assign A) (hb : Low P k body B) :
    Low P k (.rangeFunc g ps assign body) (.range (iE g) ((List.range k).map jZ) (ps.toList.map jZ) ps assign body A B)
section
variable {α : Type}
theorem b2q (k : Nat) (dst : Option Tmp) (no : α) (K : Option Pth → α) : (∃ d, DOk k dst d ∧ a6a k dst no K = K d) ∨ a6a k dst no K = no := by
 cases dst with
 | none => exact .inl ⟨none, .inl ⟨rfl, rfl⟩, rfl⟩
 | some t =>
   simp only [a6a, jP]
   split
   ·rename_i h
    rw [kU]
    rw [blt_eq] at h
    exact .inl ⟨_, .inr ⟨t, rfl, by simpa using h, rfl⟩, rfl⟩
   ·exact .inr rfl
theorem a1C (k : Nat) (ops : Array Oper) (l : List Oper) (K : LOps → α) (no : α) : (∃ L, LowOps P k ops l L ∧ sY P k ops l K no = K L) ∨ sY P k ops l K no = no := by
 induction l generalizing K with
 | nil => exact .inl ⟨_, .nil, rfl⟩
 | cons o l ih =>
   let K2 : Option Pth → LOp → α := fun d o' => match o.guard with
    | none => sY P k ops l (fun r => K (.cons d o' r)) no
    | some (j, w) => match (ops[j]?).bind (·.dst) with
      | some t => mU (Nat.blt t k) no (kY (jZ t) fun p => xQ w fun w => sY P k ops l (fun r => K (.gcons p w d o' r)) no)
      | none => no
   have e : sY P k ops (o :: l) K no = a6a k o.dst no fun d => wI P o fun o' => K2 d o' := rfl
   rw [e]
   rcases b2q k o.dst no (fun d => wI P o fun o' => K2 d o') with ⟨d, hd, h1⟩ | h1
   ·rw [h1]
    obtain ⟨lo, hlo, h2⟩ := a8R (P := P) o (fun o' => K2 d o')
    rw [h2]
    simp only [K2]
    split
    ·rename_i hg
     rcases ih (fun r => K (.cons d lo r)) with ⟨L, hL, h3⟩ | h3
     ·exact .inl ⟨_, .cons hd hlo hg hL, h3⟩
     ·exact .inr h3
    ·rename_i j w hg
     split
     ·rename_i t ht
      rw [jP]
      split
      ·rename_i htk
       rw [kU, tQ]
       rw [blt_eq] at htk
       rcases ih (fun r => K (.gcons (jZ t) w d lo r)) with ⟨L, hL, h3⟩ | h3
       ·exact .inl ⟨_, .gcons hd hlo hg ht (by simpa using htk) hL, h3⟩
       ·exact .inr h3
      ·exact .inr rfl
     ·exact .inr rfl
   ·exact .inr h1
theorem b9Q (k : Nat) (ops : Array Oper) (o : Oper) (no : α) (K : Option (Pth × Bool) → α) : (∃ g, GOk ops o g ∧ loG k ops o.guard no K = K g) ∨ loG k ops o.guard no K = no := by
 cases hg : o.guard with
 | none => exact .inl ⟨none, .inl ⟨hg, rfl⟩, rfl⟩
 | some x =>
   obtain ⟨j, w⟩ := x
   unfold loG
   cases ht : (ops[j]?).bind (·.dst) with
   | none => exact .inr (by simp only [ht])
   | some t =>
     simp only [ht, jP]
     split
     ·refine .inl ⟨some (jZ t, w), .inr ⟨j, w, t, hg, ht, rfl⟩, ?_⟩
      rw [kU, tQ]
     ·exact .inr rfl
theorem b3W (k : Nat) (ops : Array Oper) (tab : List (Nat × Nat)) (K : List (Nat × Option Nat × Option (Pth × Bool) × LOp) → α) (no : α) : (∃ t, LowTab P ops tab t ∧ sF P k ops ops.size tab K no = K t) ∨ sF P k ops ops.size tab K no = no := by
 induction tab generalizing K with
 | nil => exact .inl ⟨_, .nil, rfl⟩
 | cons x tab ih =>
   obtain ⟨i, m⟩ := x
   cases ho : ops[i]? with
   | none =>
     refine .inr ?_
     show (match ops[i]? with
      | some o => _
      | none => no) = no
     rw [ho]
   | some o =>
     let K2 : Option (Pth × Bool) → LOp → α := fun g o' => jH (ops.size - 1 - i) fun i => mU (Nat.blt m ops.size) (sF P k ops ops.size tab (fun l => K ((i, none, g, o') :: l)) no) (jH (ops.size - 1 - m) fun m => sF P k ops ops.size tab (fun l => K ((i, some m, g, o') :: l)) no)
     have e : sF P k ops ops.size ((i, m) :: tab) K no = loG k ops o.guard no fun g => wI P o fun o' => K2 g o' := by
      show (match ops[i]? with
       | some o => loG k ops o.guard no fun g => wI P o fun o' => K2 g o'
       | none => no) = _
      rw [ho]
     rw [e]
     rcases b9Q k ops o no (fun g => wI P o fun o' => K2 g o') with ⟨g, hgd, h1⟩ | h1
     ·rw [h1]
      obtain ⟨lo, hlo, h2⟩ := a8R (P := P) o (fun o' => K2 g o')
      rw [h2]
      show (∃ t, _ ∧ jH (ops.size - 1 - i) (fun i => mU (Nat.blt m ops.size) (sF P k ops ops.size tab (fun l => K ((i, none, g, lo) :: l)) no) (jH (ops.size - 1 - m) fun m => sF P k ops ops.size tab (fun l => K ((i, some m, g, lo) :: l)) no)) = K t) ∨ jH (ops.size - 1 - i) (fun i => mU (Nat.blt m ops.size) (sF P k ops ops.size tab (fun l => K ((i, none, g, lo) :: l)) no) (jH (ops.size - 1 - m) fun m => sF P k ops ops.size tab (fun l => K ((i, some m, g, lo) :: l)) no)) = no
      rw [jF, jP, jF, blt_eq]
      by_cases hm : m < ops.size
      ·rw [if_pos (by simpa using hm)]
       rcases ih (fun l => K ((ops.size - 1 - i, some (ops.size - 1 - m), g, lo) :: l)) with ⟨t, ht, h3⟩ | h3
       ·have := LowTab.cons (m := m) ho hgd hlo ht
        rw [if_pos hm] at this
        exact .inl ⟨_, this, h3⟩
       ·exact .inr h3
      ·rw [if_neg (by simpa using hm)]
       rcases ih (fun l => K ((ops.size - 1 - i, none, g, lo) :: l)) with ⟨t, ht, h3⟩ | h3
       ·have := LowTab.cons (m := m) ho hgd hlo ht
        rw [if_neg hm] at this
        exact .inl ⟨_, this, h3⟩
       ·exact .inr h3
     ·exact .inr h1
theorem b1m (k : Nat) (l : List Tmp) (K : List Pth → α) (no : α) : ((∀ t ∈ l, t < k) ∧ vL k l K no = K (l.map jZ)) ∨ vL k l K no = no := by
 induction l generalizing K with
 | nil => exact .inl ⟨by simp, rfl⟩
 | cons t l ih =>
   show _ ∨ mU (Nat.blt t k) no (kY (jZ t) fun p => vL k l (fun l => K (p :: l)) no) = no
   have e : vL k (t :: l) K no = mU (Nat.blt t k) no (kY (jZ t) fun p => vL k l (fun l => K (p :: l)) no) := rfl
   rw [e, jP, kU, blt_eq]
   by_cases h : t < k
   ·rw [if_pos (by simpa using h)]
    rcases ih (fun l => K (jZ t :: l)) with ⟨h1, h2⟩ | h2
    ·exact .inl ⟨by simpa using ⟨h, h1⟩, h2⟩
    ·exact .inr h2
   ·rw [if_neg (by simpa using h)]; exact .inr rfl
theorem b1p (k : Nat) (c : Code) (K : LCode → α) : ∃ C, Low P k c C ∧ mF P k c K = K C := by
 induction c generalizing K with
 | skip => exact ⟨_, .skip, rfl⟩
 | region id ops d =>
   cases d with
   | false =>
     show ∃ C, _ ∧ sY P k ops ops.toList (fun l => K (.reg l)) (K .bad) = K C
     rcases a1C (P := P) k ops ops.toList (fun l => K (.reg l)) (K .bad) with ⟨L, hL, h⟩ | h
     ·exact ⟨_, .reg hL (fun h => by cases h), h⟩
     ·exact ⟨_, .bad _, h⟩
   | true =>
     show ∃ C, _ ∧ (match mC P ops with
      | some [] => sY P k ops ops.toList (fun l => K (.reg l)) (K .bad)
      | some tab => sY P k ops ops.toList (fun l => sF P k ops ops.size tab (fun t => K (.drw l t)) (K .bad)) (K .bad)
      | none => K .bad) = K C
     split
     ·rename_i hd
      rcases a1C (P := P) k ops ops.toList (fun l => K (.reg l)) (K .bad) with ⟨L, hL, h⟩ | h
      ·exact ⟨_, .reg hL (fun _ => hd), h⟩
      ·exact ⟨_, .bad _, h⟩
     ·rename_i tab _ hd
      rcases a1C (P := P) k ops ops.toList (fun l => sF P k ops ops.size tab (fun t => K (.drw l t)) (K .bad)) (K .bad) with ⟨L, hL, h⟩ | h
      ·rw [h]
       rcases b3W (P := P) k ops tab (fun t => K (.drw L t)) (K .bad) with ⟨t, ht, h2⟩ | h2
       ·exact ⟨_, .drw hL hd ht, h2⟩
       ·exact ⟨_, .bad _, h2⟩
      ·exact ⟨_, .bad _, h⟩
     ·exact ⟨_, .bad _, rfl⟩
 | seq a b iha ihb =>
   show ∃ C, _ ∧ mF P k a (fun a => mF P k b fun b => K (.seq a b)) = K C
   obtain ⟨A, hA, h1⟩ := iha (fun a => mF P k b fun b => K (.seq a b))
   obtain ⟨B, hB, h2⟩ := ihb (fun b => K (.seq A b))
   exact ⟨_, .seq hA hB, h1.trans h2⟩
 | cond c x y ihx ihy =>
   show ∃ C, _ ∧ mU (hP c) (K .bad) (lA c fun c => mF P k x fun x => mF P k y fun y => K (.cond c x y)) = K C
   rw [jP]
   split
   ·rename_i hc
    rw [kH]
    obtain ⟨X, hX, h1⟩ := ihx (fun x => mF P k y fun y => K (.cond (iE c) x y))
    obtain ⟨Y, hY, h2⟩ := ihy (fun y => K (.cond (iE c) X y))
    exact ⟨_, .cond hc hX hY, h1.trans h2⟩
   ·exact ⟨_, .bad _, rfl⟩
 | block id b ih =>
   show ∃ C, _ ∧ jH id (fun id => mF P k b fun b => K (.block id b)) = K C
   rw [jF]
   obtain ⟨B, hB, h1⟩ := ih (fun b => K (.block id b))
   exact ⟨_, .block hB, h1⟩
 | loop b ih =>
   show ∃ C, _ ∧ mF P k b (fun b => K (.loop b)) = K C
   obtain ⟨B, hB, h1⟩ := ih (fun b => K (.loop b))
   exact ⟨_, .loop hB, h1⟩
 | rangeFunc g ps assign body iha ihb =>
   show ∃ C, _ ∧ mU (hP g) (K .bad) (lA g fun g' => b1E k fun pp => vL k ps.toList (fun q => mF P k assign fun a => mF P k body fun b => K (.range g' pp q ps assign body a b)) (K .bad)) = K C
   rw [jP]
   split
   ·rename_i hg
    rw [kH, a9j]
    rcases b1m k ps.toList (fun q => mF P k assign fun a => mF P k body fun b => K (.range (iE g) ((List.range k).map jZ) q ps assign body a b)) (K .bad) with ⟨hps, h⟩ | h
    ·obtain ⟨A, hA, h1⟩ := iha (fun a => mF P k body fun b => K (.range (iE g) ((List.range k).map jZ) (ps.toList.map jZ) ps assign body a b))
     obtain ⟨B, hB, h2⟩ := ihb (fun b => K (.range (iE g) ((List.range k).map jZ) (ps.toList.map jZ) ps assign body A b))
     exact ⟨_, .range hg hps hA hB, h.trans (h1.trans h2)⟩
    ·exact ⟨_, .bad _, h⟩
   ·exact ⟨_, .bad _, rfl⟩
 | exit id =>
   show ∃ C, _ ∧ jH id (fun id => K (.exit id)) = K C
   rw [jF]
   exact ⟨_, .exit id, rfl⟩
 | label t => exact ⟨_, .label t, rfl⟩
 | ret => exact ⟨_, .ret, rfl⟩
 | scope b _ => exact ⟨_, .bad _, rfl⟩
 | goto t => exact ⟨_, .bad _, rfl⟩
 | refuse w => exact ⟨_, .bad _, rfl⟩
end
theorem uE {α : Type} {k : Nat} {f : Fr} {l : List Value} (h : FRel k f l) {dst : Option Tmp} {d : Option Pth} (hd : DOk k dst d) (v : Value) (K : Fr → α) : ∃ f', tH d v f K = K f' ∧ FRel k f' (put l dst v) := by
 rcases hd with ⟨rfl, rfl⟩ | ⟨t, rfl, ht, rfl⟩
 ·exact ⟨f, rfl, h⟩
 ·exact ⟨b3n f t v, rX v (jZ t) f K, h.put ht v⟩
theorem xD {ops : Array Oper} {l : List Value} {j t : Nat} (ht : (ops[j]?).bind (·.dst) = some t) (htl : t < l.length) (w : Bool) : (iD ops l j == some w) = isB (get l t) w := by
 have hg : get l t = l[t] := by rw [nK]; simp [htl]
 unfold iD
 rw [ht, hg]
 simp only [dp htl]
 cases hv : l[t] <;> simp [isB]
 rename_i b
 cases b <;> cases w <;> rfl
theorem b6J {k : Nat} {ops : Array Oper} {C : Calls'} {H0 : Heap} (hC : CallsOk P C H0) {os : List Oper} {lo : LOps} (hlo : LowOps P k ops os lo) : ∀ {i : Nat}, ops.toList.drop i = os → ∀ {f : Fr} {l : List Value} {H : Heap} {f1 : Fr} {H1 : Heap},
 FRel k f l → LK H0 H → xJ P C lo f H = .ok f1 H1 → ∃ l1, FRel k f1 l1 ∧ OpsR P ops (List.range' i os.length) l H l1 H1 ∧ LK H H1 := by
 induction hlo with
 | nil =>
   intro i _ f l H f1 H1 hf _ h
   injection h with h1 h2
   subst h1 h2
   exact ⟨l, hf, .nil l H, .refl H⟩
 | @cons o os d lo r hd ho hg hr ih =>
   intro i hi f l H f1 H1 hf hk h
   have hio : ops[i]? = some o := by
    have : (ops.toList.drop i)[0]? = some o := by rw [hi]; rfl
    rw [dx] at this
    simpa using this
   have hi' : ops.toList.drop (i + 1) = os := by rw [← fg, hi]; rfl
   have hw : Region.wanted o (iD ops l) = true := by simp [Region.wanted, hg]
   have h : a9B Rf.no d f (xJ P C r) (opF P C lo f H) = .ok f1 H1 := h
   have key : ∀ v H2, (opF P C lo f H).Is v H2 → (tH d v f fun f => xJ P C r f H2) = .ok f1 H1 → ∃ l1, FRel k f1 l1 ∧ OpsR P ops (List.range' i (o :: os).length) l H l1 H1 ∧ LK H H1 := by
    intro v H2 hop hrest
    obtain ⟨hs, hk2⟩ := ho C H0 f l H v H2 hC hk hf.2 hop
    obtain ⟨f', e, hf'⟩ := uE hf hd v (fun f => xJ P C r f H2)
    rw [e] at hrest
    obtain ⟨l1, h1, h2, h3⟩ := ih hi' hf' (hk.trans hk2) hrest
    exact ⟨l1, h1, .step hio hw hs h2, hk2.trans h3⟩
   cases hop : opF P C lo f H with
   | no => rw [hop] at h; cases h
   | ok v H2 => rw [hop] at h; exact key v H2 (.inl hop) h
   | th v H2 =>
     rw [hop] at h
     have h : wW v (fun v => mQ H2 fun H2 => tH d v f fun f => xJ P C r f H2) = .ok f1 H1 := h
     rw [wD, lM] at h
     exact key v H2 (.inr hop) h
 | @gcons o os d lo r j t w hd ho hg ht htk hr ih =>
   intro i hi f l H f1 H1 hf hk h
   have hio : ops[i]? = some o := by
    have : (ops.toList.drop i)[0]? = some o := by rw [hi]; rfl
    rw [dx] at this
    simpa using this
   have hi' : ops.toList.drop (i + 1) = os := by rw [← fg, hi]; rfl
   have hwi : Region.wanted o (iD ops l) = isB (mX (jZ t) f) w := by
    simp only [Region.wanted, hg]
    rw [xD ht (by rw [hf.1]; exact htk) w, hf.2 t]
   have h : mU (isB (mX (jZ t) f) w) (tH d undef f fun f => xJ P C r f H) (a9B Rf.no d f (xJ P C r) (opF P C lo f H)) = .ok f1 H1 := h
   rw [jP] at h
   split at h
   ·rename_i hb
    have key : ∀ v H2, (opF P C lo f H).Is v H2 → (tH d v f fun f => xJ P C r f H2) = .ok f1 H1 → ∃ l1, FRel k f1 l1 ∧ OpsR P ops (List.range' i (o :: os).length) l H l1 H1 ∧ LK H H1 := by
     intro v H2 hop hrest
     obtain ⟨hs, hk2⟩ := ho C H0 f l H v H2 hC hk hf.2 hop
     obtain ⟨f', e, hf'⟩ := uE hf hd v (fun f => xJ P C r f H2)
     rw [e] at hrest
     obtain ⟨l1, h1, h2, h3⟩ := ih hi' hf' (hk.trans hk2) hrest
     exact ⟨l1, h1, .step hio (by rw [hwi, hb]) hs h2, hk2.trans h3⟩
    cases hop : opF P C lo f H with
    | no => rw [hop] at h; cases h
    | ok v H2 => rw [hop] at h; exact key v H2 (.inl hop) h
    | th v H2 =>
      rw [hop] at h
      have h : wW v (fun v => mQ H2 fun H2 => tH d v f fun f => xJ P C r f H2) = .ok f1 H1 := h
      rw [wD, lM] at h
      exact key v H2 (.inr hop) h
   ·rename_i hb
    obtain ⟨f', e, hf'⟩ := uE hf hd undef (fun f => xJ P C r f H)
    rw [e] at h
    obtain ⟨l1, h1, h2, h3⟩ := ih hi' hf' hk h
    exact ⟨l1, h1, .past hio (by rw [hwi]; simpa using hb) h2, h3⟩
structure Noted (P : Program) (k : Nat) (ops : Array Oper) (H : Heap) (i n : Nat) (T : Nat → List Value × Heap) (val : Nat → Value) (tr0 tr : List (Fr × Heap × Value)) : Prop where
 step : ∀ j, i ≤ j → j < i + n → uI P ops j (T j) (T (j + 1)) (val j)
 new : ∀ j, i ≤ j → j < i + n → ∃ g, tr[i + n - 1 - j]? = some (g, (T j).2, val j) ∧ FAg g (T j).1
 old : ∀ m, tr[n + m]? = tr0[m]?
 lk : ∀ j, i ≤ j → j ≤ i + n → LK H (T j).2
theorem b4C {k : Nat} {ops : Array Oper} {C : Calls'} {H0 : Heap} (hC : CallsOk P C H0) {os : List Oper} {lo : LOps} (hlo : LowOps P k ops os lo) : ∀ {i : Nat}, ops.toList.drop i = os → ∀ {tr0 tr : List (Fr × Heap × Value)} {f : Fr} {l : List Value} {H : Heap} {f1 : Fr} {H1 : Heap},
 FRel k f l → LK H0 H → pW P C lo tr0 f H = .ok tr f1 H1 → ∃ T val l1, T i = (l, H) ∧ T (i + os.length) = (l1, H1) ∧ FRel k f1 l1 ∧ Noted P k ops H i os.length T val tr0 tr := by
 have more : ∀ {i n : Nat} {o : Oper} {tr0 tr : List (Fr × Heap × Value)} {f : Fr} {l : List Value} {H : Heap} {v : Value} {l2 : List Value} {H2 : Heap} {l1 : List Value} {H1 : Heap} {f1 : Fr}, FRel k f l → uI P ops i (l, H) (l2, H2) v → LK H H2 →
  (∃ T val l1, T (i + 1) = (l2, H2) ∧ T (i + 1 + n) = (l1, H1) ∧ FRel k f1 l1 ∧ Noted P k ops H2 (i + 1) n T val ((f, H, v) :: tr0) tr) →
  ∃ T val l1, T i = (l, H) ∧ T (i + (n + 1)) = (l1, H1) ∧ FRel k f1 l1 ∧ Noted P k ops H i (n + 1) T val tr0 tr := by
  intro i n o tr0 tr f l H v l2 H2 _ H1 f1 hf hst hk ⟨T, val, l1, h1, h2, h3, hN⟩
  refine ⟨fun j => if j ≤ i then (l, H) else T j, fun j => if j ≤ i then v else val j, l1, by simp, ?_, h3, ?_⟩
  ·show (if i + (n + 1) ≤ i then (l, H) else T (i + (n + 1))) = _
   rw [if_neg (by omega), ← h2]; congr 1; omega
  ·refine ⟨fun j hj hn => ?_, fun j hj hn => ?_, fun m => ?_, fun j hj hn => ?_⟩
   ·by_cases he : j = i
    ·subst he
     simp only [dc, if_true]
     rw [if_neg (by omega), h1]
     exact hst
    ·rw [if_neg (by omega), if_neg (by omega), if_neg (by omega)]
     exact hN.step j (by omega) (by omega)
   ·by_cases he : j = i
    ·subst he
     simp only [dc, if_true]
     refine ⟨f, ?_, hf.2⟩
     have := hN.old 0
     rw [show j + (n + 1) - 1 - j = n + 0 by omega, this]; rfl
    ·rw [if_neg (by omega), if_neg (by omega)]
     obtain ⟨g, hg, hag⟩ := hN.new j (by omega) (by omega)
     exact ⟨g, by rw [← hg]; congr 1; omega, hag⟩
   ·have := hN.old (m + 1)
    rw [show n + 1 + m = n + (m + 1) by omega, this]; rfl
   ·by_cases he : j = i
    ·subst he; simp only [dc, if_true]; exact .refl H
    ·rw [if_neg (by omega)]; exact hk.trans (hN.lk j (by omega) (by omega))
 induction hlo with
 | nil =>
   intro i _ tr0 tr f l H f1 H1 hf _ h
   injection h with h1 h2 h3
   subst h1 h2 h3
   exact ⟨fun _ => (l, H), fun _ => undef, l, rfl, rfl, hf, fun j _ h => absurd h (by simp; omega), fun j _ h => absurd h (by simp; omega), fun m => by simp, fun _ _ _ => .refl H⟩
 | @cons o os d lo r hd ho hg hr ih =>
   intro i hi tr0 tr f l H f1 H1 hf hk h
   have hio : ops[i]? = some o := by
    have : (ops.toList.drop i)[0]? = some o := by rw [hi]; rfl
    rw [dx] at this
    simpa using this
   have hi' : ops.toList.drop (i + 1) = os := by rw [← fg, hi]; rfl
   have hw : Region.wanted o (iD ops l) = true := by simp [Region.wanted, hg]
   have h : a9z tr0 f H d (pW P C r) (opF P C lo f H) = .ok tr f1 H1 := h
   have key : ∀ v H2, (opF P C lo f H).Is v H2 → (tH d v f fun f2 => pW P C r ((f, H, v) :: tr0) f2 H2) = .ok tr f1 H1 → ∃ T val l1, T i = (l, H) ∧ T (i + (o :: os).length) = (l1, H1) ∧ FRel k f1 l1 ∧ Noted P k ops H i (o :: os).length T val tr0 tr := by
    intro v H2 hop hrest
    obtain ⟨hs, hk2⟩ := ho C H0 f l H v H2 hC hk hf.2 hop
    obtain ⟨f', e, hf'⟩ := uE hf hd v (fun f2 => pW P C r ((f, H, v) :: tr0) f2 H2)
    rw [e] at hrest
    have := ih hi' hf' (hk.trans hk2) hrest
    exact more (o := o) (l1 := l) hf ⟨o, hio, rfl, .inl ⟨hw, hs⟩⟩ hk2 this
   cases hop : opF P C lo f H with
   | no => rw [hop] at h; cases h
   | ok v H2 => rw [hop] at h; exact key v H2 (.inl hop) h
   | th v H2 =>
     rw [hop] at h
     have h : wW v (fun v => mQ H2 fun H2 => tH d v f fun f2 => pW P C r ((f, H, v) :: tr0) f2 H2) = .ok tr f1 H1 := h
     rw [wD, lM] at h
     exact key v H2 (.inr hop) h
 | @gcons o os d lo r j t w hd ho hg ht htk hr ih =>
   intro i hi tr0 tr f l H f1 H1 hf hk h
   have hio : ops[i]? = some o := by
    have : (ops.toList.drop i)[0]? = some o := by rw [hi]; rfl
    rw [dx] at this
    simpa using this
   have hi' : ops.toList.drop (i + 1) = os := by rw [← fg, hi]; rfl
   have hwi : Region.wanted o (iD ops l) = isB (mX (jZ t) f) w := by
    simp only [Region.wanted, hg]
    rw [xD ht (by rw [hf.1]; exact htk) w, hf.2 t]
   have h : mU (isB (mX (jZ t) f) w) (tH d undef f fun f2 => pW P C r ((f, H, undef) :: tr0) f2 H) (a9z tr0 f H d (pW P C r) (opF P C lo f H)) = .ok tr f1 H1 := h
   rw [jP] at h
   split at h
   ·rename_i hb
    have key : ∀ v H2, (opF P C lo f H).Is v H2 → (tH d v f fun f2 => pW P C r ((f, H, v) :: tr0) f2 H2) = .ok tr f1 H1 → ∃ T val l1, T i = (l, H) ∧ T (i + (o :: os).length) = (l1, H1) ∧ FRel k f1 l1 ∧ Noted P k ops H i (o :: os).length T val tr0 tr := by
     intro v H2 hop hrest
     obtain ⟨hs, hk2⟩ := ho C H0 f l H v H2 hC hk hf.2 hop
     obtain ⟨f', e, hf'⟩ := uE hf hd v (fun f2 => pW P C r ((f, H, v) :: tr0) f2 H2)
     rw [e] at hrest
     exact more (o := o) (l1 := l) hf ⟨o, hio, rfl, .inl ⟨by rw [hwi, hb], hs⟩⟩ hk2 (ih hi' hf' (hk.trans hk2) hrest)
    cases hop : opF P C lo f H with
    | no => rw [hop] at h; cases h
    | ok v H2 => rw [hop] at h; exact key v H2 (.inl hop) h
    | th v H2 =>
      rw [hop] at h
      have h : wW v (fun v => mQ H2 fun H2 => tH d v f fun f2 => pW P C r ((f, H, v) :: tr0) f2 H2) = .ok tr f1 H1 := h
      rw [wD, lM] at h
      exact key v H2 (.inr hop) h
   ·rename_i hb
    obtain ⟨f', e, hf'⟩ := uE hf hd undef (fun f2 => pW P C r ((f, H, undef) :: tr0) f2 H)
    rw [e] at h
    exact more (o := o) (l1 := l) hf ⟨o, hio, rfl, .inr ⟨by rw [hwi]; simpa using hb, rfl, rfl⟩⟩ (.refl H) (ih hi' hf' hk h)
theorem a9l {α : Type} (p : α → Bool) (l : List α) : b4F p l = l.all p := by
 induction l with
 | nil => rfl
 | cons x l ih =>
   show mU (p x) false (b4F p l) = _
   rw [jP, ih, fb]
   cases p x <;> rfl
theorem b6H {v : Value} {r : Rs} (h : b6r v r = true) : ∃ H, r.Is v H := by
 cases r with
 | no => cases h
 | ok w H => exact ⟨H, .inl (by rw [b3q (show veq w v = true from h)])⟩
 | th w H => exact ⟨H, .inr (by rw [b3q (show veq w v = true from h)])⟩
theorem LowTab.get {ops : Array Oper} {tab : List (Nat × Nat)} {t : List (Nat × Option Nat × Option (Pth × Bool) × LOp)} (h : LowTab P ops tab t) {i m : Nat} (hm : (i, m) ∈ tab) : ∃ o lo g, ops[i]? = some o ∧ GOk ops o g ∧ uS P o lo ∧ (ops.size - 1 - i, (if m < ops.size then some (ops.size - 1 - m) else none), g, lo) ∈ t := by
 induction h with
 | nil => cases hm
 | @cons i2 m2 o lo tab t g ho hgd hl hr ih =>
   rcases eo.1 hm with he | hm
   ·injection he with h1 h2
    subst h1 h2
    exact ⟨o, lo, g, ho, hgd, hl, by simp⟩
   ·obtain ⟨o', lo', g', h1, h0, h2, h3⟩ := ih hm
    exact ⟨o', lo', g', h1, h0, h2, eC _ h3⟩
theorem a7l {fl : Fl} {ops : Array Oper} {i m : Nat} (h : (i, m) ∈ lR fl ops) {o : Oper} (ho : ops[i]? = some o) : mR o.op = true := by
 unfold lR at h
 simp only [eJ] at h
 obtain ⟨⟨x, j⟩, hx, h⟩ := h
 dsimp only at h
 split at h
 ·rename_i hr
  simp only [dA] at h
  obtain ⟨m', _, e⟩ := h
  injection e with e1 e2
  subst e1
  have := fS.1 hx
  have : ops[j]? = some x := by simpa using this
  rw [this] at ho
  injection ho with ho
  subst ho
  exact hr
 ·cases h
theorem b5D (iZ : P.follows .mixedOrders = true) {k id : Nat} {ops : Array Oper} {C : Calls'} {H : Heap} (hC : CallsOk P C H) {lo : LOps} {tab : List (Nat × Nat)} {t : List (Nat × Option Nat × Option (Pth × Bool) × LOp)} (hlo : LowOps P k ops ops.toList lo) (htab : mC P ops = some tab) (hl : LowTab P ops tab t)
 {f : Fr} {l : List Value} {e : Ex} {f1 : Fr} {H1 : Heap} (hf : FRel k f l) (h : b7R P C t (pW P C lo [] f H) = .ok e f1 H1) : ∃ l1, e = .normal ∧ FRel k f1 l1 ∧ Sim P (.region id ops true) l H .normal l1 H1 ∧ LK H H1 := by
 cases hr : pW P C lo [] f H with
 | no => rw [hr] at h; cases h
 | ok tr f2 H2 =>
   rw [hr] at h
   have h : mU (b4F (b4j P C tr H2) t) Rc.no (.ok .normal f2 H2) = .ok e f1 H1 := h
   rw [jP] at h
   split at h
   case isFalse => cases h
   rename_i hall
   injection h with h1 h2 h3
   subst h1 h2 h3
   obtain ⟨T, val, l1, hT0, hTn, hf1, hN⟩ := b4C hC hlo (i := 0) rfl hf (.refl H) hr
   rw [fh, ga] at hTn
   rw [fh] at hN
   have hlk : LK H H2 := by have := hN.lk ops.size (eG _) (by omega); rwa [hTn] at this
   refine ⟨l1, rfl, hf1, ?_, hlk⟩
   have := Sim.draw iZ (id := id) htab (T := T) (val := val) ⟨fun j hj => hN.step j (eG _) (by omega)⟩ ?_
   ·rw [hT0, hTn] at this; exact this
   ·intro i m o hm ho hw
    obtain ⟨o', lo', gd, ho', hgd, hlow, hmem⟩ := hl.get hm
    rw [ho] at ho'
    obtain rfl := cU ho'
    rw [a9l, dm] at hall
    have hrd := hall _ hmem
    have hi : i < ops.size := (da.1 ho).1
    obtain ⟨g, hg, hag⟩ := hN.new i (eG _) (by omega)
    have hg : tr[ops.size - 1 - i]? = some (g, (T i).2, val i) := by rw [← hg]; congr 1; omega
    have hread : mR o.op = true := by
     obtain ⟨fl, _, rfl⟩ := oZ htab
     exact a7l hm ho
    have fin : ∀ H3, LK H H3 → b6r (val i) (opF P C lo' g H3) = true → ∃ H4, opD P o (T i).1 H3 = some (val i, H4) := by
     intro H3 hk3 hq
     obtain ⟨H4, h4⟩ := b6H hq
     obtain ⟨hs, _⟩ := hlow C H g (T i).1 H3 (val i) H4 hC hk3 hag h4
     refine ⟨H4, hs.opD fun c fv hc hv => ?_⟩
     rw [hc] at hread
     simp [mR, hv] at hread
    unfold b4j at hrd
    simp only [vZ, hg, hgd.runs hag hw] at hrd
    rw [jP, if_pos rfl] at hrd
    by_cases hms : m < ops.size
    ·rw [if_pos hms] at hrd
     obtain ⟨g2, hg2, _⟩ := hN.new m (eG _) (by omega)
     have hg2 : tr[ops.size - 1 - m]? = some (g2, (T m).2, val m) := by rw [← hg2]; congr 1; omega
     simp only [hg2] at hrd
     exact fin _ (hN.lk m (eG _) (by omega)) hrd
    ·rw [if_neg hms] at hrd
     have hle : m = ops.size := by
      obtain ⟨fl, _, rfl⟩ := oZ htab
      have := a1p hm
      omega
     subst hle
     have := fin H2 hlk hrd
     rw [hTn]; exact this
def tB (P : Program) : List ResultVar → List LRes → Prop
 | [], [] => True
 | r :: rs, l :: ls => (match r, l with
   | .tmp t, .t p => p = jZ t
   | .cell a t, .c1 p => p = jZ a ∧ iV P t = some false
   | .cell a t, .cn n p => p = jZ a ∧ iV P t = some true ∧ gM P t = some n
   | _, _ => False) ∧ tB P rs ls
 | _, _ => False
theorem b5c {α : Type} (l : List ResultVar) (K : List LRes → α) (no : α) : (∃ r, tB P l r ∧ zJ P l K no = K r) ∨ zJ P l K no = no := by
 induction l generalizing K with
 | nil => exact .inl ⟨[], trivial, rfl⟩
 | cons r l ih =>
   cases r with
   | tmp t =>
     have e : zJ P (.tmp t :: l) K no = kY (jZ t) fun p => zJ P l (fun l => K (.t p :: l)) no := rfl
     rw [e, kU]
     rcases ih (fun l => K (.t (jZ t) :: l)) with ⟨q, h1, h2⟩ | h2
     ·exact .inl ⟨.t (jZ t) :: q, ⟨rfl, h1⟩, h2⟩
     ·exact .inr h2
   | cell a t =>
     have e : zJ P (.cell a t :: l) K no = match iV P t with
      | some true => a1T (gM P t) no fun n => kY (jZ a) fun p => zJ P l (fun l => K (.cn n p :: l)) no
      | some false => kY (jZ a) fun p => zJ P l (fun l => K (.c1 p :: l)) no
      | none => no := rfl
     rw [e]
     split
     ·rename_i ha
      cases hn : gM P t with
      | none => exact .inr rfl
      | some n =>
        rw [oE, kU]
        rcases ih (fun l => K (.cn n (jZ a) :: l)) with ⟨q, h1, h2⟩ | h2
        ·exact .inl ⟨.cn n (jZ a) :: q, ⟨⟨rfl, ha, hn⟩, h1⟩, h2⟩
        ·exact .inr h2
     ·rename_i ha
      rw [kU]
      rcases ih (fun l => K (.c1 (jZ a) :: l)) with ⟨q, h1, h2⟩ | h2
      ·exact .inl ⟨.c1 (jZ a) :: q, ⟨⟨rfl, ha⟩, h1⟩, h2⟩
      ·exact .inr h2
     ·exact .inr rfl
theorem a9h {H H1 : Heap} {f : Fr} {l : List Value} (hf : FAg f l) {r : ResultVar} {q : LRes} {rs : List ResultVar} {qs : List LRes} (h : tB P (r :: rs) (q :: qs)) {v : Value} (hv : (a2W H f q).Is v H1) : H1 = H ∧ a0u P l H r = some v ∧ tB P rs qs := by
 obtain ⟨h, hr⟩ := h
 cases r with
 | tmp t => cases q with
   | t p =>
     have h : p = jZ t := h
     subst h
     have hv : (nH (mX (jZ t) f) fun v => Rs.ok v H).Is v H1 := hv
     rw [mA] at hv
     obtain ⟨rfl, rfl⟩ := Rs.aN hv
     exact ⟨rfl, by rw [hf t]; rfl, hr⟩
   | c1 p => exact h.elim
   | cn n p => exact h.elim
 | cell a t => cases q with
   | t p => exact h.elim
   | c1 p =>
     obtain ⟨rfl, ha⟩ := h
     obtain ⟨e, h1⟩ := a8V (P := P) (X := .t (jZ a)) (w := get l a) ha (hf a) hv
     exact ⟨e, h1, hr⟩
   | cn n p =>
     obtain ⟨rfl, ha, hn⟩ := h
     obtain ⟨e, h1⟩ := a9F (P := P) (X := .t (jZ a)) (w := get l a) ha hn (hf a) hv
     exact ⟨e, h1, hr⟩
theorem b5U {H : Heap} {f : Fr} {q : LRes} {v : Value} {H1 : Heap} : ¬ (a2W H f q = .th v H1) := by
 intro h
 cases q with
 | t p =>
   have h : (nH (mX p f) fun v => Rs.ok v H) = .th v H1 := h
   rw [mA] at h; cases h
 | c1 p =>
   have h : b1Q (.t p) f H = .th v H1 := h
   unfold b1Q at h
   split at h
   ·unfold b6C at h
    split at h
    ·rw [jP, jP, jP] at h
     split at h
     ·split at h
      ·split at h
       ·rename_i cs _ _ _ _ _ _ _ _
        cases hn : a0k cs _ with
        | none => rw [hn] at h; cases h
        | some w => rw [hn] at h; have h : (nH w fun v => Rs.ok v H) = .th v H1 := h; rw [mA] at h; cases h
       ·cases h
      ·cases h
     ·cases h
    ·cases h
   ·unfold b9w at h
    split at h
    ·rw [jP] at h
     split at h
     ·rename_i cs _ _ _ _
      cases hn : a0k cs _ with
      | none => rw [hn] at h; cases h
      | some w => rw [hn] at h; have h : (nH w fun v => Rs.ok v H) = .th v H1 := h; rw [mA] at h; cases h
     ·cases h
    ·cases h
   ·cases h
 | cn n p =>
   have hh : b0H n (.t p) f H = .th v H1 := h
   unfold b0H at hh
   split at hh
   ·unfold b7i at hh
    split at hh
    ·rw [jP, jP, jP] at hh
     split at hh
     ·split at hh
      ·split at hh
       ·have key : ∀ {cs : List Value} {n : Nat} {pre : List Value}, ¬ (a1j cs n fun l => Rs.ok (.agg ⟨pre ++ l⟩) H) = .th v H1 := by
         intro cs
         induction cs with
         | nil => intro n pre h; cases n <;> cases h
         | cons c cs ih =>
           intro n pre h
           cases n with
           | zero => cases h
           | succ n =>
             have h : (a1j cs n fun l => Rs.ok (.agg ⟨pre ++ (c :: l)⟩) H) = .th v H1 := h
             have e : ∀ l : List Value, pre ++ (c :: l) = (pre ++ [c]) ++ l := by intro l; simp
             have h2 : (a1j cs n fun l => Rs.ok (.agg ⟨(pre ++ [c]) ++ l⟩) H) = .th v H1 := by
              rw [← h]; congr 1; funext l; rw [e l]
             exact ih h2
        exact key (pre := []) hh
       ·cases hh
      ·cases hh
     ·cases hh
    ·cases hh
   ·cases hh
theorem a6t {H H1 : Heap} {f : Fr} {l : List Value} (hf : FAg f l) {v : Value} : ∀ {rs : List ResultVar} {qs : List LRes} {K : List Value → Rs}, tB P rs qs → (b2e H f qs K).Is v H1 → ∃ vs, mH P l H rs = some vs ∧ (K vs).Is v H1
 | [], [], K, _, h => ⟨[], rfl, h⟩
 | [], _ :: _, _, h, _ => h.elim
 | _ :: _, [], _, h, _ => h.elim
 | r :: rs, q :: qs, K, hl, h => by
   have h : (Rs.rec (motive := fun _ => Rs) .no (fun v _ => b2e H f qs fun l => K (v :: l)) (fun _ _ => .no) (a2W H f q)).Is v H1 := h
   cases hq : a2W H f q with
   | no => rw [hq] at h; exact absurd h Rs.ar
   | th w H2 => exact absurd hq b5U
   | ok w H2 =>
     rw [hq] at h
     obtain ⟨e, h1, h2⟩ := a9h hf hl (.inl hq)
     obtain ⟨vs, h3, h4⟩ := a6t hf h2 h
     exact ⟨w :: vs, by simp [mH, h1, h3], h4⟩
theorem b2U {fn : Func} {H H1 : Heap} {f : Fr} {l : List Value} (hf : FAg f l) {qs : List LRes} (hl : tB P fn.results.toList qs) {v : Value} (h : (a5z qs f H).Is v H1) : H1 = H ∧ gL P fn l H = some v := by
 unfold a5z at h
 split at h
 ·rename_i q
  cases hr : fn.results.toList with
  | nil => rw [hr] at hl; exact hl.elim
  | cons r rs =>
    rw [hr] at hl
    obtain ⟨e, h1, h2⟩ := a9h hf hl h
    cases rs with
    | cons _ _ => exact h2.elim
    | nil => exact ⟨e, by simp [gL, hr, mH, h1]⟩
 ·rename_i hne
  obtain ⟨vs, h1, h2⟩ := a6t hf hl h
  obtain ⟨h3, h4⟩ := kO h2
  obtain ⟨rfl, rfl⟩ := Rs.aN h4
  refine ⟨rfl, ?_⟩
  have hlen : ∀ {rs : List ResultVar} {qs : List LRes}, tB P rs qs → rs.length = qs.length := by
   intro rs
   induction rs with
   | nil => intro qs h; cases qs with | nil => rfl | cons => exact h.elim
   | cons r rs ih => intro qs h; cases qs with | nil => exact h.elim | cons q qs => simp [ih h.2]
  have hvl : ∀ {rs : List ResultVar} {vs : List Value}, mH P l H1 rs = some vs → vs.length = rs.length := by
   intro rs
   induction rs with
   | nil => intro vs h; injection h with h; subst h; rfl
   | cons r rs ih =>
     intro vs h
     simp only [mH, cX, de] at h
     obtain ⟨w, _, ws, h1, h2⟩ := h
     subst h2
     simp [ih h1]
  have hn1 : vs.length ≠ 1 := by
   rw [hvl h1, hlen hl]
   intro h1
   match qs, h1 with
   | [q], _ => exact hne q rfl
  unfold gL
  rw [h1, cV]
  rw [a9l] at h3
  have h3 : vs.all iT = true := by rw [← h3]; congr 1
  split
  ·exact absurd rfl hn1
  ·rw [if_pos h3]
structure FuncOk (P : Program) (f : FuncId) (g : LFunc) : Prop where
 ex : ∃ fn c, P.funcs[f]? = some fn ∧ fn.body = some c ∧ (fn.name == "runtime.NumGoroutine") = false ∧ g.ps = (List.range fn.ntmps).map jZ ∧ Low P fn.ntmps c g.body ∧ tB P fn.results.toList g.res
def TOk (P : Program) (T : LT) : Prop := ∀ f g, a1w (jZ f) T = some g → FuncOk P f g
def EOk (P : Program) (E : List LEnv) (H : Heap) : Prop := ∀ en ∈ E, en.L < H.length ∧ ∀ r, gY H en.L = some (.loop r) →
 ∃ k, en.ps = (List.range k).map jZ ∧ r.tmps.size = k ∧ en.pp = r.params.toList.map jZ ∧ (∀ t ∈ r.params.toList, t < k) ∧ Low P k r.assign en.a ∧ Low P k r.body en.b
theorem EOk.ae {E : List LEnv} {H H' : Heap} (h : EOk P E H) (hk : LK H H') : EOk P E H' := fun en hen => by
 obtain ⟨h1, h2⟩ := h en hen
 refine ⟨dE h1 hk.1, fun r' hr' => ?_⟩
 obtain ⟨r, hr, ea, eb, ep, et⟩ := hk.2 en.L r' h1 hr'
 obtain ⟨k, a, b, c, d, e, f⟩ := h2 r hr
 exact ⟨k, a, by rw [et]; exact b, by rw [ep]; exact c, by rw [ep]; exact d, by rw [ea]; exact e, by rw [eb]; exact f⟩
def a2w (P : Program) (ih : oW) : Prop := ∀ (E : List LEnv) (C : LCode) (k : Nat) (c : Code) (f : Fr) (l : List Value) (H : Heap) (e : Ex) (f1 : Fr) (H1 : Heap), Low P k c C → FRel k f l → EOk P E H → ih E C f H = .ok e f1 H1 →
 ∃ l1, FRel k f1 l1 ∧ Sim P c l H e l1 H1 ∧ LK H H1 ∧ ∀ b, c = .loop b → ∃ n, Rounds P b n l H e l1 H1
theorem yV {α : Type} {no : α} : ∀ {l : List Value} {i m : Nat} {f : Fr} {K : Fr → α}, (oB no l ((List.range' i m).map jZ) f K = no) ∨ (l.length ≤ m ∧ ∃ f', oB no l ((List.range' i m).map jZ) f K = K f' ∧ ∀ t, mX (jZ t) f' = if i ≤ t ∧ t < i + l.length then get l (t - i) else mX (jZ t) f)
 | [], i, m, f, K => .inr ⟨eG _, f, rfl, fun t => by rw [if_neg (by simp only [ef]; omega)]⟩
 | v :: l, i, 0, f, K => .inl rfl
 | v :: l, i, m + 1, f, K => by
   have e : oB no (v :: l) ((List.range' i (m + 1)).map jZ) f K = oO v (jZ i) f fun f => oB no l ((List.range' (i + 1) m).map jZ) f K := by
    rw [gg]; rfl
   rw [e, rX]
   rcases yV (l := l) (i := i + 1) (m := m) (f := b3n f i v) (K := K) with h | ⟨h1, f', h2, h3⟩
   ·exact .inl h
   ·refine .inr ⟨by simp; omega, f', h2, fun t => ?_⟩
    rw [h3 t, a2p]
    by_cases ht : t = i
    ·subst ht
     rw [if_neg (by omega), if_pos rfl, if_pos (by simp), Nat.sub_self]; rfl
    ·rw [if_neg ht]
     by_cases h4 : i + 1 ≤ t ∧ t < i + 1 + l.length
     ·rw [if_pos h4, if_pos (by simp; omega)]
      rw [show t - i = (t - (i + 1)) + 1 by omega]; rfl
     ·rw [if_neg h4, if_neg (by simp; omega)]
theorem uP {α : Type} {no : α} {k : Nat} : ∀ {args : List Value} {ps : List Tmp} {f : Fr} {l : List Value} {K : Fr → α}, FRel k f l → (∀ t ∈ ps, t < k) → args.length = ps.length →
 ∃ f', oB no args (ps.map jZ) f K = K f' ∧ FRel k f' ((ps.zip args).foldl (fun t (p, v) => t.set p v) l)
 | [], [], f, l, K, hf, _, _ => ⟨f, rfl, hf⟩
 | v :: args, p :: ps, f, l, K, hf, hp, he => by
   have e : oB no (v :: args) ((p :: ps).map jZ) f K = oO v (jZ p) f fun f => oB no args (ps.map jZ) f K := rfl
   rw [e, rX]
   exact uP (hf.set (hp p (by simp)) v) (fun t ht => hp t (by simp [ht])) (by simpa using he)
 | [], _ :: _, _, _, _, _, _, he => by simp at he
 | _ :: _, [], _, _, _, _, _, he => by simp at he
theorem xN (l : List Value) (n t : Nat) : get (l ++ List.replicate n undef) t = get l t := by
 rw [nK, nK]
 simp only [cZ]
 by_cases h : t < l.length
 ·rw [ee h]
 ·rw [dW (by omega), dV (l := l) (by omega), gy]
  split <;> rfl
theorem zA {T : LT} (hT : TOk P T) {ih : oW} (hih : a2w P ih) {E : List LEnv} {p : Pth} {f : FuncId} {args : List Value} {H H1 : Heap} {v : Value} (hE : EOk P E H) (hp : p = jZ f) (h : (nI T ih E p args H).Is v H1) :
 FnS P f args H (fun v' H' => v' = v ∧ H' = H1) ∧ LK H H1 := by
 unfold nI at h
 split at h
 case h_2 => exact absurd h Rs.ar
 rename_i g hg
 subst hp
 obtain ⟨fn, c, hfn, hb, hn, hps, hlow, hres⟩ := (hT f g hg).ex
 rw [hps] at h
 rw [fu] at h
 rcases yV (no := Rs.no) (l := args) (i := 0) (m := fn.ntmps) (f := .e) (K := fun f => c0k g.res (ih E g.body f H)) with h1 | ⟨h1, f0, h2, h3⟩
 ·rw [h1] at h; exact absurd h Rs.ar
 ·rw [h2] at h
  have hf0 : FRel fn.ntmps f0 (args ++ List.replicate (fn.ntmps - args.length) undef) := by
   refine ⟨by simp; omega, fun t => ?_⟩
   rw [h3 t, xN]
   by_cases ht : t < args.length
   ·rw [if_pos (by omega)]; rfl
   ·rw [if_neg (by omega), sW, nK, cZ, dV (by omega)]; try rfl
  cases hr : ih E g.body f0 H with
  | no => rw [hr] at h; exact absurd h Rs.ar
  | ok e f1 H2 =>
    rw [hr] at h
    obtain ⟨l1, hf1, hs, hk, _⟩ := hih E g.body fn.ntmps c f0 _ H e f1 H2 hlow hf0 hE hr
    have key : (e = .normal ∨ e = .ret) → (a5z g.res f1 H2).Is v H1 → FnS P f args H (fun v' H' => v' = v ∧ H' = H1) ∧ LK H H1 := by
     intro he hv
     obtain ⟨rfl, hv⟩ := b2U hf1.2 hres hv
     exact ⟨⟨fn, c, e, l1, H1, v, hfn, hb, hn, hs, he, hv, rfl, rfl⟩, hk⟩
    cases e with
    | normal => exact key (.inl rfl) h
    | ret => exact key (.inr rfl) h
    | exit id => exact absurd h Rs.ar
theorem b5b {T : LT} (hT : TOk P T) {ih : oW} (hih : a2w P ih) {E : List LEnv} {p : Pth} {f : FuncId} {args : List Value} {H H1 : Heap} {v : Value} (hE : EOk P E H) (hp : p = jZ f) (h : (b3c P T ih E p f args H).Is v H1) :
 (FnS P f args H (fun v' H' => v' = v ∧ H' = H1) ∨ pA P f args H = some (v, H1)) ∧ LK H H1 := by
 unfold b3c at h
 cases hg : a1w p T with
 | some g =>
   rw [hg] at h
   obtain ⟨a, b⟩ := zA (H1 := H1) (v := v) hT hih hE hp (by unfold nI; rw [hg]; exact h)
   exact ⟨.inl a, b⟩
 | none =>
   rw [hg] at h
   have h : (c0t P f args H).Is v H1 := h
   unfold c0t at h
   split at h
   ·rename_i v2 H2 hx
    obtain ⟨rfl, rfl⟩ := Rs.aP h
    exact ⟨.inr hx, a3Z hx⟩
   ·exact absurd h Rs.ar
theorem a8C {E : List LEnv} {L : Nat} {en : LEnv} (h : b2C E L = some en) : en ∈ E ∧ en.L = L := by
 induction E with
 | nil => cases h
 | cons e E ih =>
   have h : mU (Nat.beq e.L L) (b2C E L) (some e) = some en := h
   rw [jP] at h
   split at h
   ·rename_i hh
    injection h with h
    subst h
    exact ⟨by simp, dL hh⟩
   ·obtain ⟨h1, h2⟩ := ih h
    exact ⟨eC _ h1, h2⟩
theorem a4U (e : Ex) : b8a e = qH e := by cases e <;> rfl
theorem a9K {ih : oW} (hih : a2w P ih) {E : List LEnv} {L : Nat} {args : List Value} {H H1 : Heap} {v : Value} (hE : EOk P E H) (h : (a6P ih E L args H).Is v H1) : wF P L args H v H1 ∧ LK H H1 := by
 unfold a6P at h
 split at h
 case h_2 => exact absurd h Rs.ar
 rename_i en hen
 obtain ⟨hmem, rfl⟩ := a8C hen
 split at h
 case h_2 => exact absurd h Rs.ar
 rename_i p fn tmps ps a b d hg
 obtain ⟨hlen, h⟩ := kO h
 rw [wT] at hlen
 have hlen : ps.size = args.length := by simpa only [decide_eq_true_eq] using hlen
 obtain ⟨k, hps, hsz, hpp, hpk, hla, hlb⟩ := (hE en hmem).2 _ hg
 have hsz : tmps.length = k := by simpa using hsz
 rw [hps, fu] at h
 rcases yV (no := Rs.no) (l := tmps) (i := 0) (m := k) (f := .e) (K := fun f => oB .no args en.pp f fun f => rO ih E en (ih E en.a f H)) with h1 | ⟨h1, f0, h2, h3⟩
 ·rw [h1] at h; exact absurd h Rs.ar
 rw [h2] at h
 have hf0 : FRel k f0 tmps := by
  refine ⟨hsz, fun t => ?_⟩
  rw [h3 t]
  by_cases ht : t < tmps.length
  ·rw [if_pos (by omega)]; rfl
  ·rw [if_neg (by omega), sW, nK, cZ, dV (by omega)]; try rfl
 rw [hpp] at h
 obtain ⟨f2, h4, hf2⟩ := uP (no := Rs.no) (args := args) (ps := ps.toList) (K := fun f => rO ih E en (ih E en.a f H)) hf0 hpk (by simpa using hlen.symm)
 have h : (oB Rs.no args (List.map jZ ps.toList) f0 fun f => rO ih E en (ih E en.a f H)).Is v H1 := h
 rw [h4] at h
 cases hr1 : ih E en.a f2 H with
 | no => rw [hr1] at h; exact absurd h Rs.ar
 | ok e f3 H2 =>
   rw [hr1] at h
   obtain ⟨l3, hf3, hs1, hk1, _⟩ := hih E en.a k a f2 _ H e f3 H2 hla hf2 hE hr1
   cases e with
   | ret => exact absurd h Rs.ar
   | exit id => exact absurd h Rs.ar
   | normal =>
     have h : (yG ih E en f3 H2).Is v H1 := h
     unfold yG at h
     split at h
     case h_2 => exact absurd h Rs.ar
     rename_i p2 fn2 tmps2 ps2 a2 b2 d2 hg2
     rw [lM] at h
     obtain ⟨r0, hr0, ea, eb, ep, et⟩ := hk1.2 en.L _ (hE en hmem).1 hg2
     rw [hg] at hr0
     injection hr0 with hr0
     injection hr0 with hr0
     subst hr0
     have ea' : a2 = a := ea
     have eb' : b2 = b := eb
     have ep' : ps2 = ps := ep
     have et' : tmps2 = ⟨tmps⟩ := et
     clear ea eb ep et
     subst ea' eb' ep' et'
     have hk2 : LK H2 (hset H2 en.L (.loop ⟨.busy, p2, fn2, ⟨tmps⟩, ps2, a2, b2, d2⟩)) := .loop hg2 ⟨rfl, rfl, rfl, rfl⟩
     cases hr2 : ih E en.b f3 (hset H2 en.L (.loop ⟨.busy, p2, fn2, ⟨tmps⟩, ps2, a2, b2, d2⟩)) with
     | no => rw [hr2] at h; exact absurd h Rs.ar
     | ok e f4 H3 =>
       rw [hr2] at h
       obtain ⟨l4, _, hs2, hk3, _⟩ := hih E en.b k b2 f3 _ _ e f4 H3 hlb hf3 (hE.ae (hk1.trans hk2)) hr2
       have h : (a0V en.L e H3).Is v H1 := h
       unfold a0V at h
       split at h
       case h_2 => exact absurd h Rs.ar
       rename_i st3 p3 fn3 tmps3 ps3 a3 b3 d3 hg3
       have fin : ∀ r', H1 = hset H3 en.L (.loop r') → (r' = { (⟨st3, p3, fn3, tmps3, ps3, a3, b3, d3⟩ : Loop) with state := if (qH e).isNone then .ready else .done, pending := qH e }) → v = .bool (qH e).isNone → wF P en.L args H v H1 ∧ LK H H1 := by
        intro r' hH hr' hv
        refine ⟨?_, hk1.trans (hk2.trans (hk3.trans (by rw [hH]; exact .loop hg3 (by rw [hr']; exact ⟨rfl, rfl, rfl, rfl⟩))))⟩
        have hW := mV (P := P) (args := args) (K := fun v' H' => v' = v ∧ H' = H1) hg hlen rfl
         ⟨.normal, l3, H2, hs1, rfl, _, hg2, rfl, e, l4, H3, hs2, _, hg3, hv.symm, by rw [hH, hr']⟩
        obtain ⟨v', H', h1, rfl, rfl⟩ := hW
        exact h1
       split at h
       ·rename_i hj
        obtain ⟨rfl, rfl⟩ := Rs.aP h
        rw [a4U] at hj
        exact fin _ rfl (by rw [hj]; rfl) (by rw [hj]; rfl)
       ·rename_i c hj
        obtain ⟨rfl, rfl⟩ := Rs.aP h
        rw [a4U] at hj
        exact fin _ rfl (by rw [hj]; rfl) (by rw [hj]; rfl)
theorem a2X {T : LT} (hT : TOk P T) {ih : oW} (hih : a2w P ih) {E : List LEnv} {H0 : Heap} (hE : EOk P E H0) : CallsOk P (yI P T ih E) H0 where
 fn p f args H v H1 hk h hp := b5b hT hih (hE.ae hk) hp h
 rd L args H v H1 hk h := a9K hih (hE.ae hk) h
theorem b8E {α : Type} {f : Fr} {l : List Value} (hf : FAg f l) (i m : Nat) (K : List Value → α) : frL f ((List.range' i m).map jZ) K = K ((List.range' i m).map (get l)) := by
 induction m generalizing i K with
 | zero => rfl
 | succ m ih =>
   have e : frL f ((List.range' i (m + 1)).map jZ) K = nH (mX (jZ i) f) fun v => frL f ((List.range' (i + 1) m).map jZ) fun l => K (v :: l) := by
    rw [gg]; rfl
   rw [e, mA, ih, hf i, gg]; rfl
theorem b7g {α : Type} {k : Nat} {f : Fr} {l : List Value} (hf : FRel k f l) (K : List Value → α) : frL f ((List.range k).map jZ) K = K l := by
 rw [fu, b8E hf.2, ← fu]
 congr 1
 apply List.ext_getElem?
 intro i
 rw [eB]
 by_cases hi : i < k
 ·rw [List.getElem?_range hi, dK, nK, cZ]
  have : i < l.length := by rw [hf.1]; exact hi
  simp [dp this]
 ·rw [dV (by simp; omega), dV (by rw [hf.1]; omega)]; rfl
theorem b0G {T : LT} (hT : TOk P T) {ih : oW} (hih : a2w P ih) {E : List LEnv} {k : Nat} {g : Operand} {ps : Array Tmp} {assign body : Code} {A B : LCode} (hg : hP g = true) (hps : ∀ t ∈ ps.toList, t < k) (ha : Low P k assign A) (hb : Low P k body B)
 {x1 x2 : Fr → Heap → Rc} {f : Fr} {l : List Value} {H : Heap} {e : Ex} {f1 : Fr} {H1 : Heap} (hf : FRel k f l) (hE : EOk P E H) (h : a7W T ih E (iE g) ((List.range k).map jZ) (ps.toList.map jZ) ps assign body A B x1 x2 f H = .ok e f1 H1) :
 f1 = f ∧ Sim P (.rangeFunc g ps assign body) l H e l H1 ∧ LK H H1 := by
 unfold a7W at h
 rw [jA hf.2] at h
 split at h
 case h_2 => cases h
 rename_i j xa xb hgv
 rw [jF, b7g hf, lM, jF] at h
 unfold a8Q at h
 rw [kU] at h
 generalize hH0 : H.cons (.loop ⟨.ready, none, 0, ⟨l⟩, ps, assign, body, 0⟩) = H0 at h
 have hl0 : (⟨.ready, none, 0, ⟨l⟩, ps, assign, body, 0⟩ : Loop) = a9p l ps assign body := rfl
 have hE0 : EOk P (⟨H.length, (List.range k).map jZ, ps.toList.map jZ, A, B⟩ :: E) H0 := by
  intro en hen
  rcases eo.1 hen with rfl | hen
  ·refine ⟨by rw [← hH0, length_cons]; exact Nat.lt_succ_self _, fun r hr => ?_⟩
   rw [← hH0, gW] at hr
   injection hr with hr
   injection hr with hr
   subst hr
   exact ⟨k, rfl, by simpa using hf.1, rfl, hps, ha, hb⟩
  ·exact (hE.ae (by rw [← hH0]; exact .cons _ _)) en hen
 have key : ∀ v H2, (nI T ih (⟨H.length, (List.range k).map jZ, ps.toList.map jZ, A, B⟩ :: E) (jZ j) (a3r xa (.func (.yield H.length) #[] #[] :: xb)) H0).Is v H2 → sL H.length f H2 = .ok e f1 H1 → f1 = f ∧ Sim P (.rangeFunc g ps assign body) l H e l H1 ∧ LK H H1 := by
  intro v H2 hc hr
  obtain ⟨hfn, hk⟩ := zA hT hih hE0 rfl hc
  have hargs : a3r xa (.func (.yield H.length) #[] #[] :: xb) = xa ++ [.func (.yield H.length) #[] #[]] ++ xb := by rw [wX]; simp
  rw [hargs, ← hH0, hl0] at hfn
  have fin : ∀ (r : Loop) (H3 : Heap), gY H2 H.length = some (.loop r) → r.state ≠ .busy → H3 = hset H2 H.length (.loop { r with state := .exhausted }) → (r.pending = none → e = .normal) → (∀ c, r.pending = some c → (c = .ret ∧ e = .ret) ∨ ∃ id, c = .exit id ∧ e = .exit id) → f1 = f → H1 = H3 →
   f1 = f ∧ Sim P (.rangeFunc g ps assign body) l H e l H1 ∧ LK H H1 := by
   intro r H3 hrl hnb hH3 hp0 hp1 he1 he2
   have hw : Wp P (.rangeFunc g ps assign body) l H (fun e' l' H' => e' = e ∧ l' = l ∧ H' = H3) := by
    refine Wp.range (first := xa) (captured := xb) hg (by rw [hgv]) (hfn.mono ?_)
    rintro v' H' ⟨rfl, rfl⟩
    refine ⟨r, hrl, hnb, fun hp => ⟨(hp0 hp).symm, rfl, hH3.symm⟩, fun c hc => ?_⟩
    rcases hp1 c hc with ⟨rfl, he⟩ | ⟨id, rfl, he⟩
    ·exact Wp.ret ⟨he.symm, rfl, hH3.symm⟩
    ·exact Wp.exit ⟨he.symm, rfl, hH3.symm⟩
   obtain ⟨e', l', H', hs, rfl, rfl, rfl⟩ := hw
   refine ⟨he1, by rw [he2]; exact hs, ?_⟩
   rw [he2, hH3]
   have h1 : LK H H0 := by rw [← hH0]; exact .cons _ _
   exact h1.trans (hk.trans (.loop hrl ⟨rfl, rfl, rfl, rfl⟩))
  unfold sL at hr
  split at hr
  ·rename_i hg2
   rw [lM] at hr
   injection hr with h1 h2 h3
   exact fin _ _ hg2 (by simp) rfl (fun _ => h1.symm) (fun c hc => by cases hc) h2.symm h3.symm
  ·rename_i hg2
   rw [lM] at hr
   injection hr with h1 h2 h3
   exact fin _ _ hg2 (by simp) rfl (fun _ => h1.symm) (fun c hc => by cases hc) h2.symm h3.symm
  ·rename_i hg2
   rw [lM] at hr
   injection hr with h1 h2 h3
   exact fin _ _ hg2 (by simp) rfl (fun hc => by cases hc) (fun c hc => by injection hc with hc; subst hc; exact .inl ⟨rfl, h1.symm⟩) h2.symm h3.symm
  ·rename_i hg2
   rw [lM] at hr
   injection hr with h1 h2 h3
   exact fin _ _ hg2 (by simp) rfl (fun hc => by cases hc) (fun c hc => by injection hc with hc; subst hc; exact .inr ⟨_, rfl, h1.symm⟩) h2.symm h3.symm
  ·cases hr
 cases hc : nI T ih (⟨H.length, (List.range k).map jZ, ps.toList.map jZ, A, B⟩ :: E) (jZ j) (a3r xa (.func (.yield H.length) #[] #[] :: xb)) H0 with
 | no => rw [hc] at h; cases h
 | ok v H2 => rw [hc] at h; exact key v H2 (.inl hc) h
 | th v H2 =>
   rw [hc] at h
   have h : mQ H2 (fun H => sL _ f H) = .ok e f1 H1 := h
   rw [lM] at h
   exact key v H2 (.inr hc) h
theorem b8R (iZ : P.follows .mixedOrders = true) {T : LT} (hT : TOk P T) : ∀ n, a2w P (exF P T n) := by
 intro n
 induction n with
 | zero => intro E C k c f l H e f1 H1 _ _ _ h; cases h
 | succ n ih =>
   intro E C k c f l H e f1 H1 hlow hf hE h
   have h : a9e P T (exF P T n) E C f H = .ok e f1 H1 := h
   have noloop : ∀ {c : Code}, (∀ b, c ≠ .loop b) → ∀ {l1 : List Value}, ∀ b, c = .loop b → ∃ n, Rounds P b n l H e l1 H1 := fun hne _ b hb => absurd hb (hne b)
   cases hlow with
   | bad => cases h
   | skip =>
     injection h with h1 h2 h3; subst h1 h2 h3
     exact ⟨l, hf, .skip l H, .refl H, noloop (by intro b h; cases h)⟩
   | label t =>
     injection h with h1 h2 h3; subst h1 h2 h3
     exact ⟨l, hf, .label t l H, .refl H, noloop (by intro b h; cases h)⟩
   | exit id =>
     injection h with h1 h2 h3; subst h1 h2 h3
     exact ⟨l, hf, .exit id l H, .refl H, noloop (by intro b h; cases h)⟩
   | ret =>
     injection h with h1 h2 h3; subst h1 h2 h3
     exact ⟨l, hf, .ret l H, .refl H, noloop (by intro b h; cases h)⟩
   | @reg id ops d lo hlo hd =>
     have h : c2J (xJ P (yI P T (exF P T n) E) lo f H) = .ok e f1 H1 := h
     cases hr : xJ P (yI P T (exF P T n) E) lo f H with
     | no => rw [hr] at h; cases h
     | ok f2 H2 =>
       rw [hr] at h
       injection h with h1 h2 h3; subst h1 h2 h3
       obtain ⟨l1, hf1, hops, hk⟩ := b6J (a2X hT ih hE) hlo (i := 0) rfl hf (.refl H) hr
       have hops : OpsR P ops (List.range ops.size) l H l1 H2 := by rw [fu]; simpa using hops
       refine ⟨l1, hf1, ?_, hk, noloop (by intro b h; cases h)⟩
       cases d with
       | false => exact .region hops
       | true => exact .bX iZ (hd rfl) hops
   | drw hlo ht hl =>
     obtain ⟨l1, rfl, hf1, hs, hk⟩ := b5D iZ (a2X hT ih hE) hlo ht hl hf h
     exact ⟨l1, hf1, hs, hk, noloop (by intro b h; cases h)⟩
   | @seq a b A B ha hb =>
     have h : b6P (exF P T n) E B (exF P T n E A f H) = .ok e f1 H1 := h
     cases hr : exF P T n E A f H with
     | no => rw [hr] at h; cases h
     | ok e2 f2 H2 =>
       rw [hr] at h
       obtain ⟨l2, hf2, hs, hk, _⟩ := ih E A k a f l H e2 f2 H2 ha hf hE hr
       cases e2 with
       | normal =>
         obtain ⟨l1, hf1, hs1, hk1, _⟩ := ih E B k b f2 l2 H2 e f1 H1 hb hf2 (hE.ae hk) h
         exact ⟨l1, hf1, .seq hs hs1, hk.trans hk1, noloop (by intro b h; cases h)⟩
       | ret =>
         injection h with h1 h2 h3; subst h1 h2 h3
         exact ⟨l2, hf2, .seq' hs (by intro h; cases h), hk, noloop (by intro b h; cases h)⟩
       | exit id =>
         injection h with h1 h2 h3; subst h1 h2 h3
         exact ⟨l2, hf2, .seq' hs (by intro h; cases h), hk, noloop (by intro b h; cases h)⟩
   | @cond c x y X Y hc hx hy =>
     have h : b2z (exF P T n) E (iE c) X Y (a9e P T (exF P T n) E X) (a9e P T (exF P T n) E Y) f H = .ok e f1 H1 := h
     unfold b2z at h
     rw [jA hf.2] at h
     split at h
     ·rename_i t ht
      cases t with
      | true =>
        obtain ⟨l1, hf1, hs, hk, _⟩ := ih E X k x f l H e f1 H1 hx hf hE h
        exact ⟨l1, hf1, .cond ht hc hs, hk, noloop (by intro b h; cases h)⟩
      | false =>
        obtain ⟨l1, hf1, hs, hk, _⟩ := ih E Y k y f l H e f1 H1 hy hf hE h
        exact ⟨l1, hf1, .cond ht hc hs, hk, noloop (by intro b h; cases h)⟩
     ·cases h
   | @block id b B hb =>
     have h : c0L id (exF P T n E B f H) = .ok e f1 H1 := h
     cases hr : exF P T n E B f H with
     | no => rw [hr] at h; cases h
     | ok e2 f2 H2 =>
       rw [hr] at h
       obtain ⟨l2, hf2, hs, hk, _⟩ := ih E B k b f l H e2 f2 H2 hb hf hE hr
       have hs' : Sim P (.block id b) l H (e2.out id) l2 H2 := .block hs
       cases e2 with
       | normal => injection h with h1 h2 h3; subst h1 h2 h3; exact ⟨l2, hf2, hs', hk, noloop (by intro b h; cases h)⟩
       | ret => injection h with h1 h2 h3; subst h1 h2 h3; exact ⟨l2, hf2, hs', hk, noloop (by intro b h; cases h)⟩
       | exit i =>
         have h : Rc.ok (Bool.rec (motive := fun _ => Ex) (.exit i) .normal (Nat.beq i id)) f2 H2 = .ok e f1 H1 := h
         injection h with h1 h2 h3; subst h2 h3
         have : (Ex.exit i).out id = e := by
          rw [← h1]
          by_cases hi : i = id
          ·subst hi; simp [Ex.out]
          ·have : Nat.beq i id = false := fJ.2 fun e => hi (dL e)
           simp [Ex.out, hi, this]
         rw [this] at hs'
         exact ⟨l2, hf2, hs', hk, noloop (by intro b h; cases h)⟩
   | @loop b B hb =>
     have h : b6P (exF P T n) E (.loop B) (exF P T n E B f H) = .ok e f1 H1 := h
     cases hr : exF P T n E B f H with
     | no => rw [hr] at h; cases h
     | ok e2 f2 H2 =>
       rw [hr] at h
       obtain ⟨l2, hf2, hs, hk, _⟩ := ih E B k b f l H e2 f2 H2 hb hf hE hr
       have last : e2 ≠ .normal → e2 = e → f2 = f1 → H2 = H1 → ∃ l1, FRel k f1 l1 ∧ Sim P (.loop b) l H e l1 H1 ∧ LK H H1 ∧ ∀ b', Code.loop b = .loop b' → ∃ n, Rounds P b' n l H e l1 H1 := by
        intro hne h1 h2 h3
        subst h1 h2 h3
        have hr : Rounds P b 1 l H e2 l2 H2 := .last hs hne
        exact ⟨l2, hf2, .loop hr, hk, fun b' hb' => by injection hb' with hb'; subst hb'; exact ⟨1, hr⟩⟩
       cases e2 with
       | normal =>
         obtain ⟨l1, hf1, hs1, hk1, hro⟩ := ih E (.loop B) k (.loop b) f2 l2 H2 e f1 H1 (.loop hb) hf2 (hE.ae hk) h
         obtain ⟨m, hm⟩ := hro b rfl
         have hr : Rounds P b (m + 1) l H e l1 H1 := .more hs hm
         exact ⟨l1, hf1, .loop hr, hk.trans hk1, fun b' hb' => by injection hb' with hb'; subst hb'; exact ⟨_, hr⟩⟩
       | ret => injection h with h1 h2 h3; exact last (by intro h; cases h) h1 h2 h3
       | exit id => injection h with h1 h2 h3; exact last (by intro h; cases h) h1 h2 h3
   | range hg hps ha hb =>
     obtain ⟨rfl, hs, hk⟩ := b0G (x1 := fun _ _ => .no) (x2 := fun _ _ => .no) hT ih hg hps ha hb hf hE h
     exact ⟨l, hf, hs, hk, noloop (by intro b h; cases h)⟩
theorem wC {α : Type} (v : LFunc) (p : Pth) (f : LT) (K : LT → α) : qT v p f K = K (qT v p f fun f => f) := by
 induction p generalizing f α with
 | z => cases f <;> rfl
 | l p ih =>
   cases f with
   | e =>
     show qT v p .e (fun l => K (.n none l .e)) = K (qT v p .e fun l => .n none l .e)
     rw [ih, ih (K := fun l => LT.n none l .e)]
   | n w l r =>
     show qT v p l (fun l => K (.n w l r)) = K (qT v p l fun l => .n w l r)
     rw [ih, ih (K := fun l => LT.n w l r)]
 | r p ih =>
   cases f with
   | e =>
     show qT v p .e (fun l => K (.n none .e l)) = K (qT v p .e fun l => .n none .e l)
     rw [ih, ih (K := fun l => LT.n none .e l)]
   | n w l r =>
     show qT v p r (fun r => K (.n w l r)) = K (qT v p r fun r => .n w l r)
     rw [ih, ih (K := fun r => LT.n w l r)]
theorem uV (p : Pth) : a1w p .e = none := by cases p <;> rfl
theorem b0X (v : LFunc) (p q : Pth) (f : LT) {g : LFunc} (h : a1w q (qT v p f fun f => f) = some g) : (q = p ∧ g = v) ∨ a1w q f = some g := by
 induction p generalizing f q with
 | z =>
   cases q with
   | z => left; refine ⟨rfl, ?_⟩; cases f <;> (injection h with h; exact h.symm)
   | l q => right; cases f with
     | e => have h : a1w q .e = some g := h
            rw [uV] at h; cases h
     | n => exact h
   | r q => right; cases f with
     | e => have h : a1w q .e = some g := h
            rw [uV] at h; cases h
     | n => exact h
 | l p ih =>
   have h1 : ∀ f, qT v (.l p) f (fun f => f) = match f with | .e => .n none (qT v p .e fun f => f) .e | .n w l r => .n w (qT v p l fun f => f) r := fun f => by
    cases f with
    | e => exact wC v p .e fun l => LT.n none l .e
    | n w l r => exact wC v p l fun l => LT.n w l r
   rw [h1] at h
   cases q with
   | z => right; cases f with
     | e => exact h
     | n => exact h
   | r q => right; cases f with
     | e => have h : a1w q .e = some g := h
            rw [uV] at h; cases h
     | n => exact h
   | l q =>
     cases f with
     | e =>
       rcases ih q .e h with ⟨rfl, hq⟩ | h
       ·exact .inl ⟨rfl, hq⟩
       ·rw [uV] at h; cases h
     | n w l r =>
       rcases ih q l h with ⟨rfl, hq⟩ | h
       ·exact .inl ⟨rfl, hq⟩
       ·exact .inr h
 | r p ih =>
   have h1 : ∀ f, qT v (.r p) f (fun f => f) = match f with | .e => .n none .e (qT v p .e fun f => f) | .n w l r => .n w l (qT v p r fun f => f) := fun f => by
    cases f with
    | e => exact wC v p .e fun l => LT.n none .e l
    | n w l r => exact wC v p r fun r => LT.n w l r
   rw [h1] at h
   cases q with
   | z => right; cases f with
     | e => exact h
     | n => exact h
   | l q => right; cases f with
     | e => have h : a1w q .e = some g := h
            rw [uV] at h; cases h
     | n => exact h
   | r q =>
     cases f with
     | e =>
       rcases ih q .e h with ⟨rfl, hq⟩ | h
       ·exact .inl ⟨rfl, hq⟩
       ·rw [uV] at h; cases h
     | n w l r =>
       rcases ih q r h with ⟨rfl, hq⟩ | h
       ·exact .inl ⟨rfl, hq⟩
       ·exact .inr h
theorem b0S {α : Type} (f : FuncId) (no : α) (K : LFunc → α) : (∃ g, FuncOk P f g ∧ a1H P f no K = K g) ∨ a1H P f no K = no := by
 unfold a1H
 split
 ·rename_i fn hfn
  split
  ·rename_i c hb
   rw [jP]
   split
   ·exact .inr rfl
   ·rename_i hn
    rcases b5c (P := P) fn.results.toList (fun res => b1E fn.ntmps fun ps => mF P fn.ntmps c fun b => K ⟨ps, b, res⟩) no with ⟨res, hres, h1⟩ | h1
    ·rw [h1, a9j]
     obtain ⟨C, hC, h2⟩ := b1p (P := P) fn.ntmps c (fun b => K ⟨(List.range fn.ntmps).map jZ, b, res⟩)
     exact .inl ⟨⟨_, C, res⟩, ⟨fn, c, hfn, hb, by simpa using hn, rfl, hC, hres⟩, h2⟩
    ·exact .inr h1
  ·exact .inr rfl
 ·exact .inr rfl
theorem b3T {α : Type} (fs : List FuncId) (T : LT) (hT : TOk P T) (K : LT → α) : ∃ T', TOk P T' ∧ tE P fs T K = K T' := by
 induction fs generalizing T with
 | nil => exact ⟨T, hT, rfl⟩
 | cons f fs ih =>
   have e : tE P (f :: fs) T K = a1H P f (tE P fs T K) fun g => kY (jZ f) fun p => qT g p T fun T => tE P fs T K := rfl
   rw [e]
   rcases b0S (P := P) f (tE P fs T K) (fun g => kY (jZ f) fun p => qT g p T fun T => tE P fs T K) with ⟨g, hg, h⟩ | h
   ·rw [h, kU, wC]
    refine ih _ fun f' g' h' => ?_
    rcases b0X g (jZ f) (jZ f') T h' with ⟨he, rfl⟩ | h'
    ·rw [a9A he]; exact hg
    ·exact hT f' g' h'
   ·rw [h]; exact ih T hT
end Go.Ds
namespace Go.Ds
open Go.Proofs Go.Proofs.Tryz
def t64 : List Nat := [0, 1, 56, 2, 57, 49, 28, 3, 61, 58, 42, 50, 38, 29, 17, 4, 62, 47, 59, 36, 45, 43, 51, 22, 53, 39, 33, 30, 24, 18, 12, 5, 63, 55, 48, 27, 60, 41, 37, 16, 46, 35, 44, 21, 52, 32, 23, 11, 54, 26, 40, 15, 34, 20, 31, 10, 25, 14, 19, 9, 13, 8, 7, 6]
def t32 : List Nat := [0, 1, 28, 2, 29, 14, 24, 3, 30, 22, 20, 15, 25, 17, 4, 8, 31, 27, 13, 23, 21, 19, 16, 7, 26, 12, 18, 6, 11, 5, 10, 9]
noncomputable def gH : Heap := ((((Heap.nil.cons (.cells (t64.map fun (n : Nat) => Value.int .u8 (.ofNat n)) 5 false 0 1)).cons (.cells [] 3 false 0 1)).cons (.cells ([1, 10, 100, 1000, 10000, 100000, 1000000, 10000000, 100000000, 1000000000, 10000000000, 100000000000, 1000000000000, 10000000000000, 100000000000000, 1000000000000000, 10000000000000000, 100000000000000000, 1000000000000000000, 10000000000000000000].map fun (n : Nat) => Value.int .u64 (.ofNat n)) 54 false 0 1)).cons (.cells (t32.map fun (n : Nat) => Value.int .u8 (.ofNat n)) 5 false 0 1))
theorem c2V : prog.follows .mixedOrders = true := by kernel_rfl
def b0L : Nat → Nat → List UInt8 → List UInt8
 | 0, _, acc => acc
 | f + 1, n, acc => if n < 10 then (48 + n).toUInt8 :: acc else b0L f (n / 10) ((48 + n % 10).toUInt8 :: acc)
def oA (n : Nat) : ByteArray := ⟨(b0L 100 n []).toArray⟩
theorem a4e {b : ByteArray} {n : Nat} (h : b.data.toList = b0L 100 n []) : b = oA n := by
 cases b with | mk d => cases d with | mk l => simp only at h; subst h; rfl
def a9s (r : Rs) (n : Nat) : Bool := match r with
 | .ok (.string b) _ => decide (b.data.toList = b0L 100 n [])
 | .th (.string b) _ => decide (b.data.toList = b0L 100 n [])
 | _ => false
def b5T (v : Value) (n : Nat) : Bool := match v with
 | .tuple vs => match vs.toList with
   | [.string b, .int .i64 m] => decide (m = 0) && decide (b.data.toList = b0L 100 n [])
   | _ => false
 | _ => false
def b3C (r : Rs) (n : Nat) : Bool := match r with
 | .ok v _ => b5T v n
 | .th v _ => b5T v n
 | _ => false
def b2Q (r : Rs) (n : Int) : Bool := match r with
 | .ok (.int .i64 m) _ => decide (m = n)
 | .th (.int .i64 m) _ => decide (m = n)
 | _ => false
noncomputable def b8f (ps : List Nat) : Bool := tE prog [199, 226, 239, 248, 281, 313, 327, 328, 329, 330, 333, 334, 335, 336, 337] .e fun T => ps.all fun x => a9s (nI T (exF prog T 4000) [] (jZ 226) [.int .i64 x] gH) x
def fsP : List Nat := [199, 206, 207, 208, 213, 225, 239, 249, 250, 263, 264, 269, 270, 271, 272, 275, 282, 283, 296, 297, 298, 299, 300, 301, 302, 318, 319, 320, 321, 327, 328, 329, 330, 333, 334, 335, 336, 337]
noncomputable def tJ (ps : List Nat) : Bool := tE prog fsP .e fun T => ps.all fun x => b3C (nI T (exF prog T 4000) [] (jZ 225) [.string (oA x), .int .i64 24] gH) (x ^ 24)
def fsM : List Nat := [199, 206, 207, 208, 213, 226, 227, 239, 248, 249, 250, 263, 264, 269, 270, 271, 272, 273, 275, 281, 282, 283, 296, 297, 298, 299, 300, 301, 302, 313, 318, 319, 320, 321, 327, 328, 329, 330, 333, 334, 335, 336, 337]
noncomputable def lH (ps : List (Nat × Nat)) : Bool := tE prog fsM .e fun T => ps.all fun x => a9s (nI T (exF prog T 4000) [] (jZ 227) [.string (oA x.1), .string (oA x.2)] gH) (x.1 * x.2)
def qM (t : Nat × Nat) : List (Nat × Nat) := (t.1 ^ 24, 2) :: (List.range t.2).map fun k => (2 * t.1 ^ 24 * 4 ^ k, 4)
def a5o (t : Nat × Nat × Nat) : List (Nat × Nat) := (List.range (t.2.2 + 1)).map fun k => (t.1 ^ 24, 2 * t.2.1 ^ 24 * 4 ^ k)
def b2V (a b : Nat) : Int := if a < b then -1 else if b < a then 1 else 0
noncomputable def sN (ps : List (Nat × Nat)) : Bool := tE prog [228, 274, 275, 276, 301, 302, 303, 321, 322] .e fun T => ps.all fun x => b2Q (nI T (exF prog T 4000) [] (jZ 228) [.string (oA x.1), .string (oA x.2)] gH) (b2V x.1 x.2)
end Go.Ds
namespace Go.Ds
open Go.RowKit Go.Proofs
section
variable {P : Program} {ρ : Rho} {H : Heap} {w : World}
theorem a2y {name : String} {g : Nat} {k : IntKind} {zs : List Int} (hg : P.globalNamed name = some g) (ht : Lib.TabIs P w name k zs) : ∃ t fr, w.heap[g]? = some (.cells (zs.map fun z => Value.int k z).toArray t fr) := by
 unfold Lib.TabIs World.var? at ht
 rw [hg, cV] at ht
 split at ht
 ·rename_i cs t fr hb
  obtain rfl := cU ht
  exact ⟨t, fr, hb⟩
 ·cases ht
theorem InW.cJ (h : InW P ρ H w) {name : String} {g : Nat} {k : IntKind} {zs : List Int} {ty : TypeId} (hg : P.globalNamed name = some g) (ht : Lib.TabIs P w name k zs) (hgH : g = H.length) (hty : gM P ty = some 1) :
 InW P (ρ.put H.length (zs.map fun z => Value.int k z).length ⟨g, 0, zs.length, 1⟩) (H.cons (.cells (zs.map fun z => Value.int k z) ty false 0 1)) w := by
 obtain ⟨t, fr, hb⟩ := a2y hg ht
 refine (h.row ⟨g, 0, zs.length, 1⟩ hb (ty := ty) hty (by simp) (zs.map fun z => Value.int k z) 1 (fun _ => ⟨hgH, rfl⟩) (by simp) fun i c hi _ hc => ⟨c, ?_, ?_⟩).1
 ·have : (⟨g, 0, zs.length, 1⟩ : Place).at i = i := by simp [Place.at]
  rw [this]
  simpa using hc
 ·rw [eB] at hc
  obtain ⟨z, _, rfl⟩ := de.1 hc
  exact .c0 (.flat rfl)
end
theorem c2K : ∀ A b, gY gH A = some b → ∃ cs ty lo, b = .cells cs ty false lo 1 ∧ jM cs = true := by
 intro A b h
 unfold gH at h
 have hn : ∀ (H : Heap) (c : Blk), gY (H.cons c) A = some b → (A = H.length ∧ b = c) ∨ gY H A = some b := fun H c h => by
  by_cases he : A = H.length
  ·subst he; rw [gW] at h; exact .inl ⟨rfl, (cU h).symm⟩
  ·have hA : A < (H.cons c).length := iP h
   rw [length_cons] at hA
   rw [iX _ (by omega)] at h
   exact .inr h
 rcases hn _ _ h with ⟨_, rfl⟩ | h
 ·exact ⟨_, _, _, rfl, by kernel_rfl⟩
 rcases hn _ _ h with ⟨_, rfl⟩ | h
 ·exact ⟨_, _, _, rfl, by kernel_rfl⟩
 rcases hn _ _ h with ⟨_, rfl⟩ | h
 ·exact ⟨_, _, _, rfl, by kernel_rfl⟩
 rcases hn _ _ h with ⟨_, rfl⟩ | h
 ·exact ⟨_, _, _, rfl, by kernel_rfl⟩
 ·have : A < 0 := iP h
  omega
theorem ExtW.glob {ρ ρ' : Rho} {H' : Heap} (h : ExtW ρ gH ρ' H') : Glob gH H' := ⟨h.len, fun A hA => h.old A hA, c2K⟩
def p10 : List Int := [1, 10, 100, 1000, 10000, 100000, 1000000, 10000000, 100000000, 1000000000, 10000000000, 100000000000, 1000000000000, 10000000000000, 100000000000000, 1000000000000000, 10000000000000000, 100000000000000000, 1000000000000000000, 10000000000000000000]
theorem g64 : Tryz.prog.globalNamed "math/bits.deBruijn64tab" = some 0 := by kernel_rfl
theorem g10 : Tryz.prog.globalNamed "internal/strconv.uint64pow10" = some 2 := by kernel_rfl
theorem g32 : Tryz.prog.globalNamed "math/bits.deBruijn32tab" = some 3 := by kernel_rfl
theorem b6R {w : World} (h64 : Lib.TabIs Tryz.prog w "math/bits.deBruijn64tab" .u8 (t64.map Int.ofNat)) (h10 : Lib.TabIs Tryz.prog w "internal/strconv.uint64pow10" .u64 p10)
 (h32 : Lib.TabIs Tryz.prog w "math/bits.deBruijn32tab" .u8 (t32.map Int.ofNat)) (h1001 : ∃ cs t fr, w.heap[1]? = some (.cells cs t fr)) : ∃ ρ, InW Tryz.prog ρ gH w := by
 have a0 := (InW.none (P := Tryz.prog) w).cJ g64 h64 (ty := 5) rfl (by kernel_rfl)
 obtain ⟨cs1, t1, fr1, hb1⟩ := h1001
 have a1 := (a0.row ⟨1, 0, cs1.size, 1⟩ hb1 (ty := 3) (by kernel_rfl) rfl [] 1 (fun _ => ⟨rfl, rfl⟩) (by simp) (fun i c hi => by simp at hi)).1
 have a2 := a1.cJ g10 h10 (ty := 54) rfl (by kernel_rfl)
 have a3 := a2.cJ g32 h32 (ty := 5) rfl (by kernel_rfl)
 exact ⟨_, a3⟩
end Go.Ds
namespace Go.Ds
noncomputable section
variable {P : Program} {H0 : Base} {H : Heap} {os : List Ob} {κ β : Type} [DecidableEq κ] {enc : κ → Value} {f : β → Value} {t : TypeId} {z : Value}
structure MapK (P : Program) (t : TypeId) {κ : Type} [DecidableEq κ] (enc : κ → Value) (z : Value) : Prop where
 ex : ∃ kt et, zW P t = some (kt, et) ∧ iF P et = some z ∧ iL z = true ∧ (∀ b k, a0E P b kt (enc k) = true) ∧
  (∀ k (es : List MapEntry) (ks : List κ), es.map (·.key) = ks.map enc → rS P kt (enc k) es = some (ks.findIdx? fun x => decide (x = k))) ∧ ∀ k, Instr.sameBits 10000 (enc k) (enc k) = true
def kcs (enc : κ → Value) (f : β → Value) (kvs : List (κ × β)) : List Value := kvs.flatMap fun p => [enc p.1, f p.2]
def a1r (kvs : List (κ × β)) (k : κ) : Option β := (kvs.find? fun p => decide (p.1 = k)).map (·.2)
def a3R (kvs : List (κ × β)) (k : κ) (v : β) : List (κ × β) := match kvs.findIdx? (fun p => decide (p.1 = k)) with
 | some j => kvs.set j (k, v)
 | none => kvs ++ [(k, v)]
theorem a3n : ∀ (es : List MapEntry) (kvs : List (κ × β)), kcs enc f kvs = mcs es → es.map (·.key) = kvs.map (fun p => enc p.1) ∧ es.map (·.val) = kvs.map (fun p => f p.2)
 | [], [], _ => ⟨rfl, rfl⟩
 | [], p :: kvs, h => by simp [kcs, mcs] at h
 | e :: es, [], h => by simp [kcs, mcs] at h
 | e :: es, p :: kvs, h => by
   simp only [kcs, mcs, dD, List.cons_append, fH, fG] at h
   obtain ⟨h1, h2, h3⟩ := h
   obtain ⟨h4, h5⟩ := a3n es kvs h3
   simp only [dR]
   exact ⟨by rw [h4, h1], by rw [h5, h2]⟩
theorem a8b : ∀ (es : List MapEntry) (kvs : List (κ × β)), es.map (·.key) = kvs.map (fun p => enc p.1) → es.map (·.val) = kvs.map (fun p => f p.2) → kcs enc f kvs = mcs es
 | [], [], _, _ => rfl
 | [], p :: kvs, h, _ => by simp at h
 | e :: es, [], h, _ => by simp at h
 | e :: es, p :: kvs, h, h' => by
   simp only [dR, fG] at h h'
   have := a8b es kvs h.2 h'.2
   simp only [kcs, mcs, dD] at this ⊢
   rw [this, h.1, h'.1]
theorem St.bY (hS : St P H0 H os) (i : Nat) {A : Nat} {cs : List Value} (ho : os[i]? = some ⟨.map (some A), 0, cs⟩) : ∃ es ck ver, gY H A = some (.map es ck ver) ∧ cs = mcs es := by
 have := hS.own _ (dP ho)
 unfold OwnAt at this
 rw [if_pos rfl] at this
 rcases this with ⟨_, _, _, _, _, _, h⟩ | ⟨A', es, ck, ver, h1, h2, h3⟩
 ·cases h
 ·simp only [Value.map.injEq, du] at h3
  subst h3
  exact ⟨es, ck, ver, h1, h2⟩
theorem a8U (kvs : List (κ × β)) (k : κ) : (∃ j x, (kvs.map (·.1)).findIdx? (fun x => decide (x = k)) = some j ∧ kvs[j]? = some x ∧ kvs.find? (fun p => decide (p.1 = k)) = some x) ∨ ((kvs.map (·.1)).findIdx? (fun x => decide (x = k)) = none ∧ kvs.find? (fun p => decide (p.1 = k)) = none) := by
 induction kvs with
 | nil => exact .inr ⟨rfl, rfl⟩
 | cons p kvs ih =>
   by_cases h : p.1 = k
   ·exact .inl ⟨0, p, by simp [fp, h], rfl, by simp [h]⟩
   ·rcases ih with ⟨j, x, h1, h2, h3⟩ | ⟨h1, h2⟩
    ·exact .inl ⟨j + 1, x, by simp [fp, h, h1], by simpa using h2, by simp [h, h3]⟩
    ·exact .inr ⟨by simp [fp, h, h1], by simp [h, h2]⟩
theorem St.cS (hS : St P H0 H os) (i : Nat) {A : Nat} {kvs : List (κ × β)} (ho : os[i]? = some ⟨.map (some A), 0, kcs enc f kvs⟩) (hk : MapK P t enc z) (hf : ∀ b, mT (f b) = true) (c : Bool) (k : κ) :
 oF P H t (.map (some A)) (enc k) c = some (pairV c (((a1r kvs k).map f).getD z) (a1r kvs k).isSome) := by
 obtain ⟨kt, et, h1, h2, h3, h4, h5, h6⟩ := hk.ex
 obtain ⟨es, ck, ver, h7, h8⟩ := hS.bY i ho
 obtain ⟨h9, h10⟩ := a3n es kvs h8
 have hi := h5 k es (kvs.map (·.1)) (by rw [h9]; simp [gA])
 simp only [oF, h1, cV, a1I, h7, h4, if_true, hi, a1r]
 rcases a8U kvs k with ⟨j, x, e1, e2, e3⟩ | ⟨e1, e3⟩
 ·have hj : es[j]?.map (·.val) = some (f x.2) := by
   rw [← eB, h10, eB, e2]; rfl
  cases he : es[j]? with
  | none => rw [he] at hj; simp at hj
  | some e =>
    rw [he] at hj
    simp only [dK, du] at hj
    simp only [e1, he, cV, hj, hf, if_true, e3, dK, eX, Option.isSome_some]
 ·simp only [e1, e3, Option.map_none, Option.getD_none, Option.isSome_none, h2, cV, h3, if_true]
def a5H (P : Program) (H : Heap) (t : TypeId) (x k : Value) (c : Bool) (K : Value → Prop) (_k : Keep K := ⟨⟩) : Prop := ∃ v, oF P H t x k c = some v ∧ K v
theorem a5t {t : TypeId} {x x' k k' : Value} {c : Bool} {K : Value → Prop} (h : x = x') (h2 : k = k') : a5H P H t x k c K = a5H P H t x' k' c K := by rw [h, h2]
attribute [congr] a5t
theorem a7Y (d ty pos af g) (t : TypeId) (x k : Operand) (c : Bool) (l : List Value) (K : Value → Heap → Prop) :
 lP P ⟨d, .lookup t x k c, ty, pos, af, g⟩ l H K = iW x l fun x => iW k l fun k => a5H P H t x k c fun v => K v H := by
 have h2 : jJ ((oF P H t (ev l x) (ev l k) c).map fun v => (v, H)) K = ∃ v, oF P H t (ev l x) (ev l k) c = some v ∧ K v H := by
  cases oF P H t (ev l x) (ev l k) c <;> simp [jJ]
 simp only [lP, opD, iW, Op.operands, a5H, h2]
 simp [and_assoc]
theorem St.bP (hS : St P H0 H os) (i : Nat) {A : Nat} {kvs : List (κ × β)} (ho : os[i]? = some ⟨.map (some A), 0, kcs enc f kvs⟩) (hk : MapK P t enc z) (hf : ∀ b, mT (f b) = true) {c : Bool} {k : κ} {K : Value → Prop}
 (h : K (pairV c (((a1r kvs k).map f).getD z) (a1r kvs k).isSome)) : a5H P H t (.map (some A)) (enc k) c K := ⟨_, hS.cS i ho hk hf c k, h⟩
def a4p (P : Program) (H : Heap) (t : TypeId) (K : Value → Heap → Prop) (_k : Keep K := ⟨⟩) : Prop := ∃ v H1, oK P H t none = some (v, H1) ∧ K v H1
theorem a5m (d ty pos af g) (t : TypeId) (l : List Value) (K : Value → Heap → Prop) : lP P ⟨d, .makeMap t none, ty, pos, af, g⟩ l H K = a4p P H t K := by
 simp only [lP, opD, Op.operands, a4p, mI]
 simp
theorem St.bT (hS : St P H0 H os) (hk : MapK P t enc z) {K : Value → Heap → Prop} (h : ∀ A H1, St P H0 H1 (os ++ [⟨.map (some A), 0, []⟩]) → K (.map (some A)) H1) : a4p P H t K := by
 obtain ⟨kt, et, h1, _⟩ := hk.ex
 refine ⟨.map (some H.length), H.cons (.map [] 0 0), by simp [oK, h1], h _ _ (hS.add ?_ ?_ ?_ ?_)⟩
 ·unfold OwnAt
  rw [if_pos rfl]
  exact .inr ⟨_, [], 0, 0, gW H _, rfl, rfl⟩
 ·simp [oG]
 ·exact fun B hB => iX _ hB
 ·intro B hB
  simp [jT] at hB
  omega
def b5f (P : Program) (H : Heap) (t : TypeId) (m k v : Value) (K : Heap → Prop) (_k : Keep K := ⟨⟩) : Prop := ∃ H1, a0b P H t m k v = some H1 ∧ K H1
theorem a8m {t : TypeId} {m m' k k' v v' : Value} {K : Heap → Prop} (h : m = m') (h2 : k = k') (h3 : v = v') : b5f P H t m k v K = b5f P H t m' k' v' K := by rw [h, h2, h3]
attribute [congr] a8m
theorem a2g (d ty pos af g) (t : TypeId) (m k v : Operand) (l : List Value) (K : Value → Heap → Prop) :
 lP P ⟨d, .mapUpdate t m k v, ty, pos, af, g⟩ l H K = iW m l fun m => iW k l fun k => iW v l fun v => b5f P H t m k v fun H1 => K undef H1 := by
 have h2 : jJ ((a0b P H t (ev l m) (ev l k) (ev l v)).map fun H => (undef, H)) K = ∃ H1, a0b P H t (ev l m) (ev l k) (ev l v) = some H1 ∧ K undef H1 := by
  cases a0b P H t (ev l m) (ev l k) (ev l v) <;> simp [jJ]
 simp only [lP, opD, iW, Op.operands, b5f, h2]
 simp [and_assoc]
theorem a8Y (kvs : List (κ × β)) (k : κ) (v : β) : a3R kvs k v = match (kvs.map (·.1)).findIdx? (fun x => decide (x = k)) with | some j => kvs.set j (k, v) | none => kvs ++ [(k, v)] := by
 unfold a3R
 rw [List.findIdx?_map]
 rfl
theorem St.cg (hS : St P H0 H os) (i : Nat) {A : Nat} {kvs : List (κ × β)} (ho : os[i]? = some ⟨.map (some A), 0, kcs enc f kvs⟩) (hk : MapK P t enc z) {k : κ} {v : β} {K : Heap → Prop}
 (h : ∀ H1, St P H0 H1 (os.set i ⟨.map (some A), 0, kcs enc f (a3R kvs k v)⟩) → K H1) : b5f P H t (.map (some A)) (enc k) (f v) K := by
 obtain ⟨kt, et, h1, h2, h3, h4, h5, h6⟩ := hk.ex
 obtain ⟨es, ck, ver, h7, h8⟩ := hS.bY i ho
 obtain ⟨h9, h10⟩ := a3n es kvs h8
 have hi := h5 k es (kvs.map (·.1)) (by rw [h9]; simp [gA])
 have fin : ∀ es' ck', mcs es' = kcs enc f (a3R kvs k v) → St P H0 (hset H A (.map es' ck' (ver + 1))) (os.set i ⟨.map (some A), 0, kcs enc f (a3R kvs k v)⟩) := by
  intro es' ck' he
  refine hS.put i ho ?_ ?_ ?_ ?_
  ·unfold OwnAt
   rw [if_pos rfl]
   exact .inr ⟨A, es', ck', _, iC _ (iP h7), he.symm, rfl⟩
  ·rw [iO]; exact dc _
  ·intro B hB hne
   exact qY fun hh => hne (by simp [jT, hh])
  ·exact fun B hB => .inl hB
 rcases a8U kvs k with ⟨j, x, e1, e2, _⟩ | ⟨e1, _⟩
 ·have hj : es[j]?.map (·.key) = some (enc x.1) := by
   rw [← eB, h9, eB, e2]; rfl
  have hx : x.1 = k := by
   have := List.findIdx?_eq_some_iff_getElem.1 e1
   obtain ⟨hlt, hd, _⟩ := this
   have hlt' : j < kvs.length := by simpa using hlt
   have : kvs[j] = x := by
    rw [dp hlt'] at e2
    exact cU e2
   simp [this] at hd
   exact hd
  cases he : es[j]? with
  | none => rw [he] at hj; simp at hj
  | some e =>
    rw [he] at hj
    simp only [dK, du] at hj
    refine ⟨hset H A (.map (es.set j { e with key := enc k, val := f v }) ck (ver + 1)), ?_, h _ (fin _ _ ?_)⟩
    ·have hsb : Instr.sameBits 10000 e.key (enc k) = true := by rw [hj, hx]; exact h6 k
     simp only [a0b, h1, cV, h7, h4, if_true, hi, e1, he, hsb]
    ·symm
     rw [a8Y, e1]
     refine a8b _ _ ?_ ?_
     ·rw [gj, gj, h9]
     ·rw [gj, gj, h10]
 ·refine ⟨hset H A (.map (es ++ [{ key := enc k, val := f v, born := ck }]) (ck + 1) (ver + 1)), ?_, h _ (fin _ _ ?_)⟩
  ·simp only [a0b, h1, cV, h7, h4, if_true, hi, e1]
  ·symm
   rw [a8Y, e1]
   refine a8b _ _ ?_ ?_
   ·rw [dN, dN, h9]; rfl
   ·rw [dN, dN, h10]; rfl
theorem a0F (kvs : List (κ × β)) (k k' : κ) (v : β) : a1r (a3R kvs k v) k' = if k' = k then some v else a1r kvs k' := by
 unfold a1r a3R
 induction kvs with
 | nil =>
   by_cases h : k' = k
   ·simp [h]
   ·simp [h, eh h]
 | cons p kvs ih =>
   by_cases hp : p.1 = k
   ·simp only [fp, hp, decide_true, if_true, fo, List.find?_cons]
    by_cases h : k' = k
    ·simp [h]
    ·simp [h, eh h]
   ·have hd : decide (p.1 = k) = false := by simp [hp]
    simp only [fp, hd, dO, if_false]
    by_cases hq : p.1 = k'
    ·have hne : ¬ k' = k := fun e => hp (hq.trans e)
     cases hh : kvs.findIdx? (fun p => decide (p.1 = k)) with
     | none => simp [hq, hne]
     | some j => simp [hq, hne]
    ·cases hh : kvs.findIdx? (fun p => decide (p.1 = k)) with
     | none =>
       rw [hh] at ih
       simpa [hq, List.find?_cons] using ih
     | some j =>
       rw [hh] at ih
       simpa [hq, List.find?_cons] using ih
end
end Go.Ds
namespace Go.Ds
noncomputable section
variable {P : Program} {H : Heap}
theorem jR {α : Type} (P : Program) (x : α) : gU P (pure x) = some x := rfl
theorem jC {t : TypeId} {d : TypeDesc} (h : P.underlying t = some d) : gU P (underlying t) = some d := by
 unfold underlying
 rw [gR]
 have : gU P program = some P := rfl
 rw [this, cV, h]
 rfl
def kR : Operand → Bool
 | .const _ => true
 | _ => false
def nS (c : Bool) (i : Nat) (v : Value) : Operand := if c then .const v else .tmp i
def kC (P : Program) (op : BinOp) (t t2 : TypeId) (cx cy : Bool) (x y : Value) : Option Value := (opD P ⟨none, .binOp op t (nS cx 0 x) (nS cy 1 y) t2, t, "", #[], none⟩ [x, y] .nil).map (·.1)
def kK (P : Program) (op : BinOp) (t t2 : TypeId) (cx cy : Bool) (x y : Value) (K : Value → Prop) (_k : Keep K := ⟨⟩) : Prop := match x, y with
 | .int k a, .int k' b => (match (if k = k' then lU op k a b else none) with | some v => K v | none => jD (kC P op t t2 cx cy (.int k a) (.int k' b)) K)
 | x, y => jD (kC P op t t2 cx cy x y) K
theorem a4H {op : BinOp} {t t2 : TypeId} {cx cy : Bool} {x x' y y' : Value} {K : Value → Prop} (h : x = x') (h2 : y = y') : kK P op t t2 cx cy x y K = kK P op t t2 cx cy x' y' K := by rw [h, h2]
attribute [congr] a4H
theorem a7r (x : Operand) (l m : List Value) : ev (ev l x :: m) (nS (kR x) 0 (ev l x)) = ev l x := by cases x <;> rfl
theorem a8z (x : Operand) (l m : List Value) (a : Value) : ev (a :: ev l x :: m) (nS (kR x) 1 (ev l x)) = ev l x := by cases x <;> rfl
theorem b4x (op : BinOp) (t : TypeId) (x y : Operand) (l : List Value) : eqGuard op t x y (ev l x) (ev l y) = eqGuard op t (nS (kR x) 0 (ev l x)) (nS (kR y) 1 (ev l y)) (ev l x) (ev l y) := by
 generalize hx : ev l x = vx
 generalize hy : ev l y = vy
 cases x <;> cases y <;> rfl
theorem b5y (d ty pos af g) (op : BinOp) (t : TypeId) (x y : Operand) (t2 : TypeId) (l : List Value) (H : Heap) :
 opD P ⟨d, .binOp op t x y t2, ty, pos, af, g⟩ l H = (kC P op t t2 (kR x) (kR y) (ev l x) (ev l y)).map fun v => (v, H) := by
 have hp : jU P ⟨d, .binOp op t x y t2, ty, pos, af, g⟩ l H = _ := mD (P := P) ⟨d, .binOp op t x y t2, ty, pos, af, g⟩ ⟨none, .binOp op t (nS (kR x) 0 (ev l x)) (nS (kR y) 1 (ev l y)) t2, t, "", #[], none⟩ l [ev l x, ev l y] H
  (by simp only [Op.operands, dR, fC, a7r, a8z]) (by
    simp only [execOp]
    rw [a7r, a8z, ← b4x])
 simp only [opD, kC, hp, a7r, a8z]
 generalize jU P _ _ _ = r
 generalize ev l x = vx
 generalize ev l y = vy
 split
 all_goals first
  | (split <;> first | rfl | (split <;> first | rfl | (cases r <;> rfl)) | (cases r <;> rfl))
  | (cases r <;> rfl)
theorem b4E (d ty pos af g) (op : BinOp) (t : TypeId) (x y : Operand) (t2 : TypeId) (l : List Value) (K : Value → Heap → Prop) :
 lP P ⟨d, .binOp op t x y t2, ty, pos, af, g⟩ l H K = iW x l fun x' => iW y l fun y' => kK P op t t2 (kR x) (kR y) x' y' fun v => K v H := by
 have h : jJ (opD P ⟨d, .binOp op t x y t2, ty, pos, af, g⟩ l H) K = kK P op t t2 (kR x) (kR y) (ev l x) (ev l y) fun v => K v H := by
  have key : jJ ((kC P op t t2 (kR x) (kR y) (ev l x) (ev l y)).map fun v => (v, H)) K = jD (kC P op t t2 (kR x) (kR y) (ev l x) (ev l y)) fun v => K v H := by
   cases kC P op t t2 (kR x) (kR y) (ev l x) (ev l y) <;> rfl
  rw [b5y, key]
  unfold kK
  split
  ·rename_i k a k' b hx hy
   split
   ·rename_i v hv
    split at hv
    ·rename_i hk
     subst hk
     have : kC P op t t2 (kR x) (kR y) (.int k a) (.int k b) = some v := by
      have h1 : ∀ m, ev ((.int k a : Value) :: m) (nS (kR x) 0 (.int k a)) = .int k a := fun m => by cases kR x <;> rfl
      have h2 : ∀ m c, ev (c :: (.int k b : Value) :: m) (nS (kR y) 1 (.int k b)) = .int k b := fun m c => by cases kR y <;> rfl
      cases op <;> simp only [lU] at hv <;> first | (cases hv; done) | (simp only [kC, opD, h1, h2, lU, if_true, hv]; rfl)
     rw [hx, hy, this]
     rfl
    ·cases hv
   ·rw [hx, hy]
  ·rfl
 simp only [lP, h, iW, Op.operands]
 simp [and_assoc]
theorem lL (op : BinOp) (t t2 : TypeId) (cx cy : Bool) (k : IntKind) (a b : Int) {v : Value} (K : Value → Prop) (h : lU op k a b = some v) : kK P op t t2 cx cy (.int k a) (.int k b) K = nY v K := by
 simp [kK, h, nY]
section
theorem b1q (t t2 : TypeId) (cx cy : Bool) (k : IntKind) (a b : Int) (K : Value → Prop) : kK P .add t t2 cx cy (.int k a) (.int k b) K = nY (.int k (k.wrap (a + b))) K := lL _ _ _ _ _ _ _ _ _ (by simp [lU, a8X, sQ])
theorem b0W (t t2 : TypeId) (cx cy : Bool) (k : IntKind) (a b : Int) (K : Value → Prop) : kK P .sub t t2 cx cy (.int k a) (.int k b) K = nY (.int k (k.wrap (a - b))) K := lL _ _ _ _ _ _ _ _ _ (by simp [lU, a8S, sQ])
theorem b0e (t t2 : TypeId) (cx cy : Bool) (k : IntKind) (a b : Int) (K : Value → Prop) : kK P .mul t t2 cx cy (.int k a) (.int k b) K = nY (.int k (k.wrap (a * b))) K := lL _ _ _ _ _ _ _ _ _ (by simp [lU, sQ])
theorem b0K (t t2 : TypeId) (cx cy : Bool) (k : IntKind) (a b : Int) (K : Value → Prop) : kK P .eql t t2 cx cy (.int k a) (.int k b) K = nY (.bool (decide (a = b))) K := lL _ _ _ _ _ _ _ _ _ (by simp [lU, a1k]; rfl)
theorem b1b (t t2 : TypeId) (cx cy : Bool) (k : IntKind) (a b : Int) (K : Value → Prop) : kK P .neq t t2 cx cy (.int k a) (.int k b) K = nY (.bool (decide (¬ a = b))) K := lL _ _ _ _ _ _ _ _ _ (by simp [lU, a1k]; rfl)
theorem b1r (t t2 : TypeId) (cx cy : Bool) (k : IntKind) (a b : Int) (K : Value → Prop) : kK P .lss t t2 cx cy (.int k a) (.int k b) K = nY (.bool (decide (a < b))) K := lL _ _ _ _ _ _ _ _ _ (by simp [lU, yM])
theorem b0Q (t t2 : TypeId) (cx cy : Bool) (k : IntKind) (a b : Int) (K : Value → Prop) : kK P .leq t t2 cx cy (.int k a) (.int k b) K = nY (.bool (decide (a ≤ b))) K := lL _ _ _ _ _ _ _ _ _ (by simp [lU, yM, ← Int.not_lt])
theorem a9O (t t2 : TypeId) (cx cy : Bool) (k : IntKind) (a b : Int) (K : Value → Prop) : kK P .gtr t t2 cx cy (.int k a) (.int k b) K = nY (.bool (decide (b < a))) K := lL _ _ _ _ _ _ _ _ _ (by simp [lU, yM])
theorem b1l (t t2 : TypeId) (cx cy : Bool) (k : IntKind) (a b : Int) (K : Value → Prop) : kK P .geq t t2 cx cy (.int k a) (.int k b) K = nY (.bool (decide (b ≤ a))) K := lL _ _ _ _ _ _ _ _ _ (by simp [lU, yM, ← Int.not_lt])
theorem b1P (t t2 : TypeId) (cx cy : Bool) (k : IntKind) (a b : Int) (K : Value → Prop) (hb : b ≠ 0) : kK P .rem t t2 cx cy (.int k a) (.int k b) K = nY (.int k (a.tmod b)) K := lL _ _ _ _ _ _ _ _ _ (by
 have : (b == 0) = false := by simp [hb]
 simp [lU, a1k, this])
theorem b0N (t t2 : TypeId) (cx cy : Bool) (k : IntKind) (a b : Int) (K : Value → Prop) (hb : b ≠ 0) : kK P .quo t t2 cx cy (.int k a) (.int k b) K = nY (.int k (k.wrap (a.tdiv b))) K := lL _ _ _ _ _ _ _ _ _ (by
 have : (b == 0) = false := by simp [hb]
 simp [lU, a1k, sQ, this])
end
theorem kV {op : BinOp} {t t2 : TypeId} {cx cy : Bool} {x y v : Value} (hx : flat x = true) (hy : flat y = true) (hg : gU P (eqGuard op t (nS cx 0 x) (nS cy 1 y) x y) = some ())
 (hv : gU P (binOp op t x y) = some v) (hf : flat v = true) (hs : ∀ a n c, x ≠ .slice (some a) n c) (hp : ∀ a, x ≠ .pointer (some a)) (hi : ∀ k a b, x = .int k a → y = .int k b → lU op k a b = none) : kC P op t t2 cx cy x y = some v := by
 have h1 : ∀ m, ev (x :: m) (nS cx 0 x) = x := fun m => by cases cx <;> rfl
 have h2 : ∀ m c, ev (c :: y :: m) (nS cy 1 y) = y := fun m c => by cases cy <;> rfl
 have hpl : jU P ⟨none, .binOp op t (nS cx 0 x) (nS cy 1 y) t2, t, "", #[], none⟩ [x, y] .nil = some (v, .nil) := by
  unfold jU
  rw [if_pos (by simp [Op.operands, h1, h2, hx, hy])]
  have : execOp (ev [x, y]) ⟨none, .binOp op t (nS cx 0 x) (nS cy 1 y) t2, t, "", #[], none⟩ = (do let v ← (do eqGuard op t (nS cx 0 x) (nS cy 1 y) x y; binOp op t x y); pure (.value v)) := by
   simp only [execOp, h1, h2]
  rw [this, gR, gR, hg, cV, hv, cV, jR]
  simp only [hf, if_true]
 simp only [kC, opD, h1, h2, hpl]
 split
 ·exact absurd rfl (hs _ _ _)
 ·exact absurd rfl (hs _ _ _)
 ·rename_i k a k' b
  split
  ·rename_i hk
   subst hk
   rw [hi _ _ _ rfl rfl]
   rfl
  ·rfl
 ·exact absurd rfl (hp _)
 ·exact absurd rfl (hp _)
 ·exact absurd rfl (hp _)
 ·exact absurd rfl (hp _)
 ·rfl
theorem pC {op : BinOp} {t : TypeId} {x y : Operand} {k k' : IntKind} {a b : Int} : gU P (eqGuard op t x y (.int k a) (.int k' b)) = some () := by
 unfold eqGuard
 split <;> rfl
section
theorem b2g (t t2 : TypeId) (cx cy : Bool) (a b : Int) {k k' : IntKind} (hb : 0 ≤ b) : kC P .shr t t2 cx cy (.int k a) (.int k' b) = some (.int k (a.fdiv (2 ^ (min b.toNat k.bits)))) :=
 kV rfl rfl pC (by simp only [binOp, Op.shift]; rw [if_neg (by omega)]; rfl) rfl (by simp) (by simp) (by intros; rfl)
theorem b2f (t t2 : TypeId) (cx cy : Bool) (a b : Int) {k k' : IntKind} (hb : 0 ≤ b) : kC P .shl t t2 cx cy (.int k a) (.int k' b) = some (.int k (k.wrap (a * 2 ^ (min b.toNat k.bits)))) :=
 kV rfl rfl pC (by simp only [binOp, Op.shift]; rw [if_neg (by omega)]; rfl) rfl (by simp) (by simp) (by intros; rfl)
theorem b4n (t t2 : TypeId) (cx cy : Bool) (a b : Int) (k : IntKind) : kC P .and t t2 cx cy (.int k a) (.int k b) = some (.int k (k.wrap (BitVec.ofInt k.bits a &&& BitVec.ofInt k.bits b).toNat)) :=
 kV rfl rfl pC (by simp only [binOp]; rw [if_neg (by simp)]; rfl) rfl (by simp) (by simp) (by intros; rfl)
theorem b5V (t t2 : TypeId) (cx cy : Bool) (a b : Int) (k : IntKind) : kC P .or t t2 cx cy (.int k a) (.int k b) = some (.int k (k.wrap (BitVec.ofInt k.bits a ||| BitVec.ofInt k.bits b).toNat)) :=
 kV rfl rfl pC (by simp only [binOp]; rw [if_neg (by simp)]; rfl) rfl (by simp) (by simp) (by intros; rfl)
theorem b2n (t t2 : TypeId) (cx cy : Bool) (a b : Int) (k : IntKind) : kC P .xor t t2 cx cy (.int k a) (.int k b) = some (.int k (k.wrap (BitVec.ofInt k.bits a ^^^ BitVec.ofInt k.bits b).toNat)) :=
 kV rfl rfl pC (by simp only [binOp]; rw [if_neg (by simp)]; rfl) rfl (by simp) (by simp) (by intros; rfl)
theorem a5l (t t2 : TypeId) (cx cy : Bool) (a b : Int) (k : IntKind) : kC P .andNot t t2 cx cy (.int k a) (.int k b) = some (.int k (k.wrap (BitVec.ofInt k.bits a &&& ~~~ BitVec.ofInt k.bits b).toNat)) :=
 kV rfl rfl pC (by simp only [binOp]; rw [if_neg (by simp)]; rfl) rfl (by simp) (by simp) (by intros; rfl)
end
section
variable (a b : ByteArray)
theorem yX {op : BinOp} {t : TypeId} {x y : Operand} : gU P (eqGuard op t x y (.string a) (.string b)) = some () := by
 unfold eqGuard
 split <;> rfl
theorem zM (h : a.data.toList = b.data.toList) : a = b := by
 cases a; cases b
 simp only [ByteArray.mk.injEq]
 exact Array.toList_inj.1 h
theorem a0U : (a.toList == b.toList) = decide (a = b) := by
 rw [ByteArray.toList_eq, ByteArray.toList_eq, ec, beq_iff_eq, decide_eq_true_iff]
 exact ⟨zM a b, fun h => by rw [h]⟩
theorem a8w (t t2 : TypeId) (cx cy : Bool) (a b : ByteArray) : kC P .eql t t2 cx cy (.string a) (.string b) = some (.bool (decide (a = b))) :=
 kV rfl rfl (yX a b) (by rw [← a0U]; rfl) rfl (by simp) (by simp) (by intro _ _ _ h; cases h)
theorem a6L (t t2 : TypeId) (cx cy : Bool) (a b : ByteArray) : kC P .neq t t2 cx cy (.string a) (.string b) = some (.bool (decide (¬ a = b))) :=
 kV rfl rfl (yX a b) (by
  have : decide (¬ a = b) = !(a.toList == b.toList) := by rw [a0U]; simp
  rw [this]; rfl) rfl (by simp) (by simp) (by intro _ _ _ h; cases h)
theorem a4Q (t t2 : TypeId) (cx cy : Bool) (a b : ByteArray) (h : a.size + b.size < 9223372036854775808) : kC P .add t t2 cx cy (.string a) (.string b) = some (.string (a ++ b)) :=
 kV rfl rfl (yX a b) (by
  simp only [binOp, Op.stringOp]
  rw [if_neg]
  ·rfl
  ·have : IntKind.i64.max = 9223372036854775807 := by decide
   rw [this]; omega) rfl (by simp) (by simp) (by intro _ _ _ h; cases h)
end
theorem b3v {t : TypeId} (s : ByteArray) (ht : nU P t = true) : yF P H t (.string s) = some (.int .i64 s.size) := by
 unfold nU at ht
 unfold yF
 split at ht
 ·rename_i h; rw [h]; simp [vJ, goInt]
 ·cases ht
def pK (P : Program) (t : TypeId) (x i : Value) : Option Value := (opD P ⟨none, .index t (.const x) (.const i), t, "", #[], none⟩ [] .nil).map (·.1)
theorem a9S (d ty pos af g) (t : TypeId) (x i : Operand) (l : List Value) (K : Value → Heap → Prop) :
 lP P ⟨d, .index t x i, ty, pos, af, g⟩ l H K = iW x l fun x => iW i l fun i => jD (pK P t x i) fun v => K v H := by
 have h : opD P ⟨d, .index t x i, ty, pos, af, g⟩ l H = (pK P t (ev l x) (ev l i)).map fun v => (v, H) := by
  have hp := mD (P := P) ⟨d, .index t x i, ty, pos, af, g⟩ ⟨none, .index t (.const (ev l x)) (.const (ev l i)), t, "", #[], none⟩ l [] H rfl rfl
  simp only [opD, pK]
  exact hp
 have h2 : jJ ((pK P t (ev l x) (ev l i)).map fun v => (v, H)) K = jD (pK P t (ev l x) (ev l i)) fun v => K v H := by cases pK P t (ev l x) (ev l i) <;> rfl
 simp only [lP, h, iW, Op.operands, h2]
 simp [and_assoc]
def nF (s : ByteArray) (i : Nat) : Nat := (s.data.toList.getD i 0).toNat
theorem a8a {t : TypeId} (s : ByteArray) (k : IntKind) (i : Int) (ht : nU P t = true) (h0 : 0 ≤ i) (h1 : i < s.size) : pK P t (.string s) (.int k i) = some (.int .u8 (nF s i.toNat)) := by
 have hu : P.underlying t = some .string := by
  unfold nU at ht
  split at ht
  ·rename_i h; exact h
  ·cases ht
 have hr : gU P (Instr.index t (.string s) (.int k i)) = some (.int .u8 (nF s i.toNat)) := by
  unfold Instr.index
  rw [gR]
  have e1 : gU P (asIntOf (.int k i)) = some (k, i) := rfl
  rw [e1, cV]
  simp only [gR, jC hu, cV]
  rw [if_pos h0]
  have hlt : i.toNat < s.size := by omega
  have hb : s[i.toNat]? = some s[i.toNat] := by simp [getElem?_pos, hlt]
  simp only [hb]
  rw [jR]
  congr 3
  unfold nF
  rw [cZ]
  have hl : i.toNat < s.data.toList.length := by simpa using hlt
  rw [dp hl]
  rfl
 have hpl : jU P ⟨none, .index t (.const (.string s)) (.const (.int k i)), t, "", #[], none⟩ [] .nil = some (.int .u8 (nF s i.toNat), .nil) := by
  unfold jU
  rw [if_pos (by rfl)]
  have : execOp (ev []) ⟨none, .index t (.const (.string s)) (.const (.int k i)), t, "", #[], none⟩ = (do let v ← Instr.index t (.string s) (.int k i); pure (.value v)) := rfl
  rw [this, gR, hr, cV, jR]
  rfl
 simp only [pK, opD, hpl]
 rfl
def a0a (P : Program) (t : TypeId) : Option IntKind := match P.underlying t with | some (.int k) => some k | _ => none
theorem xO {t : TypeId} {k : IntKind} (h : a0a P t = some k) : P.underlying t = some (.int k) := by
 unfold a0a at h
 split at h
 ·rename_i h2; rw [h2]; injection h with h; rw [h]
 ·cases h
theorem b0w {s t : TypeId} {k k' : IntKind} (a : Int) (hs : a0a P s = some k) (ht : a0a P t = some k') : a0R P s t (.int k a) = some (.int k' (k'.wrap a)) := by
 have hr : gU P (convert s t (.int k a)) = some (.int k' (k'.wrap a)) := by
  unfold convert
  simp only [gR, jC (xO hs), jC (xO ht), cV]
  rfl
 have hpl : jU P ⟨none, .convert s t (.const (.int k a)), t, "", #[], none⟩ [] .nil = some (.int k' (k'.wrap a), .nil) := by
  unfold jU
  rw [if_pos (by rfl)]
  have : execOp (ev []) ⟨none, .convert s t (.const (.int k a)), t, "", #[], none⟩ = (do let v ← convert s t (.int k a); pure (.value v)) := rfl
  rw [this, gR, hr, cV, jR]
  rfl
 simp only [a0R, hpl]
 rfl
def a3P (P : Program) (d : Nat) (xs ys : Array Value) (fs : List Field) : Option Bool :=
 (gU P (forIn fs ((none, ()) : Option Bool × Unit) fun f _ =>
   if f.name ≠ "_" then do
    let a ← part f.type xs f.offset
    let b ← part f.type ys f.offset
    let c ← Op.equalIn d f.type a b
    if (!c) = true then pure (ForInStep.done (some false, ())) else pure (ForInStep.yield (none, ()))
   else pure (ForInStep.yield (none, ())))).bind fun x => gU P (match x.fst with | some r => pure r | none => pure true)
theorem a0Q {d : Nat} {xs ys : Array Value} (g : Field → Bool) : ∀ (fs : List Field), (∀ f ∈ fs, f.name ≠ "_" ∧ gU P (part f.type xs f.offset >>= fun x => part f.type ys f.offset >>= fun y => Op.equalIn d f.type x y) = some (g f)) →
 a3P P d xs ys fs = some (fs.all g)
 | [], _ => rfl
 | f :: fs, hg => by
   obtain ⟨h1, h2⟩ := hg f (dZ ..)
   have ih := a0Q g fs fun f' h => hg f' (eC _ h)
   unfold a3P at ih ⊢
   rw [gR] at h2
   simp only [List.forIn_cons, h1, ne_eq, not_false_eq_true, if_true, gR]
   cases hx : gU P (part f.type xs f.offset) with
   | none => rw [hx] at h2; cases h2
   | some x =>
     rw [hx, cV, gR] at h2
     cases hy : gU P (part f.type ys f.offset) with
     | none => rw [hy] at h2; cases h2
     | some y =>
       rw [hy, cV] at h2
       simp only [cV, h2]
       cases hgf : g f with
       | false =>
         simp only [Bool.not_false, if_true, jR, cV, fb, hgf, fw]
       | true =>
         simp only [Bool.not_true, dO, if_false, jR, cV, fb, hgf, gp]
         exact ih
theorem b4D {d : Nat} {t : TypeId} {fs : List Field} {xs ys : Array Value} (hu : P.underlying t = some (.struct fs.toArray)) (hst : P.stoodInHeld t = false) (g : Field → Bool)
 (hg : ∀ f ∈ fs, f.name ≠ "_" ∧ gU P (part f.type xs f.offset >>= fun x => part f.type ys f.offset >>= fun y => Op.equalIn d f.type x y) = some (g f)) : gU P (Op.equalIn (d + 1) t (.agg xs) (.agg ys)) = some (fs.all g) := by
 rw [Op.equalIn, gR, jC hu, cV]
 have hp : gU P program = some P := rfl
 simp only [gR, hp, cV, hst, dO, if_false, List.forIn_toArray]
 refine Eq.trans ?_ (a0Q g fs hg)
 unfold a3P
 congr 1
 funext x
 cases x.fst <;> rfl
theorem a3b {op : BinOp} {t : TypeId} (ht : P.eqGuardType P.depth t = false) {x y : Operand} {a b : Array Value} : gU P (eqGuard op t x y (.agg a) (.agg b)) = some () := by
 have hp : gU P program = some P := rfl
 unfold eqGuard
 cases op <;> simp [gR, hp, ht, jR]
theorem b4Y {t t2 : TypeId} {cx cy : Bool} {xs ys : List Value} (b : Bool) (ht : P.eqGuardType P.depth t = false) (hx : xs.all iJ = true) (hy : ys.all iJ = true) (h : gU P (Op.equalIn (9999 + 1) t (.agg xs.toArray) (.agg ys.toArray)) = some b) :
 kC P .eql t t2 cx cy (.agg xs.toArray) (.agg ys.toArray) = some (.bool b) :=
 kV (by simp [flat, iL, jM, hx]) (by simp [flat, iL, jM, hy]) (a3b ht) (by
  have hmd : Op.maxDepth = 9999 + 1 := by decide
  simp only [binOp, gR, Op.equal]
  rw [hmd, h, cV, jR]) rfl (by simp) (by simp) (by intro _ _ _ h; cases h)
theorem b5h {t t2 : TypeId} {cx cy : Bool} {xs ys : List Value} (b : Bool) (ht : P.eqGuardType P.depth t = false) (hx : xs.all iJ = true) (hy : ys.all iJ = true) (h : gU P (Op.equalIn (9999 + 1) t (.agg xs.toArray) (.agg ys.toArray)) = some b) :
 kC P .neq t t2 cx cy (.agg xs.toArray) (.agg ys.toArray) = some (.bool (!b)) :=
 kV (by simp [flat, iL, jM, hx]) (by simp [flat, iL, jM, hy]) (a3b ht) (by
  have hmd : Op.maxDepth = 9999 + 1 := by decide
  simp only [binOp, gR, Op.equal]
  rw [hmd, h, cV, jR]) rfl (by simp) (by simp) (by intro _ _ _ h; cases h)
end
end Go.Ds
namespace Go.Ds
noncomputable section
variable {P : Program} {H : Heap}
theorem a0x (a b : ByteArray) : (a == b) = decide (b = a) := by
 obtain ⟨x⟩ := a
 obtain ⟨y⟩ := b
 rw [ec, decide_eq_true_iff]
 constructor
 ·intro h
  have e : x = y := by simpa using (show (x == y) = true from h)
  rw [e]
 ·intro h
  cases h
  show (x == x) = true
  simp
theorem a2K (o : Option Nat) (i : Nat) : o.map (i + 1 + ·) = (o.map (· + 1)).map (i + ·) := by
 cases o with
 | none => rfl
 | some j => simp only [dK]; congr 1; omega
theorem zY (k : ByteArray) : ∀ (es : List MapEntry) (ks : List ByteArray) (i : Nat), es.map (·.key) = ks.map Value.string →
 (Instr.findNow .string (.string k) (es.map vP) i).map (·.map (·.1)) = some ((ks.findIdx? fun x => decide (x = k)).map (i + ·))
 | [], [], i, _ => rfl
 | [], _ :: _, _, h => by simp at h
 | _ :: _, [], _, h => by simp at h
 | e :: es, s :: ks, i, h => by
   simp only [dR, fG] at h
   have hs : Instr.sameNow .string (.string k) e.key = some (decide (s = k)) := by
    rw [h.1]
    show some (k == s) = _
    rw [a0x]
   simp only [dR, Instr.findNow, vP, hs, fp]
   by_cases hd : s = k
   ·simp [hd]
   ·simp only [hd, decide_false, dO, if_false]
    have := zY k es ks (i + 1) h.2
    rw [a2K] at this
    exact this
theorem a9w {κ : Type} [DecidableEq κ] {enc : κ → Value} {kt : TypeId} (heq : ∀ a b, gU P (Op.equal kt (enc a) (enc b)) = some (decide (b = a))) (k : κ) : ∀ (es : List MapEntry) (ks : List κ) (i : Nat), es.map (·.key) = ks.map enc →
 (gU P (Instr.findAsking kt (enc k) (es.map vP) i)).map (·.map (·.1)) = some ((ks.findIdx? fun x => decide (x = k)).map (i + ·))
 | [], [], i, _ => rfl
 | [], _ :: _, _, h => by simp at h
 | _ :: _, [], _, h => by simp at h
 | e :: es, s :: ks, i, h => by
   simp only [dR, fG] at h
   simp only [dR, Instr.findAsking, vP, gR, fp]
   rw [h.1, heq, cV]
   by_cases hd : s = k
   ·simp [hd, jR]
   ·simp only [hd, decide_false, dO, if_false]
    have := a9w heq k es ks (i + 1) h.2
    rw [a2K] at this
    exact this
theorem MapK.str {t kt et : TypeId} {z : Value} (hm : zW P t = some (kt, et)) (hu : P.underlying kt = some .string) (hz : iF P et = some z) (hf : iL z = true) : MapK P t Value.string z where
 ex := by
  refine ⟨kt, et, hm, hz, hf, ?_, ?_, ?_⟩
  ·intro b k
   have : gU P (Instr.checkKey b 10000 kt (.string k)) = some () := by
    show gU P (Instr.checkKey b (9999 + 1) kt (.string k)) = some ()
    unfold Instr.checkKey
    rw [gR, jC hu, cV]
    rfl
   simp only [a0E, this]
   rfl
  ·intro k es ks h
   have h1 := zY k es ks 0 h
   unfold rS Instr.findKey
   rw [gR, jC hu, cV]
   cases hn : Instr.findNow .string (.string k) (es.map vP) 0 with
   | none => rw [hn] at h1; cases h1
   | some r =>
     rw [hn] at h1
     simp only [jR]
     simpa using h1
  ·intro k
   show (k == k) = true
   rw [a0x]
   simp
theorem MapK.struct {κ : Type} [DecidableEq κ] {enc : κ → Value} {t kt et : TypeId} {z : Value} {fs : Array Field} (hm : zW P t = some (kt, et)) (hu : P.underlying kt = some (.struct fs)) (hz : iF P et = some z) (hf : iL z = true)
 (hk : ∀ b k, a0E P b kt (enc k) = true) (heq : ∀ a b, gU P (Op.equal kt (enc a) (enc b)) = some (decide (b = a))) (hsb : ∀ k, Instr.sameBits 10000 (enc k) (enc k) = true) : MapK P t enc z where
 ex := by
  refine ⟨kt, et, hm, hz, hf, hk, ?_, hsb⟩
  intro k es ks h
  have h1 := a9w heq k es ks 0 h
  unfold rS Instr.findKey
  rw [gR, jC hu, cV]
  have key : ∀ (l : List MapEntry), Instr.findNow (.struct fs) (enc k) l 0 = none ∨ l = [] := by
   intro l
   cases l with
   | nil => exact .inr rfl
   | cons e l => exact .inl rfl
  rcases key (es.map vP) with hn | hn
  ·rw [hn]
   simpa using h1
  ·rw [hn]
   have : es = [] := by simpa using hn
   subst this
   have : ks = [] := by cases ks with | nil => rfl | cons a ks => simp at h
   subst this
   rfl
end
end Go.Ds
namespace Go.Ds
noncomputable section
variable {P : Program} {H : Heap}
def a0L (o : Option (Nat × TypeId)) (P : Program) (H : Heap) (t : TypeId) (z : Value) (K : Value → Heap → Prop) (_k : Keep K := ⟨⟩) : Prop := match o with
 | none => sV (iL z) (a3H P H t z K)
 | some _ => sV (iL z) (a7j P H t z K)
theorem a4f {o o' : Option (Nat × TypeId)} {t : TypeId} {z : Value} {K : Value → Heap → Prop} (h : o = o') : a0L o P H t z K = a0L o' P H t z K := by rw [h]
attribute [congr] a4f
theorem b3b {t : TypeId} (z : Value) (K : Value → Heap → Prop) : sM P H t (some z) K = a0L (iS P t) P H t z K := by
 cases h : iS P t with
 | none => exact a5k z K h
 | some n => exact a8K z K h
theorem a4T {t : TypeId} (z : Value) (K : Value → Heap → Prop) : a0L none P H t z K = sV (iL z) (a3H P H t z K) := rfl
theorem a5K {t : TypeId} (n : Nat × TypeId) (z : Value) (K : Value → Heap → Prop) : a0L (some n) P H t z K = sV (iL z) (a7j P H t z K) := rfl
theorem a5E {t : TypeId} {k : IntKind} (h : a0a P t = some k) : kJ P t = false := by
 simp [kJ, xO h]
def a2J (ks kt : Option IntKind) (P : Program) (s t : TypeId) (H : Heap) (k : IntKind) (a : Int) (K : Value → Heap → Prop) (_k : Keep K := ⟨⟩) : Prop := match ks, kt with
 | some k0, some k' => if k0 = k then K (.int k' (k'.wrap a)) H else sG P s t H (.int k a) K
 | _, _ => sG P s t H (.int k a) K
theorem a6n {ks ks' kt kt' : Option IntKind} {s t : TypeId} {k : IntKind} {a : Int} {K : Value → Heap → Prop} (h : ks = ks') (h2 : kt = kt') : a2J ks kt P s t H k a K = a2J ks' kt' P s t H k a K := by rw [h, h2]
attribute [congr] a6n
theorem b7y {s t : TypeId} (k : IntKind) (a : Int) (K : Value → Heap → Prop) : sG P s t H (.int k a) K = a2J (a0a P s) (a0a P t) P s t H k a K := by
 unfold a2J
 split
 ·rename_i k0 k' hs ht
  split
  ·rename_i hk
   subst hk
   rw [b1y k0 a K (a5E ht), b0w a hs ht]
   rfl
  ·rfl
 ·rfl
theorem b0t {s t : TypeId} (k k' : IntKind) (a : Int) (K : Value → Heap → Prop) : a2J (some k) (some k') P s t H k a K = nY (.int k' (k'.wrap a)) fun v => K v H := by simp [a2J, nY]
def c0h (b : Bool) (P : Program) (H : Heap) (t : TypeId) (v : Value) : Option Value := match b with
 | true => (match v with | .string s => some (.int .i64 s.size) | _ => yF P H t v)
 | false => yF P H t v
theorem b9s (t : TypeId) (v : Value) : a6Y none P H t v = c0h (nU P t) P H t v := by
 unfold c0h
 split
 ·rename_i h
  split
  ·exact b3v _ h
  ·rfl
 ·rfl
theorem b3P (t : TypeId) (s : ByteArray) : c0h true P H t (.string s) = some (.int .i64 s.size) := rfl
def a4h (b : Bool) (P : Program) (t : TypeId) (x i : Value) : Option Value := match b, x, i with
 | true, .string s, .int k i => if 0 ≤ i ∧ i < s.size then some (.int .u8 (nF s i.toNat)) else pK P t (.string s) (.int k i)
 | _, x, i => pK P t x i
theorem b4R (t : TypeId) (x i : Value) : pK P t x i = a4h (nU P t) P t x i := by
 unfold a4h
 split
 ·rename_i h
  split
  ·rename_i h2; exact a8a _ _ _ h h2.1 h2.2
  ·rfl
 ·rfl
theorem a8r (t : TypeId) (s : ByteArray) (k : IntKind) (i : Int) (h0 : 0 ≤ i) (h1 : i < s.size) : a4h true P t (.string s) (.int k i) = some (.int .u8 (nF s i.toNat)) := by
 simp [a4h, h0, h1]
theorem OC : (∀ k n, oneCell (.int k n) = true) ∧ (∀ b, oneCell (.bool b) = true) ∧ (∀ s, oneCell (.string s) = true) ∧ (∀ a, oneCell (.pointer a) = true) ∧ (∀ a n c, oneCell (.slice a n c) = true) ∧ (∀ r, oneCell (.map r) = true) ∧ (∀ f a b, oneCell (.func f a b) = true) ∧ oneCell .nilFunc = true :=
 ⟨fun _ _ => rfl, fun _ => rfl, fun _ => rfl, fun _ => rfl, fun _ _ _ => rfl, fun _ => rfl, fun _ _ _ => rfl, rfl⟩
theorem c2i (o : Option Bool) : (o.map Value.bool).getD (.bool false) = .bool (o.getD false) := by cases o <;> rfl
theorem c1j (k : IntKind) (o : Option Int) : (o.map (Value.int k)).getD (.int k 0) = .int k (o.getD 0) := by cases o <;> rfl
theorem b7F (v : Value) (b : Bool) : pairV false v b = v := rfl
theorem b5s (v : Value) (b : Bool) : pairV true v b = .tuple #[v, .bool b] := rfl
theorem b3Y (t : Tmp) : kR (.tmp t) = false := rfl
theorem a8s (v : Value) : kR (.const v) = true := rfl
theorem b3u (s : ByteArray) : flat (.string s) = true := rfl
theorem b1x (s : ByteArray) : iL (.string s) = true := rfl
theorem a7J (s : ByteArray) : iJ (.string s) = true := rfl
theorem a5V (s : ByteArray) : iT (.string s) = true := rfl
theorem b2y (k : IntKind) (n : Int) : nR (.int k n) = true := rfl
theorem b1N (b : Bool) : nR (.bool b) = true := rfl
theorem b2X (s : ByteArray) : nR (.string s) = true := rfl
theorem a2s {c b : Bool} {p q : Prop} (h1 : c = true → qN (.bool true) b p q) (h2 : c = false → qN (.bool false) b p q) : qN (.bool c) b p q := by
 cases c
 ·exact h2 rfl
 ·exact h1 rfl
theorem St.pick {H0 : Base} {os os' : List Ob} (hS : St P H0 H os) (idx : List Nat) (hn : idx.Nodup) (h : idx.map (os[·]?) = os'.map some) : St P H0 H os' := by
 have hmem : ∀ o ∈ os', o ∈ os := by
  intro o ho
  have : some o ∈ idx.map (os[·]?) := by rw [h]; exact fA ho
  obtain ⟨i, _, hi⟩ := dA.1 this
  exact dP hi
 refine ⟨hS.len, hS.old, fun o ho => hS.own o (hmem o ho), fun o ho => hS.new o (hmem o ho), ?_⟩
 have hpw := eM.1 hS.sep
 rw [eM]
 intro i j hi hj hij
 have hl : idx.length = os'.length := by simpa using congrArg List.length h
 have key : ∀ i (hi : i < os'.length), ∃ hk : idx[i]'(by omega) < os.length, os[idx[i]'(by omega)] = os'[i] := by
  intro i hi
  have h1 : (idx.map (os[·]?))[i]? = (os'.map some)[i]? := by rw [h]
  rw [eB, eB, dp (by omega), dp hi] at h1
  simp only [dK, du] at h1
  exact dq.1 h1
 obtain ⟨h1, e1⟩ := key i hi
 obtain ⟨h2, e2⟩ := key j hj
 have hne : idx[i]'(by omega) ≠ idx[j]'(by omega) := by
  have := eM.1 hn i j (by omega) (by omega) hij
  exact this
 rcases fE hne with hh | hh
 ·have := hpw _ _ h1 h2 hh
  rw [e1, e2] at this
  exact this
 ·have := hpw _ _ h2 h1 hh
  rw [e1, e2] at this
  intro B hb hb'
  exact this B hb' hb
theorem St.frame {H1 : Heap} {H0 : Base} {ls rest ls' : List Ob} (hS : St P H0 H (ls ++ rest)) (h1 : St P ⟨H, pP ls⟩ H1 ls') : St P H0 H1 (ls' ++ rest) := by
 have hls : St P H0 H ls := hS.sub (List.sublist_append_left ..)
 have h2 := hls.bE h1
 have hsep := fY.1 hS.sep
 have hkeep : ∀ o ∈ rest, ∀ B, jT o.v = some B → gY H1 B = gY H B := by
  intro o ho B hB
  have hlt := (hS.own o (eR _ ho)).lt hB
  exact h1.old B hlt fun ⟨x, hx, hxb⟩ => hsep.2.2 x hx o ho B hxb hB
 refine ⟨h2.len, h2.old, ?_, ?_, ?_⟩
 ·intro o ho
  rcases dB.1 ho with ho | ho
  ·exact h2.own o ho
  ·exact (hS.own o (eR _ ho)).ae (hkeep o ho)
 ·intro o ho B hB
  rcases dB.1 ho with ho | ho
  ·exact h2.new o ho B hB
  ·exact hS.new o (eR _ ho) B hB
 ·rw [fY]
  refine ⟨h2.sep, hsep.2.1, ?_⟩
  intro x hx y hy B hb hb'
  rcases h1.new x hx B hb with hh | ⟨z, hz, hzb⟩
  ·have := (hS.own y (eR _ hy)).lt hb'
   have hh : H.length ≤ B := hh
   omega
  ·exact hsep.2.2 z hz y hy B hzb hb'
theorem b6c (t : TypeId) (k : IntKind) (n : Int) : unV P .neg t (.int k n) = some (.int k (k.wrap (0 - n))) := rfl
theorem b1c (ops : Array Oper) (d : Option Tmp) (op : Op) (ty : TypeId) (pos : String) (af : Array Edge) (j : Nat) (b : Bool) (l : List Value) (H' : Heap) (v : Value) :
 rdW P ops (some ⟨d, op, ty, pos, af, some (j, b)⟩) (some (l, H', v)) H = tL (wG ops j) l b (lP P ⟨d, op, ty, pos, af, some (j, b)⟩ l H fun v' _ => v' = v) True := by
 rw [← rZ ops l d op ty pos af]
 unfold rdW
 split
 ·rename_i h1 h2
  cases h1; cases h2
  split
  ·rename_i h; simp [h]
  ·rename_i h; simp [h]
 ·rename_i h
  exact (h _ _ _ _ rfl rfl).elim
theorem b1A (t t2 : TypeId) (cx cy : Bool) (k : IntKind) (a b : Int) (K : Value → Prop) : kK P .and t t2 cx cy (.int k a) (.int k b) K = jD (kC P .and t t2 cx cy (.int k a) (.int k b)) K := by
 have h : (if k = k then lU .and k a b else none) = none := by split <;> rfl
 unfold kK; dsimp only
 rw [h]
theorem b2x (t t2 : TypeId) (cx cy : Bool) (k : IntKind) (a b : Int) (K : Value → Prop) : kK P .or t t2 cx cy (.int k a) (.int k b) K = jD (kC P .or t t2 cx cy (.int k a) (.int k b)) K := by
 have h : (if k = k then lU .or k a b else none) = none := by split <;> rfl
 unfold kK; dsimp only
 rw [h]
theorem a9X (t t2 : TypeId) (cx cy : Bool) (k : IntKind) (a b : Int) (K : Value → Prop) : kK P .xor t t2 cx cy (.int k a) (.int k b) K = jD (kC P .xor t t2 cx cy (.int k a) (.int k b)) K := by
 have h : (if k = k then lU .xor k a b else none) = none := by split <;> rfl
 unfold kK; dsimp only
 rw [h]
theorem a4t (t t2 : TypeId) (cx cy : Bool) (k : IntKind) (a b : Int) (K : Value → Prop) : kK P .andNot t t2 cx cy (.int k a) (.int k b) K = jD (kC P .andNot t t2 cx cy (.int k a) (.int k b)) K := by
 have h : (if k = k then lU .andNot k a b else none) = none := by split <;> rfl
 unfold kK; dsimp only
 rw [h]
theorem b1j (t t2 : TypeId) (cx cy : Bool) (k k' : IntKind) (a b : Int) (K : Value → Prop) : kK P .shl t t2 cx cy (.int k a) (.int k' b) K = jD (kC P .shl t t2 cx cy (.int k a) (.int k' b)) K := by
 have h : (if k = k' then lU .shl k a b else none) = none := by split <;> rfl
 unfold kK; dsimp only
 rw [h]
theorem b0j (t t2 : TypeId) (cx cy : Bool) (k k' : IntKind) (a b : Int) (K : Value → Prop) : kK P .shr t t2 cx cy (.int k a) (.int k' b) K = jD (kC P .shr t t2 cx cy (.int k a) (.int k' b)) K := by
 have h : (if k = k' then lU .shr k a b else none) = none := by split <;> rfl
 unfold kK; dsimp only
 rw [h]
theorem a9Y (op : BinOp) (t t2 : TypeId) (cx cy : Bool) (a b : ByteArray) (K : Value → Prop) : kK P op t t2 cx cy (.string a) (.string b) K = jD (kC P op t t2 cx cy (.string a) (.string b)) K := rfl
theorem b1d (op : BinOp) (t t2 : TypeId) (cx cy : Bool) (a b : Array Value) (K : Value → Prop) : kK P op t t2 cx cy (.agg a) (.agg b) K = jD (kC P op t t2 cx cy (.agg a) (.agg b)) K := rfl
theorem b0U (op : BinOp) (t t2 : TypeId) (cx cy : Bool) (a b : Bool) (K : Value → Prop) : kK P op t t2 cx cy (.bool a) (.bool b) K = jD (kC P op t t2 cx cy (.bool a) (.bool b)) K := rfl
theorem b2j (n : Int) (h1 : -9223372036854775808 ≤ n) (h2 : n < 9223372036854775808) : IntKind.wrap .i64 n = n := by
 show (if (true && decide (n % 18446744073709551616 ≥ 9223372036854775808)) = true then n % 18446744073709551616 - 18446744073709551616 else n % 18446744073709551616) = n
 simp only [gp, decide_eq_true_eq]
 omega
theorem b5v (n : Int) (h1 : -128 ≤ n) (h2 : n < 128) : IntKind.wrap .i8 n = n := by
 show (if (true && decide (n % 256 ≥ 128)) = true then n % 256 - 256 else n % 256) = n
 simp only [gp, decide_eq_true_eq]
 omega
theorem qW (n : Int) (h1 : 0 ≤ n) (h2 : n < 18446744073709551616) : IntKind.wrap .u64 n = n := by
 show (if (false && decide (n % 18446744073709551616 ≥ 9223372036854775808)) = true then n % 18446744073709551616 - 18446744073709551616 else n % 18446744073709551616) = n
 simp only [fw]
 rw [if_neg (by simp)]
 omega
theorem b4i (n : Int) (h1 : 0 ≤ n) (h2 : n < 4294967296) : IntKind.wrap .u32 n = n := by
 show (if (false && decide (n % 4294967296 ≥ 2147483648)) = true then n % 4294967296 - 4294967296 else n % 4294967296) = n
 simp only [fw]
 rw [if_neg (by simp)]
 omega
theorem b2t (n : Int) (h1 : 0 ≤ n) (h2 : n < 65536) : IntKind.wrap .u16 n = n := by
 show (if (false && decide (n % 65536 ≥ 32768)) = true then n % 65536 - 65536 else n % 65536) = n
 simp only [fw]
 rw [if_neg (by simp)]
 omega
theorem b6i (n : Int) (h1 : 0 ≤ n) (h2 : n < 256) : IntKind.wrap .u8 n = n := by
 show (if (false && decide (n % 256 ≥ 128)) = true then n % 256 - 256 else n % 256) = n
 simp only [fw]
 rw [if_neg (by simp)]
 omega
end
end Go.Ds
namespace Go.Ds
noncomputable section
variable {P : Program}
def xY (P : Program) (t : TypeId) : List Field := match P.underlying t with | some (.struct fs) => fs.toList | _ => []
def xK : Value → Value → Bool
 | .int _ a, .int _ b => a == b
 | .bool a, .bool b => a == b
 | .string a, .string b => decide (a = b)
 | _, _ => false
def okC (P : Program) (t : TypeId) (x y : Value) : Bool := match P.underlying t with
 | some (.int _) => (match x, y with | .int k _, .int k' _ => decide (k = k') | _, _ => false)
 | some .bool => (match x, y with | .bool _, .bool _ => true | _, _ => false)
 | some .string => (match x, y with | .string _, .string _ => true | _, _ => false)
 | _ => false
theorem eq1 {t : TypeId} {x y : Value} (d : Nat) (h : okC P t x y = true) : gU P (Op.equalIn (d + 1) t x y) = some (xK x y) := by
 unfold okC at h
 split at h
 ·rename_i k0 hu
  split at h
  ·rename_i k a k' b
   have hk : k = k' := by simpa using h
   subst hk
   rw [Op.equalIn, gR, jC hu, cV]
   simp only [if_true]
   rfl
  ·cases h
 ·rename_i hu
  split at h
  ·rw [Op.equalIn, gR, jC hu, cV]; rfl
  ·cases h
 ·rename_i hu
  split at h
  ·rename_i a b
   rw [Op.equalIn, gR, jC hu, cV]
   show some (a == b) = some (decide (a = b))
   rw [a0x]
   congr 1
   simp [eq_comm]
  ·cases h
 ·cases h
theorem b8c {t : TypeId} {x y v : Value} {cs : Array Value} {off : Nat} (h : okC P t x y = true) (hc : cs[off]? = some v) : gU P (part t cs off) = some v := by
 have ha : gU P (isAgg t) = some false := by
  unfold isAgg
  unfold okC at h
  split at h
  ·rename_i hu; rw [gR, jC hu, cV]; rfl
  ·rename_i hu; rw [gR, jC hu, cV]; rfl
  ·rename_i hu; rw [gR, jC hu, cV]; rfl
  ·cases h
 unfold part
 rw [gR, ha, cV]
 simp only [dO, if_false, hc]
 rfl
theorem a1B {t : TypeId} {xs ys : List Value} (d : Nat) (hu : P.underlying t = some (.struct (xY P t).toArray)) (hst : P.stoodInHeld t = false)
 (hf : ((xY P t).map fun f => (f.name != "_", f.offset)) = (List.range xs.length).map fun j => (true, j)) (hy : ys.length = xs.length)
 (hok : ((xY P t).all fun f => okC P f.type (xs.getD f.offset undef) (ys.getD f.offset undef)) = true) :
 gU P (Op.equalIn (d + 2) t (.agg xs.toArray) (.agg ys.toArray)) = some ((List.range xs.length).all fun j => xK (xs.getD j undef) (ys.getD j undef)) := by
 rw [dm] at hok
 have hmem : ∀ f ∈ xY P t, (f.name != "_") = true ∧ f.offset < xs.length := fun f hf' => by
  have : (f.name != "_", f.offset) ∈ (List.range xs.length).map fun j => (true, j) := by rw [← hf]; exact fA hf'
  obtain ⟨j, hj, he⟩ := dA.1 this
  simp only [gm] at he
  exact ⟨he.1.symm, by rw [← he.2]; exact dF.1 hj⟩
 rw [b4D hu hst (fun f => xK (xs.getD f.offset undef) (ys.getD f.offset undef)) ?_]
 ·congr 1
  have h1 : (xY P t).all (fun f => xK (xs.getD f.offset undef) (ys.getD f.offset undef)) = ((xY P t).map fun f => (f.name != "_", f.offset)).all fun p => xK (xs.getD p.2 undef) (ys.getD p.2 undef) := by
   rw [List.all_map]; rfl
  rw [h1, hf, List.all_map]
  rfl
 ·intro f hf'
  obtain ⟨h1, h2⟩ := hmem f hf'
  refine ⟨by simpa using h1, ?_⟩
  have hx : xs.toArray[f.offset]? = some (xs.getD f.offset undef) := by
   rw [eP, cZ, dp h2]; rfl
  have hy' : ys.toArray[f.offset]? = some (ys.getD f.offset undef) := by
   rw [eP, cZ, dp (by omega)]; rfl
  rw [gR, b8c (hok f hf') hx, cV, gR, b8c (hok f hf') hy', cV]
  exact eq1 d (hok f hf')
theorem tA {t t2 : TypeId} {cx cy : Bool} {xs ys : List Value} (hu : P.underlying t = some (.struct (xY P t).toArray)) (hst : P.stoodInHeld t = false) (hg : P.eqGuardType P.depth t = false)
 (hf : ((xY P t).map fun f => (f.name != "_", f.offset)) = (List.range xs.length).map fun j => (true, j)) (hy : ys.length = xs.length)
 (hok : ((xY P t).all fun f => okC P f.type (xs.getD f.offset undef) (ys.getD f.offset undef)) = true) (hx : xs.all iJ = true) (hys : ys.all iJ = true) :
 kC P .eql t t2 cx cy (.agg xs.toArray) (.agg ys.toArray) = some (.bool ((List.range xs.length).all fun j => xK (xs.getD j undef) (ys.getD j undef))) ∧
 kC P .neq t t2 cx cy (.agg xs.toArray) (.agg ys.toArray) = some (.bool (!((List.range xs.length).all fun j => xK (xs.getD j undef) (ys.getD j undef)))) :=
 ⟨b4Y _ hg hx hys (a1B 9998 hu hst hf hy hok), b5h _ hg hx hys (a1B 9998 hu hst hf hy hok)⟩
theorem b9G {t : TypeId} {k : IntKind} (hu : P.underlying t = some (.struct (xY P t).toArray)) (hst : P.stoodInHeld t = false)
 (hf : ((xY P t).map fun f => (f.name != "_", f.offset)) = (List.range 2).map fun j => (true, j))
 (hok : ∀ a b c d : Int, ((xY P t).all fun f => okC P f.type ([Value.int k a, .int k b].getD f.offset undef) ([Value.int k c, .int k d].getD f.offset undef)) = true) (a b : Int × Int) :
 gU P (Op.equal t (.agg #[.int k a.1, .int k a.2]) (.agg #[.int k b.1, .int k b.2])) = some (decide (b = a)) := by
 have hmd : Op.maxDepth = 9998 + 2 := by decide
 unfold Op.equal
 rw [hmd, a1B (xs := [.int k a.1, .int k a.2]) (ys := [.int k b.1, .int k b.2]) 9998 hu hst hf rfl (hok _ _ _ _)]
 congr 1
 show ((a.1 == b.1) && ((a.2 == b.2) && true)) = _
 rw [ec]
 simp only [fc, cW, beq_iff_eq, decide_eq_true_eq, Prod.ext_iff]
 constructor
 ·rintro ⟨h1, h2⟩; exact ⟨h1.symm, h2.symm⟩
 ·rintro ⟨h1, h2⟩; exact ⟨h1.symm, h2.symm⟩
theorem b8X {k : IntKind} (a : Int × Int) : Instr.sameBits 10000 (.agg #[.int k a.1, .int k a.2]) (.agg #[.int k a.1, .int k a.2]) = true := by
 show ((2 : Nat) == 2 && ([(Value.int k a.1, Value.int k a.1), (Value.int k a.2, Value.int k a.2)]).all fun (x, y) => Instr.sameBits 9999 x y) = true
 have h : ∀ n, Instr.sameBits 9999 (.int k n) (.int k n) = true := fun n => by
  show (k == k && n == n) = true
  cases k <;> simp <;> rfl
 simp [h]
section
variable {H : Heap} {α : Type} {n : Nat} {cel : α → List Value} {v : Value} {xs : List α}
theorem Sl.aV (h : Sl n cel H v xs) (o : Oper) (l : List Value) (H' : Heap) (k : IntKind) (a : Int) (K : Value → Heap → Prop) (h0 : 0 < xs.length) (h1 : 0 ≤ a) (h2 : a ≤ xs.length) :
 nX P o l H' (some n) v none (some (.int k a)) K = nY (rD v n 0 a.toNat) fun v => K v H' := by
 obtain ⟨m, rfl⟩ : ∃ m, n = m + 1 := ⟨n - 1, by have := h.pos; omega⟩
 exact h.rd.aV (gV h.hc xs) o l H' k a K h0 h1 h2
theorem Sl.aU (h : Sl n cel H v xs) (o : Oper) (l : List Value) (H' : Heap) (k : IntKind) (a : Int) (K : Value → Heap → Prop) (h0 : 0 < xs.length) (h1 : 0 ≤ a) (h2 : a ≤ xs.length) :
 nX P o l H' (some n) v (some (.int k a)) none K = nY (rD v n a.toNat (xs.length - a).toNat) fun v => K v H' := by
 obtain ⟨m, rfl⟩ : ∃ m, n = m + 1 := ⟨n - 1, by have := h.pos; omega⟩
 rw [h.rd.aU (gV h.hc xs) o l H' k a K h0 h1 h2]
 congr 2
 omega
theorem Sl.sub (h : Sl n cel H v xs) (lo k : Nat) (hk : lo + k ≤ xs.length) (h0 : 0 < xs.length) : Sl n cel H (rD v n lo k) ((xs.drop lo).take k) := by
 refine ⟨?_, h.hc, h.pos⟩
 have hne : xs.flatMap cel ≠ [] := fun e => by
  have := gV h.hc xs
  rw [e, ef] at this
  have hp := gx h0 h.pos
  omega
 have := h.rd.sub lo k (by rw [gV h.hc, ← eW]; exact dH _ hk) hne
 rw [rA h.hc, a1E h.hc] at this
 exact this
theorem Sl.cB (h : Sl n cel H v xs) (k : Nat) (hk : k ≤ xs.length) (h0 : 0 < xs.length) : Sl n cel H (rD v n 0 k) (xs.take k) := by
 simpa using h.sub 0 k (by omega) h0
theorem Sl.cC (h : Sl n cel H v xs) (lo : Nat) (hk : lo ≤ xs.length) (h0 : 0 < xs.length) : Sl n cel H (rD v n lo (xs.length - lo)) (xs.drop lo) := by
 have := h.sub lo (xs.length - lo) (by omega) h0
 rwa [List.take_of_length_le (by simp)] at this
end
def a7t (P : Program) (ts : Array TypeId) (ty : TypeId) (cx cy : Bool) (x y : Value) : Option Value := (jU P ⟨none, .call { callee := .builtin .max, args := #[nS cx 0 x, nS cy 1 y], argTypes := ts }, ty, "", #[], none⟩ [x, y] .nil).map (·.1)
theorem b5C (d : Option Tmp) (ty : TypeId) (pos : String) (af : Array Edge) (g : Option (Nat × Bool)) (ts : Array TypeId) (x y : Operand) (l : List Value) (H : Heap) (K : Value → Heap → Prop) :
 lP P ⟨d, .call { callee := .builtin .max, args := #[x, y], argTypes := ts }, ty, pos, af, g⟩ l H K = iW x l fun x' => iW y l fun y' => jD (a7t P ts ty (kR x) (kR y) x' y') fun v => K v H := by
 have h : opD P ⟨d, .call { callee := .builtin .max, args := #[x, y], argTypes := ts }, ty, pos, af, g⟩ l H = (a7t P ts ty (kR x) (kR y) (ev l x) (ev l y)).map fun v => (v, H) :=
  mD (P := P) ⟨d, .call { callee := .builtin .max, args := #[x, y], argTypes := ts }, ty, pos, af, g⟩ ⟨none, .call { callee := .builtin .max, args := #[nS (kR x) 0 (ev l x), nS (kR y) 1 (ev l y)], argTypes := ts }, ty, "", #[], none⟩ l [ev l x, ev l y] H
   (by cases x <;> cases y <;> rfl) (by cases x <;> cases y <;> kernel_rfl)
 have h2 : jJ ((a7t P ts ty (kR x) (kR y) (ev l x) (ev l y)).map fun v => (v, H)) K = jD (a7t P ts ty (kR x) (kR y) (ev l x) (ev l y)) fun v => K v H := by cases a7t P ts ty (kR x) (kR y) (ev l x) (ev l y) <;> rfl
 simp only [lP, h, iW, Op.operands, Call.operands, h2]
 simp [and_assoc]
theorem b3L (ts : Array TypeId) (ty : TypeId) (cx cy : Bool) (a b : Int) : a7t P ts ty cx cy (.int .i64 a) (.int .i64 b) = some (.int .i64 (max a b)) := by
 have h : a7t P ts ty cx cy (.int .i64 a) (.int .i64 b) = some (.int .i64 (if b > a then b else a)) := by cases cx <;> cases cy <;> kernel_rfl
 rw [h]
 congr 2
 split <;> omega
def a7q (P : Program) (ts : Array TypeId) (ty : TypeId) (cx cy : Bool) (x y : Value) : Option Value := (jU P ⟨none, .call { callee := .builtin .min, args := #[nS cx 0 x, nS cy 1 y], argTypes := ts }, ty, "", #[], none⟩ [x, y] .nil).map (·.1)
theorem b6O (d : Option Tmp) (ty : TypeId) (pos : String) (af : Array Edge) (g : Option (Nat × Bool)) (ts : Array TypeId) (x y : Operand) (l : List Value) (H : Heap) (K : Value → Heap → Prop) :
 lP P ⟨d, .call { callee := .builtin .min, args := #[x, y], argTypes := ts }, ty, pos, af, g⟩ l H K = iW x l fun x' => iW y l fun y' => jD (a7q P ts ty (kR x) (kR y) x' y') fun v => K v H := by
 have h : opD P ⟨d, .call { callee := .builtin .min, args := #[x, y], argTypes := ts }, ty, pos, af, g⟩ l H = (a7q P ts ty (kR x) (kR y) (ev l x) (ev l y)).map fun v => (v, H) :=
  mD (P := P) ⟨d, .call { callee := .builtin .min, args := #[x, y], argTypes := ts }, ty, pos, af, g⟩ ⟨none, .call { callee := .builtin .min, args := #[nS (kR x) 0 (ev l x), nS (kR y) 1 (ev l y)], argTypes := ts }, ty, "", #[], none⟩ l [ev l x, ev l y] H
   (by cases x <;> cases y <;> rfl) (by cases x <;> cases y <;> kernel_rfl)
 have h2 : jJ ((a7q P ts ty (kR x) (kR y) (ev l x) (ev l y)).map fun v => (v, H)) K = jD (a7q P ts ty (kR x) (kR y) (ev l x) (ev l y)) fun v => K v H := by cases a7q P ts ty (kR x) (kR y) (ev l x) (ev l y) <;> rfl
 simp only [lP, h, iW, Op.operands, Call.operands, h2]
 simp [and_assoc]
theorem b4k (ts : Array TypeId) (ty : TypeId) (cx cy : Bool) (a b : Int) : a7q P ts ty cx cy (.int .i64 a) (.int .i64 b) = some (.int .i64 (min a b)) := by
 have h : a7q P ts ty cx cy (.int .i64 a) (.int .i64 b) = some (.int .i64 (if b < a then b else a)) := by cases cx <;> cases cy <;> kernel_rfl
 rw [h]
 congr 2
 split <;> omega
section
variable {H : Heap}
def Var (H : Heap) (A n : Nat) (cs : List Value) : Prop := n = cs.length ∧ ∃ ty rw lo ver, gY H A = some (.cells cs ty rw lo ver) ∧ lo ≤ cs.length
theorem Var.ae {H' : Heap} {A n : Nat} {cs : List Value} (h : Var H A n cs) (hk : ∀ B, B < H.length → gY H' B = gY H B) : Var H' A n cs := by
 obtain ⟨h1, ty, rw, lo, ver, h2, h3⟩ := h
 exact ⟨h1, ty, rw, lo, ver, by rw [hk A (iP h2), h2], h3⟩
theorem Var.ld {A n : Nat} {cs : List Value} (h : Var H A n cs) (s : Option Nat) (off : Nat) : nQ (some false) s H (ptr A off n) = cs[off]? := by
 obtain ⟨rfl, ty, rw, lo, ver, h1, h2⟩ := h
 simp only [nQ, iM, h1]
 by_cases h : off < cs.length
 ·rw [if_pos (by simp; omega)]
  simp only [cV]
  rw [dQ (by omega), dx]
  simp
 ·rw [if_neg (by simp; omega), dV (by omega)]
  rfl
theorem Var.ab {A n : Nat} {cs : List Value} (h : Var H A n cs) (m off : Nat) : nQ (some true) (some m) H (ptr A off n) = if off + m ≤ cs.length then some (.agg ((cs.drop off).take m).toArray) else none := by
 obtain ⟨rfl, ty, rw, lo, ver, h1, h2⟩ := h
 simp only [nQ, iM, h1, cV]
 by_cases h : off + m ≤ cs.length
 ·rw [if_pos (by simp; omega), if_pos h]
  rfl
 ·rw [if_neg (by simp; omega), if_neg h]
  rfl
theorem St.var {P : Program} {H0 : Base} {os : List Ob} (hS : St P H0 H os) (i : Nat) {A n : Nat} {cs : List Value} (ho : os[i]? = some ⟨ptr A 0 n, 0, cs⟩) : Var H A n cs := by
 obtain ⟨h1, ty, lo, ver, h2, h3⟩ := hS.cell i ho
 exact ⟨h1, ty, true, lo, ver, h2, h3⟩
theorem St.va {H0 : Heap} {os : List Ob} (hS : St P H0 H os) {A n : Nat} {cs : List Value} (h : Var H0 A n cs) : Var H A n cs := h.ae hS.ae
end
theorem rJ {P : Program} (t t2 : TypeId) (cx cy : Bool) (u x : UInt8) : kC P .add t t2 cx cy (.string ⟨#[u]⟩) (.string ⟨#[x]⟩) = some (.string ⟨#[u, x]⟩) := by
 rw [a4Q _ _ _ _ _ _ (by show 1 + 1 < 9223372036854775808; decide)]
 rfl
theorem tS {P : Program} {H : Heap} {s t : TypeId} {v : Value} {n : Int} (h : RdAt H v 1 [.int .u8 n]) (hs : kJ P s = true) (ht : nU P t = true) (hbt : kJ P t = false) (h0 : 0 ≤ n) (h1 : n < 256) (K : Value → Heap → Prop) :
 sG P s t H v K = K (.string ⟨#[UInt8.ofNat n.toNat]⟩) H := by
 obtain ⟨m, rfl⟩ : ∃ m : Nat, n = Int.ofNat m := ⟨n.toNat, by simp [fz h0]⟩
 have hm : m < 256 := by have : (m : Int) < 256 := h1; omega
 rcases h with ⟨_, h⟩ | ⟨A, i, e, row, ty, rw, lo, ver, k, g1, g2, g3, g4, g5, g6, rfl⟩
 ·cases h
 have hk : k = 1 := by simp at g6; omega
 subst hk
 have hc : iM H A i e 1 = some [.int .u8 (Int.ofNat m)] := by
  simp only [iM, g1]
  rw [if_pos (by simp at g4 ⊢; omega)]
  exact congrArg some g5
 have hb : mG [.int .u8 (Int.ofNat m)] = some ⟨#[UInt8.ofNat m]⟩ := by simp [mG, a0Z, a0p, hm]
 have hd : opD P ⟨none, .convert s t (.const (.slice (some ⟨A, i, some e⟩) 1 1)), t, "", #[], none⟩ [] H = some (.string ⟨#[UInt8.ofNat m]⟩, H) := by
  have hf : flat (.slice (some ⟨A, i, some e⟩) 1 1) = false := rfl
  simp only [opD, ev, hf, hs, ht, hc, hb, fw, dO, if_false, Bool.and_self, if_true, cV, dK]
 unfold sG
 rw [hd]
 apply propext
 constructor
 ·rintro ⟨v, H1, h2, h3⟩
  injection (cU h2) with e1 e2
  subst e1 e2
  exact h3
 ·intro h3
  exact ⟨_, _, rfl, h3⟩
theorem b7E {P : Program} {t : TypeId} {n : Nat} {elem : TypeId} {size : Nat} (ha : P.underlying t = some (.array n elem)) (hs : gM P elem = some size) (A i e : Nat) (k : IntKind) (j : Int) (h0 : 0 ≤ j) (h1 : j < n) :
 a2j (iI P t) P t (ptr A i e) (.int k j) = some (ptr A (i + j.toNat * size) e) := by
 have hn : iI P t = none := by simp [iI, gQ, ha]
 rw [hn]
 simp only [a2j, a1Q, ha, ptr, hs, cV]
 rw [if_pos (by simp [h0, h1])]
end
end Go.Ds
namespace Go.Ds
section
variable {P : Program}
def b8M (inv : List Nat) (e : Edge) : Edge := { e with on := inv.getD e.on 0 }
def xC (inv : List Nat) (o : Oper) : Oper := { o with after := o.after.map (b8M inv), guard := o.guard.map fun g => (inv.getD g.1 0, g.2) }
def jI (π inv : List Nat) (ops : Array Oper) : Array Oper := (π.map fun i => xC inv (ops.getD i default)).toArray
def a7K (π inv : List Nat) (ops : Array Oper) : Bool :=
 decide (π.length = ops.size) && decide (inv.length = ops.size) && (List.range ops.size).all (fun i => decide (π.getD i 0 < ops.size) && decide (inv.getD i 0 < ops.size) && decide (inv.getD (π.getD i 0) 0 = i) && decide (π.getD (inv.getD i 0) 0 = i)) &&
 ops.toList.all fun o => o.after.toList.all (fun e => decide (e.on < ops.size)) && (match o.guard with | some g => decide (g.1 < ops.size) | none => true)
structure Perm (π inv : List Nat) (ops : Array Oper) : Prop where
 len : π.length = ops.size
 pi : ∀ i, i < ops.size → π.getD i 0 < ops.size
 iv : ∀ i, i < ops.size → inv.getD i 0 < ops.size
 ip : ∀ i, i < ops.size → inv.getD (π.getD i 0) 0 = i
 pv : ∀ i, i < ops.size → π.getD (inv.getD i 0) 0 = i
 edge : ∀ (i : Nat) (o : Oper), ops[i]? = some o → ∀ e ∈ o.after, e.on < ops.size
 guard : ∀ (i : Nat) (o : Oper) (g : Nat × Bool), ops[i]? = some o → o.guard = some g → g.1 < ops.size
theorem b6D {π inv : List Nat} {ops : Array Oper} (h : a7K π inv ops = true) : Perm π inv ops := by
 unfold a7K at h
 simp only [cW, decide_eq_true_eq, dm, dF] at h
 obtain ⟨⟨⟨h1, h2⟩, h3⟩, h4⟩ := h
 refine ⟨h1, fun i hi => (h3 i hi).1.1.1, fun i hi => (h3 i hi).1.1.2, fun i hi => (h3 i hi).1.2, fun i hi => (h3 i hi).2, fun i o ho e he => ?_, fun i o g ho hg => ?_⟩
 ·exact (h4 o (dP (i := i) (by simpa using ho))).1 e (by simpa using he)
 ·have := (h4 o (dP (i := i) (by simpa using ho))).2
  rw [hg] at this
  simpa using this
variable {π inv : List Nat} {ops : Array Oper}
theorem a5d (p : Nat) : (jI π inv ops)[p]? = (π[p]?).map fun i => xC inv (ops.getD i default) := by
 simp [jI]
theorem pI (D : Perm π inv ops) {p i : Nat} {o : Oper} (hp : p < ops.size) (hi : π.getD p 0 = i) (ho : ops[i]? = some o) : (jI π inv ops)[p]? = some (xC inv o) := by
 rw [a5d]
 have h1 : π[p]? = some i := by
  rw [cZ] at hi
  rw [dp (by rw [D.len]; exact hp)] at hi ⊢
  simpa using hi
 rw [h1]
 simp only [dK]
 rw [dT, ho]
 rfl
theorem oX (D : Perm π inv ops) : (jI π inv ops).size = ops.size := by simp [jI, D.len]
theorem a4k (D : Perm π inv ops) (tmps : Array Value) {j : Nat} (hj : j < ops.size) : yielded (jI π inv ops) tmps (inv.getD j 0) = yielded ops tmps j := by
 have ho : ops[j]? = some ops[j] := da.2 ⟨hj, rfl⟩
 unfold yielded
 rw [pI D (D.iv j hj) (D.pv j hj) ho, ho]
 rfl
theorem a4F (D : Perm π inv ops) (tmps : Array Value) {i : Nat} {o : Oper} (ho : ops[i]? = some o) : Region.wanted (xC inv o) (yielded (jI π inv ops) tmps) = Region.wanted o (yielded ops tmps) := by
 unfold Region.wanted
 have e : (xC inv o).guard = o.guard.map fun g => (inv.getD g.1 0, g.2) := rfl
 rw [e]
 cases hg : o.guard with
 | none => rfl
 | some g =>
   simp only [dK]
   rw [a4k D tmps (D.guard i o g ho hg)]
theorem b7t (ro : Option Nat) (ρ : Operand → Value) (o : Oper) : (xC inv o).semAt ro ρ = o.semAt ro ρ := by
 obtain ⟨dst, op, type, pos, after, guard⟩ := o
 rfl
theorem b0v (w : World) (ρ : Operand → Value) (o : Oper) : (xC inv o).about P w ρ = o.about P w ρ := by
 obtain ⟨dst, op, type, pos, after, guard⟩ := o
 rfl
theorem b2A (F : Fence) (n : Nat) (o : Oper) (a : Act) (next : Act → World → Prop) (Q : Exit → Act → World → Prop) (r : Result Next) : (xC inv o).uponIn F n P a next Q r = o.uponIn F n P a next Q r := by
 obtain ⟨dst, op, type, pos, after, guard⟩ := o
 cases r with
 | ok x w => cases x <;> rfl
 | halt x w => cases x <;> rfl
theorem b1s (D : Perm π inv ops) (F : Fence) (n : Nat) (Q : Exit → Act → World → Prop) {i : Nat} (hi : i < ops.size) (K : Act → World → Prop) (a : Act) (w : World) :
 wpOpIn F n P (jI π inv ops) Q (inv.getD i 0) K a w = wpOpIn F n P ops Q i K a w := by
 have ho : ops[i]? = some ops[i] := da.2 ⟨hi, rfl⟩
 unfold wpOpIn
 rw [pI D (D.iv i hi) (D.pv i hi) ho, ho]
 simp only [a4F D a.tmps ho, Oper.wpIn, b0v, b2A, b7t]
 rfl
def c0l (inv : List Nat) (n : Nat) (listed listed' : Array Bool) : Prop := listed.size = n ∧ listed'.size = n ∧ ∀ i, i < n → listed.getD i false = listed'.getD (inv.getD i 0) false
theorem uW (D : Perm π inv ops) {listed listed' : Array Bool} (hc : c0l inv ops.size listed listed') {i : Nat} (hi : i < ops.size) :
 i ∈ Region.ready .any ops listed ↔ inv.getD i 0 ∈ Region.ready .any (jI π inv ops) listed' := by
 have ho : ops[i]? = some ops[i] := da.2 ⟨hi, rfl⟩
 have ho' := pI D (D.iv i hi) (D.pv i hi) ho
 have hsz := oX D
 obtain ⟨c1, c2, c3⟩ := hc
 constructor
 ·intro h
  obtain ⟨o, h1, h2, h3⟩ := nW c1 h
  rw [ho] at h1
  obtain rfl := cU h1
  refine yY (by rw [hsz]; exact c2) ho' (by rw [← c3 i hi]; exact h2) ?_
  intro e he hb
  have he' : e ∈ (ops[i]).after.map (b8M inv) := he
  obtain ⟨e0, he0, rfl⟩ := Array.mem_map.1 he'
  have := h3 e0 he0 hb
  show listed'.getD (inv.getD e0.on 0) false = true
  rw [← c3 _ (D.edge i _ ho e0 he0)]
  exact this
 ·intro h
  obtain ⟨o, h1, h2, h3⟩ := nW (by rw [hsz]; exact c2) h
  rw [ho'] at h1
  obtain rfl := cU h1
  refine yY c1 ho (by rw [c3 i hi]; exact h2) ?_
  intro e he hb
  have := h3 (b8M inv e) (Array.mem_map.2 ⟨e, he, rfl⟩) hb
  rw [c3 _ (D.edge i _ ho e he)]
  exact this
theorem b4c (D : Perm π inv ops) (F : Fence) (k : Nat) {Q : Exit → Act → World → Prop} : ∀ (fuel : Nat) (listed listed' : Array Bool) (a : Act) (w : World), c0l inv ops.size listed listed' →
 wpAnyIn F k P .any (jI π inv ops) Q fuel listed' a w → wpAnyIn F k P .any ops Q fuel listed a w := by
 have hsz := oX D
 have nil1 : ∀ {listed listed' : Array Bool}, c0l inv ops.size listed listed' → (Region.ready .any ops listed = [] ↔ Region.ready .any (jI π inv ops) listed' = []) := by
  intro listed listed' hc
  constructor
  ·intro h
   cases hr : Region.ready .any (jI π inv ops) listed' with
   | nil => rfl
   | cons p r =>
     exfalso
     have hp : p ∈ Region.ready .any (jI π inv ops) listed' := by rw [hr]; exact dZ ..
     obtain ⟨o, h1, _, _⟩ := nW (by rw [hsz]; exact hc.2.1) hp
     have hpn : p < ops.size := by rw [← hsz]; exact (da.1 h1).1
     have := (uW D hc (D.pi p hpn)).2 (by rw [D.ip p hpn]; exact hp)
     rw [h] at this
     cases this
  ·intro h
   cases hr : Region.ready .any ops listed with
   | nil => rfl
   | cons i r =>
     exfalso
     have hi : i ∈ Region.ready .any ops listed := by rw [hr]; exact dZ ..
     obtain ⟨o, h1, _, _⟩ := nW hc.1 hi
     have := (uW D hc (da.1 h1).1).1 hi
     rw [h] at this
     cases this
 intro fuel
 induction fuel with
 | zero =>
   intro listed listed' a w hc h
   exact ⟨(nil1 hc).2 h.1, h.2⟩
 | succ fuel ih =>
   intro listed listed' a w hc h
   refine ⟨fun hn => h.1 ((nil1 hc).1 hn), fun i hi => ?_⟩
   obtain ⟨o, h1, _, _⟩ := nW hc.1 hi
   have hin := (da.1 h1).1
   have h2 := h.2 _ ((uW D hc hin).1 hi)
   rw [b1s D F k Q hin] at h2
   refine wpOpIn_mono (fun a' w' h3 => ih _ _ a' w' ⟨by simpa using hc.1, by simpa using hc.2.1, fun j hj => ?_⟩ h3) h2
   have e1 := rT (listed := listed) (i := i) (by rw [hc.1]; exact hin) j
   have e2 := rT (listed := listed') (i := inv.getD i 0) (by rw [hc.2.1]; exact D.iv i hin) (inv.getD j 0)
   have e3 : (inv.getD j 0 = inv.getD i 0) ↔ j = i := ⟨fun h => by rw [← D.pv j hj, h, D.pv i hin], fun h => by rw [h]⟩
   rw [ec, e1, e2, e3, hc.2.2 j hj]
end
section
variable {P : Program} {H : Heap} {π inv : List Nat} {ops : Array Oper}
theorem Sim.cD (iZ : P.follows .mixedOrders = true) {id : Nat} (Dp : Perm π inv ops) {fl : Fl} (D : Draw P fl (jI π inv ops)) {T : Nat → List Value × Heap} {val : Nat → Value} (X : Text P (jI π inv ops) T val)
 (hread : ∀ i m o, (i, m) ∈ lR fl (jI π inv ops) → (jI π inv ops)[i]? = some o → Region.wanted o (iD (jI π inv ops) (T i).1) = true → ∃ H2, opD P o (T i).1 (T m).2 = some (val i, H2)) :
 Sim P (.region id ops true) (T 0).1 (T 0).2 .normal (T ops.size).1 (T ops.size).2 := by
 intro ro k B ρ w a hr hE hl hM hB
 have hsz := oX Dp
 have := a2N D X hread ro k B hr hE hM
 rw [hsz] at this
 exact wpIn_region_any iZ (b4c Dp (fe ro) k ops.size _ _ a _ ⟨by simp, by simp, fun i hi => by
  have := Dp.iv i hi
  simp only [dT, Array.getElem?_replicate, hi, this, if_true]⟩ this)
theorem a1V (D : Perm π inv ops) (l : List Value) {j : Nat} (hj : j < ops.size) : iD (jI π inv ops) l (inv.getD j 0) = iD ops l j := by
 have ho : ops[j]? = some ops[j] := da.2 ⟨hj, rfl⟩
 unfold iD
 rw [pI D (D.iv j hj) (D.pv j hj) ho, ho]
 rfl
theorem xF (D : Perm π inv ops) (l : List Value) {i : Nat} {o : Oper} (ho : ops[i]? = some o) : Region.wanted (xC inv o) (iD (jI π inv ops) l) = Region.wanted o (iD ops l) := by
 unfold Region.wanted
 have e : (xC inv o).guard = o.guard.map fun g => (inv.getD g.1 0, g.2) := rfl
 rw [e]
 cases hg : o.guard with
 | none => rfl
 | some g =>
   simp only [dK]
   rw [a1V D l (D.guard i o g ho hg)]
theorem a9x (o : Oper) (l : List Value) (K : Value → Heap → Prop) : lP P (xC inv o) l H K = lP P o l H K := by
 obtain ⟨dst, op, type, pos, after, guard⟩ := o
 rfl
theorem a2t (D : Perm π inv ops) : ∀ (os : List Oper) (tr : List (List Value × Heap × Value)) (l : List Value) (H : Heap) (K : List (List Value × Heap × Value) → List Value → Heap → Prop), (∀ o ∈ os, ∃ i : Nat, ops[i]? = some o) →
 lS P (jI π inv ops) (os.map (xC inv)) tr l H K = lS P ops os tr l H K
 | [], _, _, _, _, _ => rfl
 | o :: os, tr, l, H, K, h => by
   obtain ⟨i, ho⟩ := h o (by simp)
   have ih := fun tr l H => a2t D os tr l H K fun o ho => h o (by simp [ho])
   rw [dR, lS, lS, xF D l ho]
   have e : (xC inv o).dst = o.dst := rfl
   simp only [a9x, e, ih]
def b8N (o : Option Oper) (os : List Oper) : List Oper := match o with | some o => o :: os | none => os
def sel (os : List Oper) : List Nat → List Oper
 | [] => []
 | i :: π => b8N os[i]? (sel os π)
theorem b5Y (os : List Oper) : sel os [] = [] := rfl
theorem a4X (os : List Oper) (i : Nat) (π : List Nat) : sel os (i :: π) = b8N os[i]? (sel os π) := rfl
theorem a2z (o : Oper) (os : List Oper) : b8N (some o) os = o :: os := rfl
theorem a6O (os : List Oper) : ∀ (π : List Nat), (∀ i ∈ π, i < os.length) → sel os π = π.map fun i => os.toArray.getD i default
 | [], _ => rfl
 | i :: π, h => by
   have hi := h i (by simp)
   rw [a4X, a6O os π fun j hj => h j (by simp [hj]), dp hi, a2z, dR]
   congr 1
   simp [dT, hi]
def yQ (P : Program) (os : List Oper) (tr : List (List Value × Heap × Value)) (H1 : Heap) (π : List Nat) : List (Nat × Nat) → Prop
 | [] => True
 | (p, m) :: r => rdW P os.toArray (os[π.getD p 0]?) tr[p]? (trH tr[m]? H1) ∧ yQ P os tr H1 π r
theorem a8F (os : List Oper) (tr) (H1 : Heap) (π : List Nat) : yQ P os tr H1 π [] = True := rfl
theorem a4P (os : List Oper) (tr) (H1 : Heap) (π : List Nat) (p m : Nat) (r : List (Nat × Nat)) : yQ P os tr H1 π ((p, m) :: r) = (rdW P os.toArray (os[π.getD p 0]?) tr[p]? (trH tr[m]? H1) ∧ yQ P os tr H1 π r) := rfl
theorem a1J {os : List Oper} {tr} {H1 : Heap} {π : List Nat} : ∀ {tab : List (Nat × Nat)}, yQ P os tr H1 π tab → ∀ x ∈ tab, rdW P os.toArray (os[π.getD x.1 0]?) tr[x.1]? (trH tr[x.2]? H1)
 | [], _, x, hx => by cases hx
 | (i, m) :: r, h, x, hx => by
   rcases eo.1 hx with rfl | hx
   ·exact h.1
   ·exact a1J h.2 x hx
theorem Wp.cE (iZ : P.follows .mixedOrders = true) {id : Nat} {os : List Oper} {l : List Value} {Q : mP} (π inv : List Nat) (fl : Fl) (tab : List (Nat × Nat)) (hp : a7K π inv os.toArray = true)
 (htab : a1v P fl (jI π inv os.toArray) = some tab) (hn : sT (jI π inv os.toArray) tab = true)
 (h : lS P os.toArray (sel os π) [] l H fun tr l1 H1 => Q .normal l1 H1 ∧ yQ P os tr H1 π tab) : Wp P (.region id os.toArray true) l H Q := by
 have Dp := b6D hp
 obtain ⟨D, htb⟩ := a1X htab
 have hsz := oX Dp
 have hmem : ∀ i ∈ π, i < os.length := fun i hi => by
  obtain ⟨p, hpl, hpe⟩ := dI.1 hi
  have := Dp.pi p (by rw [← Dp.len]; exact hpl)
  rw [cZ, dp hpl, eX, hpe] at this
  simpa using this
 have hsel : (sel os π).map (xC inv) = (jI π inv os.toArray).toList := by
  rw [a6O os π hmem]
  simp [jI]
 rw [← a2t Dp (sel os π) [] l H _ (fun o ho => by
  rw [a6O os π hmem, dA] at ho
  obtain ⟨i, hi, rfl⟩ := ho
  have := hmem i hi
  exact ⟨i, by simp [dT, this]⟩), hsel] at h
 obtain ⟨T, val, l', H', ext, h0, h1, h2, h3, h4, h5, h6⟩ := sX (jI π inv os.toArray).toList 0 rfl [] l H h
 have hlen : (jI π inv os.toArray).toList.length = os.toArray.size := by rw [fh, hsz]
 rw [hlen] at h1 h2 h3 h4
 have := Sim.cD iZ (id := id) Dp D (T := T) (val := val) ⟨fun k hk => by rw [hsz] at hk; simpa using h4 k hk⟩ fun i m o hm ho hw => by
  rw [← htb] at hm
  have hr := a1J h6 (i, m) hm
  have hi : i < os.toArray.size := by rw [← hsz]; exact (da.1 ho).1
  have hpi := Dp.pi i hi
  have hoo : os.toArray[π.getD i 0]? = some (os.toArray[π.getD i 0]) := da.2 ⟨hpi, rfl⟩
  have hat := pI (inv := inv) Dp hi rfl hoo
  rw [ho] at hat
  have hat := cU hat
  have hoo' : os[π.getD i 0]? = some (os.toArray[π.getD i 0]) := by rw [← hoo]; simp
  simp only [fH] at hr
  rw [hoo', h3 i hi] at hr
  unfold rdW at hr
  rw [hat, xF Dp _ hoo] at hw
  have hr := hr hw
  have hno : wY o = true := by
   unfold sT at hn
   have := dm.1 hn (i, m) hm
   simpa [ho] using this
  have hTm : trH ext[m]? H' = (T m).2 ∨ os.toArray.size < m := by
   unfold trH
   by_cases hm2 : m < os.toArray.size
   ·left; rw [h3 m hm2]
   ·by_cases hm3 : m = os.toArray.size
    ·left
     rw [dV (by omega), hm3, h1]
    ·right; omega
  rcases hTm with hTm | hTm
  ·rw [hTm, ← a9x (inv := inv), ← hat] at hr
   obtain ⟨v, H2, h7, h8⟩ := a8T hno hr
   exact ⟨H2, by rw [h7, h8]⟩
  ·exfalso
   rw [htb] at hm
   have := a1p hm
   rw [hsz] at this
   omega
 rw [h0, h1] at this
 exact ⟨_, _, _, this, h5⟩
end
def RA :=
 And.intro @b6d <| And.intro @b4W <| And.intro @b7m <| And.intro @b8y <| And.intro @b8B <| And.intro @b2s <| And.intro @b6k <| And.intro @b9J <| And.intro @b6s <| And.intro @b5Z <| And.intro @b4r <| And.intro @a4E <| And.intro @b0g <| And.intro @b3p <| And.intro @b1n <| And.intro @a6H <| And.intro @a8l <| And.intro @a6u <| And.intro @b4P <| And.intro @a8o <| And.intro @b5d <| And.intro @b2m <| And.intro @b0f <| And.intro @b1u <| And.intro @b5A <| And.intro @b0P <| And.intro @a1m <| And.intro @a1S <| And.intro @a7d <| And.intro @b4Z <| And.intro @a9Z <| And.intro @b6K <| And.intro @a1P <| And.intro @a2m <| And.intro @b4E <| And.intro @b9V <| And.intro @a5M <| And.intro @a5b <| And.intro @b0F <| And.intro @b1X <| And.intro @a4o <| And.intro @a6E <| And.intro @a7G <| And.intro @a7T <| And.intro @a7Y <| And.intro @a5m <| And.intro @a2g <| And.intro @a9S <| And.intro @b5C <| And.intro @b6O <| And.intro @b3m <| And.intro @a6N <| And.intro @b1z <| And.intro @b0E <| And.intro @a6I <| And.intro @a8E <| And.intro @a4K <| And.intro @a5y <| And.intro @b4q <| And.intro @b0a <| And.intro @a2l <| And.intro @a7z <| And.intro @a4w <| And.intro @a2o <| And.intro @a6y <| And.intro @a8d <| And.intro @a5P <| @b4X
def RB :=
 And.intro @b6m <| And.intro @a7C <| And.intro @a8L <| And.intro @b0R <| And.intro @a7B <| And.intro @a5C <| And.intro @a6x <| And.intro @b3b <| And.intro @a4T <| And.intro @a5K <| And.intro @b7y <| And.intro @b0t <| And.intro @a7w <| And.intro @b6A <| And.intro @b7r <| And.intro @b6h <| And.intro @b7s <| And.intro @a6U <| And.intro @a5B <| And.intro @b6y <| And.intro @b9s <| And.intro @b3P <| And.intro @b4R <| And.intro @a8r <| And.intro @b6F <| And.intro @b7q <| And.intro @b4G <| And.intro @b1q <| And.intro @b0W <| And.intro @b0e <| And.intro @b0K <| And.intro @b1b <| And.intro @b1r <| And.intro @b0Q <| And.intro @a9O <| And.intro @b1l <| And.intro @b1P <| And.intro @b0N <| And.intro @b1A <| And.intro @b2x <| And.intro @a9X <| And.intro @a4t <| And.intro @b1j <| And.intro @b0j <| And.intro @a9Y <| And.intro @b1d <| And.intro @b0U <| And.intro @b2g <| And.intro @b2f <| And.intro @b4n <| And.intro @b5V <| And.intro @b2n <| And.intro @a5l <| And.intro @a8w <| And.intro @a6L <| And.intro @b5x <| And.intro @b2B <| And.intro @a5F <| And.intro @b2i <| And.intro @b4V <| And.intro @b1G <| And.intro @a7N <| And.intro @b3u <| And.intro @b1t <| And.intro @a7m <| And.intro @b1x <| And.intro @b3K <| And.intro @a8j <| And.intro @b1i <| And.intro @b0B <| And.intro @a8k <| And.intro @b1J <| And.intro @a7Q <| And.intro @b5Y <| And.intro @a4X <| And.intro @a2z <| And.intro @a8F <| And.intro @a4P <| And.intro @b5o <| And.intro @b2w <| And.intro @b1c <| And.intro @b4o <| And.intro @b3l <| And.intro @a9M <| And.intro @b3R <| And.intro @b0d <| And.intro @a3J <| And.intro @a6G <| And.intro @a6k <| And.intro @a7e <| And.intro @a7J <| And.intro @b4w <| And.intro @b2y <| And.intro @b1N <| And.intro @b2X <| And.intro @a6p <| And.intro @a3D <| And.intro @a4D <| And.intro @a5a <| And.intro @a5V <| And.intro @c2i <| And.intro @c1j <| And.intro @b7F <| And.intro @b5s <| And.intro @b3L <| And.intro @b4k <| And.intro @b3Y <| And.intro @a8s <| And.intro @b6c <| And.intro @b2j <| And.intro @b5v <| And.intro @qW <| And.intro @b4i <| And.intro @b2t <| @b6i
theorem RT :
 (∀ {α : Type} (l : List α), [] ++ l = l) ∧
 (∀ {α : Type} (l : List α), l ++ [] = l) ∧
 (∀ {α : Type} {a : α} {l m : List α}, a :: l ++ m = a :: (l ++ m)) ∧
 (∀ (cs : List Value) (i : Nat) (v : Value) (vs : List Value), iG cs i (v :: vs) = iG (cs.set i v) (i + 1) vs) ∧
 (∀ (cs : List Value) (i : Nat), iG cs i [] = cs) ∧
 (∀ {α : Type} {x : α} {xs : List α} {a : α}, (x :: xs).set 0 a = a :: xs) ∧
 (∀ {α : Type} {x : α} {xs : List α} {i : Nat} {a : α}, (x :: xs).set (i + 1) a = x :: xs.set i a) ∧
 (∀ (n : Nat), 0 + n = n) ∧
 (∀ (n : Nat), n * 1 = n) ∧
 (∀ (n : Nat), n + 0 = n) :=
 ⟨@List.nil_append, @List.append_nil, @List.cons_append, @lB, @pY, @List.set_cons_zero, @List.set_cons_succ, @Nat.zero_add, @Nat.mul_one, @Nat.add_zero⟩
end Go.Ds
namespace Go.Ds
open Go.Proofs Go.Proofs.Tryz
abbrev I (n : Int) : Value := .int .i64 n
theorem sR (H : Heap) : St prog H H [] := .refl ..
theorem iZ : prog.follows .mixedOrders = true := by kernel_rfl
theorem tS3 : gM prog 3 = some 1 := by kernel_rfl
theorem tS9 : gM prog 9 = some 1 := by kernel_rfl
theorem pU : gM prog 23 = some 2 := by kernel_rfl
theorem c1n : gM prog 24 = some 1 := by kernel_rfl
theorem b7l : gM prog 34 = some 3 := by kernel_rfl
theorem c1b : gM prog 36 = some 1 := by kernel_rfl
theorem c2q : gM prog 37 = some 1 := by kernel_rfl
theorem b7a : gM prog 38 = some 1 := by kernel_rfl
theorem lD : gM prog 40 = some 4 := by kernel_rfl
theorem yT : gM prog 52 = some 2 := by kernel_rfl
theorem a0d : gM prog 54 = some 1 := by kernel_rfl
theorem oT : gM prog 56 = some 2 := by kernel_rfl
theorem a6R : gM prog 58 = some 2 := by kernel_rfl
theorem c2h : gM prog 59 = some 1 := by kernel_rfl
theorem a1Y : gM prog 61 = some 5 := by kernel_rfl
theorem yD : gM prog 68 = some 2 := by kernel_rfl
theorem a1N : gM prog 69 = some 1 := by kernel_rfl
theorem pV : gM prog 71 = some 4 := by kernel_rfl
theorem a8h : gM prog 74 = some 3 := by kernel_rfl
theorem b9z : gM prog 87 = some 5 := by kernel_rfl
theorem b6B : gM prog 88 = some 1 := by kernel_rfl
theorem iK : gM prog 90 = some 3 := by kernel_rfl
theorem b5g : gM prog 92 = some 1 := by kernel_rfl
theorem kE : gM prog 101 = some 3 := by kernel_rfl
theorem b2a : gM prog 107 = some 1 := by kernel_rfl
theorem a9u : gM prog 114 = some 1 := by kernel_rfl
theorem a9b : gM prog 162 = some 4 := by kernel_rfl
theorem uK : gM prog 164 = some 6 := by kernel_rfl
theorem b2N : gM prog 168 = some 9 := by kernel_rfl
theorem b4y : gM prog 172 = some 4 := by kernel_rfl
theorem a8Z : gM prog 174 = some 4 := by kernel_rfl
theorem uQ : gM prog 176 = some 5 := by kernel_rfl
theorem zG : gM prog 199 = some 2 := by kernel_rfl
theorem a5q : gM prog 212 = some 1 := by kernel_rfl
theorem a9t : gM prog 274 = some 3 := by kernel_rfl
theorem b2r : gM prog 347 = some 1 := by kernel_rfl
theorem mL : kJ prog 169 = true ∧ nU prog 9 = true ∧ kJ prog 9 = false := ⟨by kernel_rfl, by kernel_rfl, by kernel_rfl⟩
theorem c3i (A i e : Nat) (k : IntKind) (j : Int) (h0 : 0 ≤ j) (h1 : j < 5) : a2j (iI prog 87) prog 87 (ptr A i e) (.int k j) = some (ptr A (i + j.toNat * 1) e) := b7E (n := 5) (elem := 5) (size := 1) (by kernel_rfl) (by kernel_rfl) A i e k j h0 h1
theorem a5T : lX prog 24 = some (1, 8) := by kernel_rfl
theorem a6W : ((gQ prog 24).bind (iF prog)).any iL = true := by kernel_rfl
theorem c0j : lX prog 36 = some (6, 80) := by kernel_rfl
theorem c2x : ((gQ prog 36).bind (iF prog)).any iL = true := by kernel_rfl
theorem b8A : lX prog 37 = some (5, 64) := by kernel_rfl
theorem c2t : ((gQ prog 37).bind (iF prog)).any iL = true := by kernel_rfl
theorem a7P : lX prog 38 = some (5, 48) := by kernel_rfl
theorem b6Z : ((gQ prog 38).bind (iF prog)).any iL = true := by kernel_rfl
theorem b9v : lX prog 42 = some (2, 16) := by kernel_rfl
theorem c3u : ((gQ prog 42).bind (iF prog)).any iL = true := by kernel_rfl
theorem b8D : lX prog 59 = some (4, 56) := by kernel_rfl
theorem c1E : ((gQ prog 59).bind (iF prog)).any iL = true := by kernel_rfl
theorem uH : lX prog 69 = some (3, 40) := by kernel_rfl
theorem a2f : ((gQ prog 69).bind (iF prog)).any iL = true := by kernel_rfl
theorem a9U : lX prog 72 = some (2, 16) := by kernel_rfl
theorem a9Q : ((gQ prog 72).bind (iF prog)).any iL = true := by kernel_rfl
theorem zB : lX prog 88 = some (1, 8) := by kernel_rfl
theorem b6I : ((gQ prog 88).bind (iF prog)).any iL = true := by kernel_rfl
theorem xB : lX prog 92 = some (3, 24) := by kernel_rfl
theorem a7s : ((gQ prog 92).bind (iF prog)).any iL = true := by kernel_rfl
theorem zT : lX prog 114 = some (2, 16) := by kernel_rfl
theorem a9d : ((gQ prog 114).bind (iF prog)).any iL = true := by kernel_rfl
theorem a9C : lX prog 169 = some (1, 1) := by kernel_rfl
theorem a9a : ((gQ prog 169).bind (iF prog)).any iL = true := by kernel_rfl
theorem c2P : lX prog 185 = some (1, 16) := by kernel_rfl
theorem c0A : ((gQ prog 185).bind (iF prog)).any iL = true := by kernel_rfl
theorem b7W : lX prog 186 = some (2, 16) := by kernel_rfl
theorem c0S : ((gQ prog 186).bind (iF prog)).any iL = true := by kernel_rfl
theorem b8h : lX prog 212 = some (1, 24) := by kernel_rfl
theorem c2O : ((gQ prog 212).bind (iF prog)).any iL = true := by kernel_rfl
theorem c1V : lX prog 223 = some (3, 40) := by kernel_rfl
theorem c2s : ((gQ prog 223).bind (iF prog)).any iL = true := by kernel_rfl
theorem b7Y : lX prog 331 = some (2, 16) := by kernel_rfl
theorem b7L : ((gQ prog 331).bind (iF prog)).any iL = true := by kernel_rfl
theorem c1Z (t2 : TypeId) (cx cy : Bool) (a0 : Int) (a1 : Int) (b0 : Int) (b1 : Int) : kC prog .eql 23 t2 cx cy (.agg #[.int .i64 a0, .int .i64 a1]) (.agg #[.int .i64 b0, .int .i64 b1]) = some (.bool (decide (a0 = b0 ∧ a1 = b1))) ∧ kC prog .neq 23 t2 cx cy (.agg #[.int .i64 a0, .int .i64 a1]) (.agg #[.int .i64 b0, .int .i64 b1]) = some (.bool (decide (¬ (a0 = b0 ∧ a1 = b1)))) := by
 have h := tA (P := prog) (t := 23) (t2 := t2) (cx := cx) (cy := cy) (xs := [.int .i64 a0, .int .i64 a1]) (ys := [.int .i64 b0, .int .i64 b1]) (by kernel_rfl) (by kernel_rfl) (by kernel_rfl) (by kernel_rfl) rfl (by kernel_rfl) rfl rfl
 have e : ((List.range [Value.int .i64 a0, .int .i64 a1].length).all fun j => xK ([Value.int .i64 a0, .int .i64 a1].getD j undef) ([Value.int .i64 b0, .int .i64 b1].getD j undef)) = decide (a0 = b0 ∧ a1 = b1) := by
  show (xK (Value.int .i64 a0) (.int .i64 b0) && (xK (Value.int .i64 a1) (.int .i64 b1) && true)) = _
  rw [ec]
  simp [xK]
 rw [e] at h
 exact ⟨h.1, by rw [h.2]; simp⟩
theorem c2A (t2 : TypeId) (cx cy : Bool) (a0 : Int) (a1 : Int) (b0 : Int) (b1 : Int) : kC prog .eql 23 t2 cx cy (.agg #[.int .i64 a0, .int .i64 a1]) (.agg #[.int .i64 b0, .int .i64 b1]) = some (.bool (decide (a0 = b0 ∧ a1 = b1))) := (c1Z t2 cx cy a0 a1 b0 b1).1
theorem c1K (t2 : TypeId) (cx cy : Bool) (a0 : Int) (a1 : Int) (b0 : Int) (b1 : Int) : kC prog .neq 23 t2 cx cy (.agg #[.int .i64 a0, .int .i64 a1]) (.agg #[.int .i64 b0, .int .i64 b1]) = some (.bool (decide (¬ (a0 = b0 ∧ a1 = b1)))) := (c1Z t2 cx cy a0 a1 b0 b1).2
theorem c2C (t2 : TypeId) (cx cy : Bool) (a0 : Int) (a1 : Int) (b0 : Int) (b1 : Int) : kC prog .eql 52 t2 cx cy (.agg #[.int .i64 a0, .int .i64 a1]) (.agg #[.int .i64 b0, .int .i64 b1]) = some (.bool (decide (a0 = b0 ∧ a1 = b1))) ∧ kC prog .neq 52 t2 cx cy (.agg #[.int .i64 a0, .int .i64 a1]) (.agg #[.int .i64 b0, .int .i64 b1]) = some (.bool (decide (¬ (a0 = b0 ∧ a1 = b1)))) := by
 have h := tA (P := prog) (t := 52) (t2 := t2) (cx := cx) (cy := cy) (xs := [.int .i64 a0, .int .i64 a1]) (ys := [.int .i64 b0, .int .i64 b1]) (by kernel_rfl) (by kernel_rfl) (by kernel_rfl) (by kernel_rfl) rfl (by kernel_rfl) rfl rfl
 have e : ((List.range [Value.int .i64 a0, .int .i64 a1].length).all fun j => xK ([Value.int .i64 a0, .int .i64 a1].getD j undef) ([Value.int .i64 b0, .int .i64 b1].getD j undef)) = decide (a0 = b0 ∧ a1 = b1) := by
  show (xK (Value.int .i64 a0) (.int .i64 b0) && (xK (Value.int .i64 a1) (.int .i64 b1) && true)) = _
  rw [ec]
  simp [xK]
 rw [e] at h
 exact ⟨h.1, by rw [h.2]; simp⟩
theorem c2b (t2 : TypeId) (cx cy : Bool) (a0 : Int) (a1 : Int) (b0 : Int) (b1 : Int) : kC prog .eql 52 t2 cx cy (.agg #[.int .i64 a0, .int .i64 a1]) (.agg #[.int .i64 b0, .int .i64 b1]) = some (.bool (decide (a0 = b0 ∧ a1 = b1))) := (c2C t2 cx cy a0 a1 b0 b1).1
theorem c1L (t2 : TypeId) (cx cy : Bool) (a0 : Int) (a1 : Int) (b0 : Int) (b1 : Int) : kC prog .neq 52 t2 cx cy (.agg #[.int .i64 a0, .int .i64 a1]) (.agg #[.int .i64 b0, .int .i64 b1]) = some (.bool (decide (¬ (a0 = b0 ∧ a1 = b1)))) := (c2C t2 cx cy a0 a1 b0 b1).2
theorem c1J (t2 : TypeId) (cx cy : Bool) (a0 : Int) (a1 : Int) (b0 : Int) (b1 : Int) : kC prog .eql 56 t2 cx cy (.agg #[.int .u64 a0, .int .u64 a1]) (.agg #[.int .u64 b0, .int .u64 b1]) = some (.bool (decide (a0 = b0 ∧ a1 = b1))) ∧ kC prog .neq 56 t2 cx cy (.agg #[.int .u64 a0, .int .u64 a1]) (.agg #[.int .u64 b0, .int .u64 b1]) = some (.bool (decide (¬ (a0 = b0 ∧ a1 = b1)))) := by
 have h := tA (P := prog) (t := 56) (t2 := t2) (cx := cx) (cy := cy) (xs := [.int .u64 a0, .int .u64 a1]) (ys := [.int .u64 b0, .int .u64 b1]) (by kernel_rfl) (by kernel_rfl) (by kernel_rfl) (by kernel_rfl) rfl (by kernel_rfl) rfl rfl
 have e : ((List.range [Value.int .u64 a0, .int .u64 a1].length).all fun j => xK ([Value.int .u64 a0, .int .u64 a1].getD j undef) ([Value.int .u64 b0, .int .u64 b1].getD j undef)) = decide (a0 = b0 ∧ a1 = b1) := by
  show (xK (Value.int .u64 a0) (.int .u64 b0) && (xK (Value.int .u64 a1) (.int .u64 b1) && true)) = _
  rw [ec]
  simp [xK]
 rw [e] at h
 exact ⟨h.1, by rw [h.2]; simp⟩
theorem c1Q (t2 : TypeId) (cx cy : Bool) (a0 : Int) (a1 : Int) (b0 : Int) (b1 : Int) : kC prog .eql 56 t2 cx cy (.agg #[.int .u64 a0, .int .u64 a1]) (.agg #[.int .u64 b0, .int .u64 b1]) = some (.bool (decide (a0 = b0 ∧ a1 = b1))) := (c1J t2 cx cy a0 a1 b0 b1).1
theorem c1e (t2 : TypeId) (cx cy : Bool) (a0 : Int) (a1 : Int) (b0 : Int) (b1 : Int) : kC prog .neq 56 t2 cx cy (.agg #[.int .u64 a0, .int .u64 a1]) (.agg #[.int .u64 b0, .int .u64 b1]) = some (.bool (decide (¬ (a0 = b0 ∧ a1 = b1)))) := (c1J t2 cx cy a0 a1 b0 b1).2
theorem b7P (t2 : TypeId) (cx cy : Bool) (a0 : Int) (a1 : Int) (a2 : Int) (b0 : Int) (b1 : Int) (b2 : Int) : kC prog .eql 101 t2 cx cy (.agg #[.int .i64 a0, .int .i64 a1, .int .i64 a2]) (.agg #[.int .i64 b0, .int .i64 b1, .int .i64 b2]) = some (.bool (decide (a0 = b0 ∧ a1 = b1 ∧ a2 = b2))) ∧ kC prog .neq 101 t2 cx cy (.agg #[.int .i64 a0, .int .i64 a1, .int .i64 a2]) (.agg #[.int .i64 b0, .int .i64 b1, .int .i64 b2]) = some (.bool (decide (¬ (a0 = b0 ∧ a1 = b1 ∧ a2 = b2)))) := by
 have h := tA (P := prog) (t := 101) (t2 := t2) (cx := cx) (cy := cy) (xs := [.int .i64 a0, .int .i64 a1, .int .i64 a2]) (ys := [.int .i64 b0, .int .i64 b1, .int .i64 b2]) (by kernel_rfl) (by kernel_rfl) (by kernel_rfl) (by kernel_rfl) rfl (by kernel_rfl) rfl rfl
 have e : ((List.range [Value.int .i64 a0, .int .i64 a1, .int .i64 a2].length).all fun j => xK ([Value.int .i64 a0, .int .i64 a1, .int .i64 a2].getD j undef) ([Value.int .i64 b0, .int .i64 b1, .int .i64 b2].getD j undef)) = decide (a0 = b0 ∧ a1 = b1 ∧ a2 = b2) := by
  show (xK (Value.int .i64 a0) (.int .i64 b0) && (xK (Value.int .i64 a1) (.int .i64 b1) && (xK (Value.int .i64 a2) (.int .i64 b2) && true))) = _
  rw [ec]
  simp [xK]
 rw [e] at h
 exact ⟨h.1, by rw [h.2]; simp⟩
theorem b9H (t2 : TypeId) (cx cy : Bool) (a0 : Int) (a1 : Int) (a2 : Int) (b0 : Int) (b1 : Int) (b2 : Int) : kC prog .eql 101 t2 cx cy (.agg #[.int .i64 a0, .int .i64 a1, .int .i64 a2]) (.agg #[.int .i64 b0, .int .i64 b1, .int .i64 b2]) = some (.bool (decide (a0 = b0 ∧ a1 = b1 ∧ a2 = b2))) := (b7P t2 cx cy a0 a1 a2 b0 b1 b2).1
theorem b9Y (t2 : TypeId) (cx cy : Bool) (a0 : Int) (a1 : Int) (a2 : Int) (b0 : Int) (b1 : Int) (b2 : Int) : kC prog .neq 101 t2 cx cy (.agg #[.int .i64 a0, .int .i64 a1, .int .i64 a2]) (.agg #[.int .i64 b0, .int .i64 b1, .int .i64 b2]) = some (.bool (decide (¬ (a0 = b0 ∧ a1 = b1 ∧ a2 = b2)))) := (b7P t2 cx cy a0 a1 a2 b0 b1 b2).2
theorem b8r (t2 : TypeId) (cx cy : Bool) (a0 : Int) (a1 : Int) (b0 : Int) (b1 : Int) : kC prog .eql 199 t2 cx cy (.agg #[.int .i64 a0, .int .i64 a1]) (.agg #[.int .i64 b0, .int .i64 b1]) = some (.bool (decide (a0 = b0 ∧ a1 = b1))) ∧ kC prog .neq 199 t2 cx cy (.agg #[.int .i64 a0, .int .i64 a1]) (.agg #[.int .i64 b0, .int .i64 b1]) = some (.bool (decide (¬ (a0 = b0 ∧ a1 = b1)))) := by
 have h := tA (P := prog) (t := 199) (t2 := t2) (cx := cx) (cy := cy) (xs := [.int .i64 a0, .int .i64 a1]) (ys := [.int .i64 b0, .int .i64 b1]) (by kernel_rfl) (by kernel_rfl) (by kernel_rfl) (by kernel_rfl) rfl (by kernel_rfl) rfl rfl
 have e : ((List.range [Value.int .i64 a0, .int .i64 a1].length).all fun j => xK ([Value.int .i64 a0, .int .i64 a1].getD j undef) ([Value.int .i64 b0, .int .i64 b1].getD j undef)) = decide (a0 = b0 ∧ a1 = b1) := by
  show (xK (Value.int .i64 a0) (.int .i64 b0) && (xK (Value.int .i64 a1) (.int .i64 b1) && true)) = _
  rw [ec]
  simp [xK]
 rw [e] at h
 exact ⟨h.1, by rw [h.2]; simp⟩
theorem b9o (t2 : TypeId) (cx cy : Bool) (a0 : Int) (a1 : Int) (b0 : Int) (b1 : Int) : kC prog .eql 199 t2 cx cy (.agg #[.int .i64 a0, .int .i64 a1]) (.agg #[.int .i64 b0, .int .i64 b1]) = some (.bool (decide (a0 = b0 ∧ a1 = b1))) := (b8r t2 cx cy a0 a1 b0 b1).1
theorem b9f (t2 : TypeId) (cx cy : Bool) (a0 : Int) (a1 : Int) (b0 : Int) (b1 : Int) : kC prog .neq 199 t2 cx cy (.agg #[.int .i64 a0, .int .i64 a1]) (.agg #[.int .i64 b0, .int .i64 b1]) = some (.bool (decide (¬ (a0 = b0 ∧ a1 = b1)))) := (b8r t2 cx cy a0 a1 b0 b1).2
theorem a1f {a1 : Int} {a2 : Int} : jK prog 23 [(0, .int .i64 a1), (1, .int .i64 a2)] = some (.agg #[.int .i64 a1, .int .i64 a2]) := by kernel_rfl
theorem b9a {a1 : ByteArray} : jK prog 40 [(0, .string a1)] = some (.agg #[.string a1, .slice none 0 0, .slice none 0 0, .slice none 0 0]) := by kernel_rfl
theorem a3K {a1 : ByteArray} {a2 : Value} {a3 : Value} {a4 : Value} (h2 : a2.cells = #[a2] ∧ oneCell a2 = true ∧ nR a2 = true) (h3 : a3.cells = #[a3] ∧ oneCell a3 = true ∧ nR a3 = true) (h4 : a4.cells = #[a4] ∧ oneCell a4 = true ∧ nR a4 = true) : jK prog 40 [(0, .string a1), (1, a2), (2, a3), (3, a4)] = some (.agg #[.string a1, a2, a3, a4]) := by cases a2 <;> cases a3 <;> cases a4 <;> first | (exfalso; simp [oneCell] at h2; done) | (exfalso; simp [oneCell] at h3; done) | (exfalso; simp [oneCell] at h4; done) | kernel_rfl
theorem b7M : jK prog 52 [] = some (.agg #[.int .i64 0, .int .i64 0]) := by kernel_rfl
theorem b3f {a1 : Int} {a2 : Int} : jK prog 52 [(0, .int .i64 a1), (1, .int .i64 a2)] = some (.agg #[.int .i64 a1, .int .i64 a2]) := by kernel_rfl
theorem b4t {a1 : Int} {a2 : Int} : jK prog 56 [(0, .int .u64 a1), (1, .int .u64 a2)] = some (.agg #[.int .u64 a1, .int .u64 a2]) := by kernel_rfl
theorem a4G {a1 : Int} {a2 : Int} : jK prog 58 [(0, .int .i64 a1), (1, .int .i64 a2)] = some (.agg #[.int .i64 a1, .int .i64 a2]) := by kernel_rfl
theorem a7A {a1 : ByteArray} {a2 : Bool} {a3 : Int} {a4 : Int} : jK prog 61 [(0, .string a1), (1, .bool a2), (2, .agg #[.int .i64 a3, .int .i64 a4])] = some (.agg #[.string a1, .bool a2, .int .i64 a3, .int .i64 a4, .slice none 0 0]) := by kernel_rfl
theorem a7x {a1 : ByteArray} {a2 : Int} {a3 : Int} {a4 : Value} (h4 : a4.cells = #[a4] ∧ oneCell a4 = true ∧ nR a4 = true) : jK prog 61 [(0, .string a1), (2, .agg #[.int .i64 a2, .int .i64 a3]), (3, a4)] = some (.agg #[.string a1, .bool false, .int .i64 a2, .int .i64 a3, a4]) := by cases a4 <;> first | (exfalso; simp [oneCell] at h4; done) | kernel_rfl
theorem wU {a1 : Int} {a2 : Int} : jK prog 68 [(0, .int .i64 a1), (1, .int .i64 a2)] = some (.agg #[.int .i64 a1, .int .i64 a2]) := by kernel_rfl
theorem b2K {a1 : ByteArray} {a2 : Int} {a3 : Int} : jK prog 71 [(0, .string a1), (1, .agg #[.int .i64 a2, .int .i64 a3])] = some (.agg #[.string a1, .int .i64 a2, .int .i64 a3, .slice none 0 0]) := by kernel_rfl
theorem a6M {a1 : ByteArray} {a2 : Int} {a3 : Int} {a4 : Value} (h4 : a4.cells = #[a4] ∧ oneCell a4 = true ∧ nR a4 = true) : jK prog 71 [(0, .string a1), (1, .agg #[.int .i64 a2, .int .i64 a3]), (2, a4)] = some (.agg #[.string a1, .int .i64 a2, .int .i64 a3, a4]) := by cases a4 <;> first | (exfalso; simp [oneCell] at h4; done) | kernel_rfl
theorem c1w : jK prog 74 [] = some (.agg #[.int .i64 0, .int .i64 0, .slice none 0 0]) := by kernel_rfl
theorem lG {a1 : Int} {a2 : Int} {a3 : Value} (h3 : a3.cells = #[a3] ∧ oneCell a3 = true ∧ nR a3 = true) : jK prog 74 [(0, .int .i64 a1), (1, .int .i64 a2), (2, a3)] = some (.agg #[.int .i64 a1, .int .i64 a2, a3]) := by cases a3 <;> first | (exfalso; simp [oneCell] at h3; done) | kernel_rfl
theorem kA : jK prog 90 [] = some (.agg #[.slice none 0 0, .int .u64 0, .int .u64 0]) := by kernel_rfl
theorem b3N {a1 : Value} (h1 : a1.cells = #[a1] ∧ oneCell a1 = true ∧ nR a1 = true) : jK prog 90 [(0, a1)] = some (.agg #[a1, .int .u64 0, .int .u64 0]) := by cases a1 <;> first | (exfalso; simp [oneCell] at h1; done) | kernel_rfl
theorem b4B {a1 : Value} {a2 : Int} (h1 : a1.cells = #[a1] ∧ oneCell a1 = true ∧ nR a1 = true) : jK prog 90 [(0, a1), (1, .int .u64 a2)] = some (.agg #[a1, .int .u64 a2, .int .u64 0]) := by cases a1 <;> first | (exfalso; simp [oneCell] at h1; done) | kernel_rfl
theorem vF {a1 : Value} {a2 : Int} {a3 : Int} (h1 : a1.cells = #[a1] ∧ oneCell a1 = true ∧ nR a1 = true) : jK prog 90 [(0, a1), (1, .int .u64 a2), (2, .int .u64 a3)] = some (.agg #[a1, .int .u64 a2, .int .u64 a3]) := by cases a1 <;> first | (exfalso; simp [oneCell] at h1; done) | kernel_rfl
theorem b3J {a1 : Int} {a2 : Int} : jK prog 90 [(1, .int .u64 a1), (2, .int .u64 a2)] = some (.agg #[.slice none 0 0, .int .u64 a1, .int .u64 a2]) := by kernel_rfl
theorem a3j {a1 : Int} {a2 : Int} : jK prog 101 [(0, .int .i64 a1), (1, .int .i64 a2)] = some (.agg #[.int .i64 a1, .int .i64 a2, .int .i64 0]) := by kernel_rfl
theorem zO {a1 : Int} {a2 : Int} {a3 : Int} : jK prog 101 [(0, .int .i64 a1), (1, .int .i64 a2), (2, .int .i64 a3)] = some (.agg #[.int .i64 a1, .int .i64 a2, .int .i64 a3]) := by kernel_rfl
theorem yB {a1 : Int} {a2 : Int} : jK prog 101 [(0, .int .i64 a1), (2, .int .i64 a2)] = some (.agg #[.int .i64 a1, .int .i64 0, .int .i64 a2]) := by kernel_rfl
theorem a2i {a1 : ByteArray} {a2 : ByteArray} {a3 : Int} {a4 : Int} {a5 : Int} : jK prog 164 [(0, .string a1), (1, .string a2), (2, .agg #[.int .i64 a3, .int .i64 a4]), (3, .int .i64 a5)] = some (.agg #[.string a1, .string a2, .int .i64 a3, .int .i64 a4, .int .i64 a5, .slice none 0 0]) := by kernel_rfl
theorem a0f {a1 : ByteArray} {a2 : ByteArray} {a3 : Int} {a4 : Int} {a5 : Int} {a6 : Value} (h6 : a6.cells = #[a6] ∧ oneCell a6 = true ∧ nR a6 = true) : jK prog 164 [(0, .string a1), (1, .string a2), (2, .agg #[.int .i64 a3, .int .i64 a4]), (3, .int .i64 a5), (4, a6)] = some (.agg #[.string a1, .string a2, .int .i64 a3, .int .i64 a4, .int .i64 a5, a6]) := by cases a6 <;> first | (exfalso; simp [oneCell] at h6; done) | kernel_rfl
theorem a0h {a1 : ByteArray} {a2 : Int} {a3 : Int} {a4 : Int} {a5 : Bool} : jK prog 176 [(0, .string a1), (1, .int .i64 a2), (2, .int .i64 a3), (3, .int .i64 a4), (4, .bool a5)] = some (.agg #[.string a1, .int .i64 a2, .int .i64 a3, .int .i64 a4, .bool a5]) := by kernel_rfl
theorem b1R {a1 : ByteArray} {a2 : Int} : jK prog 176 [(0, .string a1), (3, .int .i64 a2)] = some (.agg #[.string a1, .int .i64 0, .int .i64 0, .int .i64 a2, .bool false]) := by kernel_rfl
theorem b9N : jK prog 199 [] = some (.agg #[.int .i64 0, .int .i64 0]) := by kernel_rfl
theorem qR {a1 : Int} {a2 : Int} : jK prog 199 [(0, .int .i64 a1), (1, .int .i64 a2)] = some (.agg #[.int .i64 a1, .int .i64 a2]) := by kernel_rfl
theorem b0T {a1 : Value} {a2 : Int} {a3 : Int} (h1 : a1.cells = #[a1] ∧ oneCell a1 = true ∧ nR a1 = true) : jK prog 274 [(0, a1), (1, .agg #[.int .i64 a2, .int .i64 a3])] = some (.agg #[a1, .int .i64 a2, .int .i64 a3]) := by cases a1 <;> first | (exfalso; simp [oneCell] at h1; done) | kernel_rfl
theorem c2S (l : List Value) (H : Heap) : gL prog Tryz.f10 l H = some (get l 6) := rfl
theorem a7I (l : List Value) (H : Heap) : gL prog Tryz.f19 l H = some (get l 2) := rfl
theorem c3G (l : List Value) (H : Heap) : gL prog Tryz.f20 l H = nQ (iV prog 40) (gM prog 40) H (get l 2) := by
 show (Option.bind (Option.bind (kQ prog H 40 (get l 2)) fun v => some [v]) fun vs => _) = _
 rw [jO]
 cases nQ _ _ H (get l 2) <;> rfl
theorem a2a (l : List Value) (H : Heap) : gL prog Tryz.f32 l H = some (get l 2) := rfl
theorem c3S (l : List Value) (H : Heap) : gL prog Tryz.f36 l H = some (get l 0) := rfl
theorem c3y (l : List Value) (H : Heap) : gL prog Tryz.f37 l H = nQ (iV prog 90) (gM prog 90) H (get l 4) := by
 show (Option.bind (Option.bind (kQ prog H 90 (get l 4)) fun v => some [v]) fun vs => _) = _
 rw [jO]
 cases nQ _ _ H (get l 4) <;> rfl
theorem c1N (l : List Value) (H : Heap) : gL prog Tryz.f38 l H = if (iT (get l 4) && (iT (get l 5) && true)) = true then some (.tuple #[get l 4, get l 5]) else none := rfl
theorem b8G (l : List Value) (H : Heap) : gL prog Tryz.f39 l H = some (get l 4) := rfl
theorem pG (l : List Value) (H : Heap) : gL prog Tryz.f42 l H = (nQ (iV prog 90) (gM prog 90) H (get l 6)).bind fun v => if (iT v && (iT (get l 7) && true)) = true then some (.tuple #[v, get l 7]) else none := by
 show (Option.bind (Option.bind (kQ prog H 90 (get l 6)) fun v => some [v, get l 7]) fun vs => _) = _
 rw [jO]
 cases nQ _ _ H (get l 6) <;> rfl
theorem c3z (l : List Value) (H : Heap) : gL prog Tryz.f43 l H = some (get l 4) := rfl
theorem c1y (l : List Value) (H : Heap) : gL prog Tryz.f44 l H = if (iT (get l 4) && (iT (get l 5) && true)) = true then some (.tuple #[get l 4, get l 5]) else none := rfl
theorem c2Z (l : List Value) (H : Heap) : gL prog Tryz.f46 l H = if (iT (get l 4) && (iT (get l 5) && true)) = true then some (.tuple #[get l 4, get l 5]) else none := rfl
theorem c3o (l : List Value) (H : Heap) : gL prog Tryz.f50 l H = some (get l 6) := rfl
theorem rM (l : List Value) (H : Heap) : gL prog Tryz.f55 l H = (nQ (iV prog 90) (gM prog 90) H (get l 6)).bind fun v => if (iT v && (iT (get l 7) && true)) = true then some (.tuple #[v, get l 7]) else none := by
 show (Option.bind (Option.bind (kQ prog H 90 (get l 6)) fun v => some [v, get l 7]) fun vs => _) = _
 rw [jO]
 cases nQ _ _ H (get l 6) <;> rfl
theorem c3J (l : List Value) (H : Heap) : gL prog Tryz.f56 l H = some (get l 4) := rfl
theorem b0c (l : List Value) (H : Heap) : gL prog Tryz.f60 l H = some (get l 4) := rfl
theorem c1B (l : List Value) (H : Heap) : gL prog Tryz.f66 l H = if (iT (get l 6) && (iT (get l 7) && true)) = true then some (.tuple #[get l 6, get l 7]) else none := rfl
theorem b9c (l : List Value) (H : Heap) : gL prog Tryz.f69 l H = some (get l 4) := rfl
theorem b9I (l : List Value) (H : Heap) : gL prog Tryz.f70 l H = some (get l 2) := rfl
theorem c0T (l : List Value) (H : Heap) : gL prog Tryz.f75 l H = some (get l 2) := rfl
theorem b9y (l : List Value) (H : Heap) : gL prog Tryz.f76 l H = some (get l 4) := rfl
theorem c3g (l : List Value) (H : Heap) : gL prog Tryz.f80 l H = nQ (iV prog 164) (gM prog 164) H (get l 4) := by
 show (Option.bind (Option.bind (kQ prog H 164 (get l 4)) fun v => some [v]) fun vs => _) = _
 rw [jO]
 cases nQ _ _ H (get l 4) <;> rfl
theorem a7E (l : List Value) (H : Heap) : gL prog Tryz.f81 l H = nQ (iV prog 71) (gM prog 71) H (get l 8) := by
 show (Option.bind (Option.bind (kQ prog H 71 (get l 8)) fun v => some [v]) fun vs => _) = _
 rw [jO]
 cases nQ _ _ H (get l 8) <;> rfl
theorem c3l (l : List Value) (H : Heap) : gL prog Tryz.f88 l H = some (get l 6) := rfl
theorem b0u (l : List Value) (H : Heap) : gL prog Tryz.f91 l H = some (get l 2) := rfl
theorem a7R (l : List Value) (H : Heap) : gL prog Tryz.f92 l H = some (get l 2) := rfl
theorem c2o (l : List Value) (H : Heap) : gL prog Tryz.f93 l H = some (get l 4) := rfl
theorem b2o (l : List Value) (H : Heap) : gL prog Tryz.f94 l H = some (get l 4) := rfl
theorem xM (l : List Value) (H : Heap) : gL prog Tryz.f95 l H = some (get l 4) := rfl
theorem c3U (l : List Value) (H : Heap) : gL prog Tryz.f98 l H = if (iT (get l 4) && (iT (get l 5) && true)) = true then some (.tuple #[get l 4, get l 5]) else none := rfl
theorem c3Q (l : List Value) (H : Heap) : gL prog Tryz.f99 l H = nQ (iV prog 40) (gM prog 40) H (get l 0) := by
 show (Option.bind (Option.bind (kQ prog H 40 (get l 0)) fun v => some [v]) fun vs => _) = _
 rw [jO]
 cases nQ _ _ H (get l 0) <;> rfl
theorem c1Y (l : List Value) (H : Heap) : gL prog Tryz.f100 l H = nQ (iV prog 56) (gM prog 56) H (get l 2) := by
 show (Option.bind (Option.bind (kQ prog H 56 (get l 2)) fun v => some [v]) fun vs => _) = _
 rw [jO]
 cases nQ _ _ H (get l 2) <;> rfl
theorem b8i (l : List Value) (H : Heap) : gL prog Tryz.f101 l H = some (get l 4) := rfl
theorem c1C (l : List Value) (H : Heap) : gL prog Tryz.f102 l H = some (get l 4) := rfl
theorem c2m (l : List Value) (H : Heap) : gL prog Tryz.f103 l H = some (get l 2) := rfl
theorem b3F (l : List Value) (H : Heap) : gL prog Tryz.f104 l H = nQ (iV prog 90) (gM prog 90) H (get l 4) := by
 show (Option.bind (Option.bind (kQ prog H 90 (get l 4)) fun v => some [v]) fun vs => _) = _
 rw [jO]
 cases nQ _ _ H (get l 4) <;> rfl
theorem c1z (l : List Value) (H : Heap) : gL prog Tryz.f105 l H = some (get l 2) := rfl
theorem c1M (l : List Value) (H : Heap) : gL prog Tryz.f106 l H = some (get l 4) := rfl
theorem c1X (l : List Value) (H : Heap) : gL prog Tryz.f107 l H = (nQ (iV prog 56) (gM prog 56) H (get l 2)).bind fun v => if (iT v && (iT (get l 3) && true)) = true then some (.tuple #[v, get l 3]) else none := by
 show (Option.bind (Option.bind (kQ prog H 56 (get l 2)) fun v => some [v, get l 3]) fun vs => _) = _
 rw [jO]
 cases nQ _ _ H (get l 2) <;> rfl
theorem c2z (l : List Value) (H : Heap) : gL prog Tryz.f108 l H = nQ (iV prog 56) (gM prog 56) H (get l 4) := by
 show (Option.bind (Option.bind (kQ prog H 56 (get l 4)) fun v => some [v]) fun vs => _) = _
 rw [jO]
 cases nQ _ _ H (get l 4) <;> rfl
theorem b8b (l : List Value) (H : Heap) : gL prog Tryz.f109 l H = nQ (iV prog 56) (gM prog 56) H (get l 4) := by
 show (Option.bind (Option.bind (kQ prog H 56 (get l 4)) fun v => some [v]) fun vs => _) = _
 rw [jO]
 cases nQ _ _ H (get l 4) <;> rfl
theorem c0V (l : List Value) (H : Heap) : gL prog Tryz.f114 l H = some (get l 4) := rfl
theorem c2j (l : List Value) (H : Heap) : gL prog Tryz.f121 l H = some (get l 6) := rfl
theorem b8d (l : List Value) (H : Heap) : gL prog Tryz.f129 l H = some (get l 6) := rfl
theorem c0B (l : List Value) (H : Heap) : gL prog Tryz.f148 l H = some (get l 2) := rfl
theorem c1H (l : List Value) (H : Heap) : gL prog Tryz.f150 l H = nQ (iV prog 68) (gM prog 68) H (get l 2) := by
 show (Option.bind (Option.bind (kQ prog H 68 (get l 2)) fun v => some [v]) fun vs => _) = _
 rw [jO]
 cases nQ _ _ H (get l 2) <;> rfl
theorem c1l (l : List Value) (H : Heap) : gL prog Tryz.f151 l H = nQ (iV prog 68) (gM prog 68) H (get l 2) := by
 show (Option.bind (Option.bind (kQ prog H 68 (get l 2)) fun v => some [v]) fun vs => _) = _
 rw [jO]
 cases nQ _ _ H (get l 2) <;> rfl
theorem b7S (l : List Value) (H : Heap) : gL prog Tryz.f155 l H = nQ (iV prog 74) (gM prog 74) H (get l 4) := by
 show (Option.bind (Option.bind (kQ prog H 74 (get l 4)) fun v => some [v]) fun vs => _) = _
 rw [jO]
 cases nQ _ _ H (get l 4) <;> rfl
theorem a9c (l : List Value) (H : Heap) : gL prog Tryz.f156 l H = (nQ (iV prog 52) (gM prog 52) H (get l 6)).bind fun v => if (iT v && (iT (get l 7) && true)) = true then some (.tuple #[v, get l 7]) else none := by
 show (Option.bind (Option.bind (kQ prog H 52 (get l 6)) fun v => some [v, get l 7]) fun vs => _) = _
 rw [jO]
 cases nQ _ _ H (get l 6) <;> rfl
theorem c1o (l : List Value) (H : Heap) : gL prog Tryz.f157 l H = some (get l 2) := rfl
theorem a5Y (l : List Value) (H : Heap) : gL prog Tryz.f158 l H = some (get l 2) := rfl
theorem a5U (l : List Value) (H : Heap) : gL prog Tryz.f159 l H = some (get l 2) := rfl
theorem b7J (l : List Value) (H : Heap) : gL prog Tryz.f160 l H = some (get l 2) := rfl
theorem b7K (l : List Value) (H : Heap) : gL prog Tryz.f161 l H = some (get l 2) := rfl
theorem a8O (l : List Value) (H : Heap) : gL prog Tryz.f162 l H = some (get l 2) := rfl
theorem sE (l : List Value) (H : Heap) : gL prog Tryz.f163 l H = some (get l 4) := rfl
theorem c0M (l : List Value) (H : Heap) : gL prog Tryz.f164 l H = some (get l 4) := rfl
theorem c0F (l : List Value) (H : Heap) : gL prog Tryz.f165 l H = some (get l 3) := rfl
theorem b8g (l : List Value) (H : Heap) : gL prog Tryz.f166 l H = some (get l 4) := rfl
theorem c1A (l : List Value) (H : Heap) : gL prog Tryz.f167 l H = some (get l 4) := rfl
theorem c1S (l : List Value) (H : Heap) : gL prog Tryz.f168 l H = some (get l 4) := rfl
theorem b8e (l : List Value) (H : Heap) : gL prog Tryz.f169 l H = some (get l 4) := rfl
theorem c1k (l : List Value) (H : Heap) : gL prog Tryz.f170 l H = some (get l 5) := rfl
theorem b3U (l : List Value) (H : Heap) : gL prog Tryz.f171 l H = some (get l 6) := rfl
theorem c2n (l : List Value) (H : Heap) : gL prog Tryz.f172 l H = some (get l 4) := rfl
theorem c0y (l : List Value) (H : Heap) : gL prog Tryz.f173 l H = some (get l 2) := rfl
theorem c0K (l : List Value) (H : Heap) : gL prog Tryz.f174 l H = some (.tuple #[]) := rfl
theorem c1f (l : List Value) (H : Heap) : gL prog Tryz.f175 l H = some (get l 2) := rfl
theorem b8l (l : List Value) (H : Heap) : gL prog Tryz.f176 l H = nQ (iV prog 56) (gM prog 56) H (get l 4) := by
 show (Option.bind (Option.bind (kQ prog H 56 (get l 4)) fun v => some [v]) fun vs => _) = _
 rw [jO]
 cases nQ _ _ H (get l 4) <;> rfl
theorem b8w (l : List Value) (H : Heap) : gL prog Tryz.f177 l H = some (get l 4) := rfl
theorem b4e (l : List Value) (H : Heap) : gL prog Tryz.f180 l H = some (get l 4) := rfl
theorem c2c (l : List Value) (H : Heap) : gL prog Tryz.f181 l H = some (get l 6) := rfl
theorem c2u (l : List Value) (H : Heap) : gL prog Tryz.f182 l H = some (get l 6) := rfl
theorem a6s (l : List Value) (H : Heap) : gL prog Tryz.f189 l H = some (get l 4) := rfl
theorem b7H (l : List Value) (H : Heap) : gL prog Tryz.f216 l H = some (get l 4) := rfl
theorem b7T (l : List Value) (H : Heap) : gL prog Tryz.f217 l H = some (get l 3) := rfl
theorem c0C (l : List Value) (H : Heap) : gL prog Tryz.f218 l H = some (get l 4) := rfl
theorem a2E (l : List Value) (H : Heap) : gL prog Tryz.f219 l H = some (get l 2) := rfl
theorem c2T (l : List Value) (H : Heap) : gL prog Tryz.f220 l H = some (get l 4) := rfl
theorem b7O (l : List Value) (H : Heap) : gL prog Tryz.f221 l H = some (get l 2) := rfl
theorem b2H (l : List Value) (H : Heap) : gL prog Tryz.f222 l H = some (get l 2) := rfl
theorem a0H (l : List Value) (H : Heap) : gL prog Tryz.f223 l H = some (get l 4) := rfl
theorem b7I (l : List Value) (H : Heap) : gL prog Tryz.f224 l H = some (get l 4) := rfl
theorem b8u (l : List Value) (H : Heap) : gL prog Tryz.f229 l H = some (get l 4) := rfl
theorem c2W (l : List Value) (H : Heap) : gL prog Tryz.f230 l H = some (.tuple #[]) := rfl
theorem c0E (l : List Value) (H : Heap) : gL prog Tryz.f231 l H = some (get l 4) := rfl
theorem b8s (l : List Value) (H : Heap) : gL prog Tryz.f232 l H = some (.tuple #[]) := rfl
theorem c2k (l : List Value) (H : Heap) : gL prog Tryz.f234 l H = some (get l 4) := rfl
theorem b3X (l : List Value) (H : Heap) : gL prog Tryz.f235 l H = some (get l 2) := rfl
theorem c1d (l : List Value) (H : Heap) : gL prog Tryz.f265 l H = some (get l 4) := rfl
theorem b7Z (l : List Value) (H : Heap) : gL prog Tryz.f266 l H = some (get l 2) := rfl
theorem b7X (l : List Value) (H : Heap) : gL prog Tryz.f267 l H = some (get l 4) := rfl
theorem c0I (l : List Value) (H : Heap) : gL prog Tryz.f268 l H = some (get l 4) := rfl
theorem b8q (l : List Value) (H : Heap) : gL prog Tryz.f295 l H = some (get l 4) := rfl
theorem a5v : MapK prog 188 Value.string (.bool false) := MapK.str (kt := 9) (et := 4) (by kernel_rfl) (by kernel_rfl) (by kernel_rfl) rfl
theorem a5g : MapK prog 347 (fun p : Int × Int => .agg #[I p.1, I p.2]) (.bool false) := MapK.struct (kt := 23) (et := 4) (fs := (xY prog 23).toArray) (by kernel_rfl) (by kernel_rfl) (by kernel_rfl) rfl (fun b k => by cases b <;> kernel_rfl) (fun a b => b9G (by kernel_rfl) (by kernel_rfl) (by kernel_rfl) (fun _ _ _ _ => by kernel_rfl) a b) (fun k => b8X k)
theorem tt0 : iV prog 3 = some false ∧ iV prog 4 = some false ∧ gM prog 4 = some 1 ∧ iV prog 5 = some false ∧ gM prog 5 = some 1 ∧ iV prog 9 = some false ∧ iV prog 23 = some true ∧ iV prog 24 = some false ∧ iV prog 30 = some false ∧ gM prog 30 = some 1 ∧ iV prog 31 = some false ∧ gM prog 31 = some 1 ∧ iV prog 32 = some false ∧ gM prog 32 = some 1 ∧ iV prog 34 = some true ∧ iV prog 36 = some false ∧ iV prog 37 = some false ∧ iV prog 38 = some false ∧ iV prog 40 = some true ∧ iV prog 42 = some false ∧ gM prog 42 = some 1 ∧ iV prog 52 = some true ∧ iV prog 54 = some false ∧ iV prog 56 = some true ∧ iV prog 58 = some true ∧ iV prog 59 = some false ∧ iV prog 61 = some true ∧ iV prog 68 = some true ∧ iV prog 69 = some false ∧ iV prog 71 = some true ∧ iV prog 72 = some false ∧ gM prog 72 = some 1 ∧ iV prog 74 = some true ∧ iV prog 87 = some true ∧ iV prog 88 = some false ∧ iV prog 90 = some true ∧ iV prog 92 = some false ∧ iV prog 101 = some true ∧ iV prog 107 = some false ∧ iV prog 114 = some false := by and_intros <;> kernel_rfl
theorem tt1 : iV prog 160 = some false ∧ gM prog 160 = some 1 ∧ iV prog 162 = some true ∧ iV prog 164 = some true ∧ iV prog 166 = some false ∧ gM prog 166 = some 1 ∧ iV prog 168 = some true ∧ iV prog 172 = some true ∧ iV prog 174 = some true ∧ iV prog 176 = some true ∧ iV prog 199 = some true ∧ iV prog 212 = some false ∧ iV prog 274 = some true ∧ iV prog 347 = some false ∧ iI prog 24 = some 1 ∧ iI prog 30 = some 9 ∧ iI prog 31 = some 4 ∧ iI prog 32 = some 4 ∧ iI prog 36 = some 6 ∧ iI prog 37 = some 5 ∧ iI prog 38 = some 5 ∧ iI prog 42 = some 2 ∧ iI prog 59 = some 4 ∧ iI prog 69 = some 3 ∧ iI prog 72 = some 2 ∧ iI prog 88 = some 1 ∧ iI prog 92 = some 3 ∧ iI prog 107 = some 2 ∧ iI prog 114 = some 2 ∧ iI prog 160 = some 4 ∧ iI prog 169 = some 1 ∧ iI prog 185 = some 1 ∧ iI prog 186 = some 2 ∧ iI prog 212 = some 1 ∧ iI prog 223 = some 3 ∧ iI prog 331 = some 2 ∧ kL prog 24 = true ∧ kL prog 36 = true ∧ kL prog 37 = true ∧ kL prog 38 = true := by and_intros <;> kernel_rfl
theorem tt2 : kL prog 42 = true ∧ kL prog 59 = true ∧ kL prog 69 = true ∧ kL prog 72 = true ∧ kL prog 88 = true ∧ kL prog 92 = true ∧ kL prog 107 = true ∧ kL prog 114 = true ∧ kL prog 169 = true ∧ kL prog 185 = true ∧ kL prog 186 = true ∧ kL prog 212 = true ∧ kL prog 223 = true ∧ kL prog 331 = true ∧ iI prog 9 = none ∧ nU prog 9 = true ∧ iB prog 23 0 = some 0 ∧ iB prog 23 1 = some 1 ∧ iB prog 34 0 = some 0 ∧ iB prog 34 1 = some 1 ∧ iB prog 34 2 = some 2 ∧ iB prog 40 0 = some 0 ∧ iB prog 40 1 = some 1 ∧ iB prog 40 2 = some 2 ∧ iB prog 40 3 = some 3 ∧ iB prog 52 0 = some 0 ∧ iB prog 52 1 = some 1 ∧ iB prog 56 0 = some 0 ∧ iB prog 56 1 = some 1 ∧ iB prog 58 0 = some 0 ∧ iB prog 58 1 = some 1 ∧ iB prog 61 0 = some 0 ∧ iB prog 61 2 = some 2 ∧ iB prog 61 3 = some 4 ∧ iB prog 68 0 = some 0 ∧ iB prog 68 1 = some 1 ∧ iB prog 71 0 = some 0 ∧ iB prog 71 1 = some 1 ∧ iB prog 71 2 = some 3 ∧ iB prog 74 0 = some 0 := by and_intros <;> kernel_rfl
theorem tt3 : iB prog 74 1 = some 1 ∧ iB prog 74 2 = some 2 ∧ iB prog 90 0 = some 0 ∧ iB prog 90 1 = some 1 ∧ iB prog 90 2 = some 2 ∧ iB prog 101 0 = some 0 ∧ iB prog 101 1 = some 1 ∧ iB prog 101 2 = some 2 ∧ iB prog 162 0 = some 0 ∧ iB prog 162 1 = some 1 ∧ iB prog 162 2 = some 2 ∧ iB prog 162 3 = some 3 ∧ iB prog 164 0 = some 0 ∧ iB prog 164 1 = some 1 ∧ iB prog 164 2 = some 2 ∧ iB prog 164 3 = some 4 ∧ iB prog 164 4 = some 5 ∧ iB prog 168 0 = some 0 ∧ iB prog 168 1 = some 1 ∧ iB prog 168 2 = some 2 ∧ iB prog 168 3 = some 3 ∧ iB prog 168 4 = some 4 ∧ iB prog 172 0 = some 0 ∧ iB prog 172 1 = some 1 ∧ iB prog 172 2 = some 2 ∧ iB prog 172 3 = some 3 ∧ iB prog 174 0 = some 0 ∧ iB prog 174 1 = some 1 ∧ iB prog 174 2 = some 2 ∧ iB prog 174 3 = some 3 ∧ iB prog 176 0 = some 0 ∧ iB prog 176 1 = some 1 ∧ iB prog 176 2 = some 2 ∧ iB prog 176 3 = some 3 ∧ iB prog 176 4 = some 4 ∧ iB prog 199 0 = some 0 ∧ iB prog 199 1 = some 1 ∧ iB prog 274 0 = some 0 ∧ iB prog 274 1 = some 1 ∧ iF prog 3 = some (.int .i64 0) := by and_intros <;> kernel_rfl
theorem tt4 : iS prog 3 = none ∧ iF prog 23 = some (.agg #[.int .i64 0, .int .i64 0]) ∧ iS prog 23 = none ∧ iF prog 40 = some (.agg #[.string ⟨#[]⟩, .slice none 0 0, .slice none 0 0, .slice none 0 0]) ∧ iS prog 40 = none ∧ iF prog 52 = some (.agg #[.int .i64 0, .int .i64 0]) ∧ iS prog 52 = none ∧ iF prog 56 = some (.agg #[.int .u64 0, .int .u64 0]) ∧ iS prog 56 = none ∧ iF prog 58 = some (.agg #[.int .i64 0, .int .i64 0]) ∧ iS prog 58 = none ∧ iF prog 61 = some (.agg #[.string ⟨#[]⟩, .bool false, .int .i64 0, .int .i64 0, .slice none 0 0]) ∧ iS prog 61 = none ∧ iF prog 68 = some (.agg #[.int .i64 0, .int .i64 0]) ∧ iS prog 68 = none ∧ iF prog 71 = some (.agg #[.string ⟨#[]⟩, .int .i64 0, .int .i64 0, .slice none 0 0]) ∧ iS prog 71 = none ∧ iF prog 74 = some (.agg #[.int .i64 0, .int .i64 0, .slice none 0 0]) ∧ iS prog 74 = none ∧ iF prog 90 = some (.agg #[.slice none 0 0, .int .u64 0, .int .u64 0]) ∧ iS prog 90 = none ∧ iF prog 92 = some (.slice none 0 0) ∧ iS prog 92 = none ∧ iF prog 101 = some (.agg #[.int .i64 0, .int .i64 0, .int .i64 0]) ∧ iS prog 101 = none ∧ iF prog 107 = some (.slice none 0 0) ∧ iS prog 107 = none ∧ iF prog 114 = some (.slice none 0 0) ∧ iS prog 114 = none ∧ iF prog 162 = some (.agg #[.int .u8 0, .int .u8 0, .bool false, .slice none 0 0]) ∧ iS prog 162 = none ∧ iF prog 164 = some (.agg #[.string ⟨#[]⟩, .string ⟨#[]⟩, .int .i64 0, .int .i64 0, .int .i64 0, .slice none 0 0]) ∧ iS prog 164 = none ∧ iF prog 174 = some (.agg #[.int .u8 0, .int .u8 0, .int .i8 0, .bool false]) ∧ iS prog 174 = none ∧ iF prog 176 = some (.agg #[.string ⟨#[]⟩, .int .i64 0, .int .i64 0, .int .i64 0, .bool false]) ∧ iS prog 176 = none ∧ iF prog 199 = some (.agg #[.int .i64 0, .int .i64 0]) ∧ iS prog 199 = none ∧ iF prog 212 = some (.slice none 0 0) := by and_intros <;> kernel_rfl
theorem tt5 : iS prog 212 = none ∧ iF prog 347 = some (.map none) ∧ iS prog 347 = none ∧ a0a prog 3 = some .i64 ∧ a0a prog 5 = some .u8 ∧ a0a prog 54 = some .u64 ∧ a0a prog 166 = some .i8 ∧ a0a prog 183 = some .u64 := by and_intros <;> kernel_rfl
def TS := (And.intro (And.intro (And.intro (And.intro (And.intro @tt0 (And.intro @tt1 @tt2)) (And.intro @tt3 (And.intro @tt4 @tt5))) (And.intro (And.intro @tS3 (And.intro @tS9 @pU)) (And.intro (And.intro @c1n @b7l) (And.intro @c1b @c2q)))) (And.intro (And.intro (And.intro @b7a (And.intro @lD @yT)) (And.intro @a0d (And.intro @oT @a6R))) (And.intro (And.intro @c2h (And.intro @a1Y @yD)) (And.intro (And.intro @a1N @pV) (And.intro @a8h @b9z))))) (And.intro (And.intro (And.intro (And.intro @b6B (And.intro @iK @b5g)) (And.intro @kE (And.intro @b2a @a9u))) (And.intro (And.intro @a9b (And.intro @uK @b2N)) (And.intro (And.intro @b4y @a8Z) (And.intro @uQ @zG)))) (And.intro (And.intro (And.intro @a5q (And.intro @a9t @b2r)) (And.intro (And.intro @c3i @c2A) (And.intro @c1K @c2b))) (And.intro (And.intro @c1L (And.intro @c1Q @c1e)) (And.intro (And.intro @b9H @b9Y) (And.intro @b9o @b9f))))))
def RZ := And.intro @RB (And.intro @RC @TS)
end Go.Ds
namespace Go.Ds
open Go.Proofs
variable {P : Program} {H : Heap}
structure Drw where
 rank : Int
 shift : Int
 deriving DecidableEq, Inhabited
structure Seg where
 lo : Int
 hi : Int
 dv : Value
 draws : List Drw
 deriving Inhabited
structure Stp where
 name : ByteArray
 num : Int
 den : Int
 gv : Value
 segs : List Seg
 deriving Inhabited
structure Dvn where
 name : ByteArray
 pedal : Bool
 lo : Int
 hi : Int
 sv : Value
 stops : List Stp
 deriving Inhabited
structure Rk where
 name : ByteArray
 tone : ByteArray
 num : Int
 den : Int
 first : Int
 wv : Value
 wind : List Int
 deriving Inhabited
structure Cpl where
 name : ByteArray
 src : Int
 dst : Int
 shift : Int
 thr : Bool
 deriving Inhabited
structure Org where
 name : ByteArray
 rv : Value
 ranks : List Rk
 dv : Value
 dvs : List Dvn
 cv : Value
 cpls : List Cpl
 deriving Inhabited
def Drw.cells (d : Drw) : List Value := [I d.rank, I d.shift]
def Seg.cells (s : Seg) : List Value := [I s.lo, I s.hi, s.dv]
def Stp.cells (s : Stp) : List Value := [.string s.name, I s.num, I s.den, s.gv]
def Dvn.cells (d : Dvn) : List Value := [.string d.name, .bool d.pedal, I d.lo, I d.hi, d.sv]
def Rk.cells (r : Rk) : List Value := [.string r.name, .string r.tone, I r.num, I r.den, I r.first, r.wv]
def Cpl.cells (c : Cpl) : List Value := [.string c.name, I c.src, I c.dst, I c.shift, .bool c.thr]
def Org.cells (o : Org) : List Value := [.string o.name, o.rv, o.dv, o.cv]
def Seg.In (H : Heap) (s : Seg) : Prop := Sl 2 Drw.cells H s.dv s.draws ∧ s.draws.length < 1000000000
def Stp.In (H : Heap) (s : Stp) : Prop := Sl 3 Seg.cells H s.gv s.segs ∧ (∀ g ∈ s.segs, g.In H) ∧ s.segs.length < 1000000000
def Dvn.In (H : Heap) (d : Dvn) : Prop := Sl 4 Stp.cells H d.sv d.stops ∧ (∀ s ∈ d.stops, s.In H) ∧ d.stops.length < 1000000000
def Rk.In (H : Heap) (r : Rk) : Prop := Sl 1 (one I) H r.wv r.wind ∧ r.wind.length < 1000000000
def Org.In (H : Heap) (o : Org) : Prop := Sl 6 Rk.cells H o.rv o.ranks ∧ (∀ r ∈ o.ranks, r.In H) ∧ Sl 5 Dvn.cells H o.dv o.dvs ∧ (∀ d ∈ o.dvs, d.In H) ∧ Sl 5 Cpl.cells H o.cv o.cpls ∧ o.ranks.length < 1000000000 ∧ o.dvs.length < 1000000000 ∧ o.cpls.length < 1000000000
section
variable {H0 : Heap} {os : List Ob}
theorem Seg.In.ae {s : Seg} (h : s.In H0) (hS : St P H0 H os) : s.In H := ⟨hS.sl h.1, h.2⟩
theorem Stp.In.ae {s : Stp} (h : s.In H0) (hS : St P H0 H os) : s.In H := ⟨hS.sl h.1, fun g hg => (h.2.1 g hg).ae hS, h.2.2⟩
theorem Dvn.In.ae {d : Dvn} (h : d.In H0) (hS : St P H0 H os) : d.In H := ⟨hS.sl h.1, fun g hg => (h.2.1 g hg).ae hS, h.2.2⟩
theorem Rk.In.ae {r : Rk} (h : r.In H0) (hS : St P H0 H os) : r.In H := ⟨hS.sl h.1, h.2⟩
theorem Org.In.ae {o : Org} (h : o.In H0) (hS : St P H0 H os) : o.In H := ⟨hS.sl h.1, fun r hr => (h.2.1 r hr).ae hS, hS.sl h.2.2.1, fun d hd => (h.2.2.2.1 d hd).ae hS, hS.sl h.2.2.2.2.1, h.2.2.2.2.2⟩
end
def c0O (n : Int) : Prop := -9223372036854775808 ≤ n ∧ n < 9223372036854775808
end Go.Ds
