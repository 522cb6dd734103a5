/-
  A part of the proof of DemandErrors.
-/
import Derived.Test.YtbdbnfhkdmhobaaGreatDoorVA
import Derived.Test.YtbdbnfhkdmhobaaGreatDoorVB
import Derived.Test.YtbdbnfhkdmhobaaGreatDoorProg
import Derived.KernelRfl
import Derived.Lib.LaidTab
import Derived.Stop.LaidErr
import Derived.Laws.Strings
set_option linter.unusedVariables false
set_option linter.unusedSimpArgs false
set_option linter.defProp false
set_option linter.unusedSectionVars false
namespace Go.Ds
noncomputable section
inductive Pth where
 | z
 | l (p : Pth)
 | r (p : Pth)
inductive Fr where
 | e
 | n (v : Value) (l r : Fr)
def a4S : Nat → Nat → Pth := fun f => Nat.rec (motive := fun _ => Nat → Pth) (fun _ => .z) (fun _ ih k => Nat.rec (motive := fun _ => Pth) .z (fun k _ => Bool.rec (motive := fun _ => Pth) (.r (ih (Nat.div k 2))) (.l (ih (Nat.div k 2))) (Nat.beq (Nat.mod k 2) 0)) k) f
def kL (k : Nat) : Pth := a4S k k
def nK (p : Pth) : Fr → Value := Pth.rec (motive := fun _ => Fr → Value)
 (fun f => Fr.rec (motive := fun _ => Value) undef (fun v _ _ _ _ => v) f)
 (fun _ ih f => Fr.rec (motive := fun _ => Value) undef (fun _ l _ _ _ => ih l) f)
 (fun _ ih f => Fr.rec (motive := fun _ => Value) undef (fun _ _ r _ _ => ih r) f) p
def pD {α : Type} (v : Value) (p : Pth) : Fr → (Fr → α) → α := Pth.rec (motive := fun _ => Fr → (Fr → α) → α)
 (fun f K => Fr.rec (motive := fun _ => α) (K (.n v .e .e)) (fun _ l r _ _ => K (.n v l r)) f)
 (fun _ ih f K => Fr.rec (motive := fun _ => α) (ih .e fun l => K (.n undef l .e)) (fun w l r _ _ => ih l fun l => K (.n w l r)) f)
 (fun _ ih f K => Fr.rec (motive := fun _ => α) (ih .e fun r => K (.n undef .e r)) (fun w l r _ _ => ih r fun r => K (.n w l r)) f) p
def lH {α : Type} (p : Pth) : (Pth → α) → α := Pth.rec (motive := fun _ => (Pth → α) → α) (fun K => K .z) (fun _ ih K => ih fun p => K (.l p)) (fun _ ih K => ih fun p => K (.r p)) p
inductive LArg where
 | t (p : Pth)
 | c (v : Value)
def mC (f : Fr) (x : LArg) : Value := LArg.rec (motive := fun _ => Value) (fun p => nK p f) (fun v => v) x
inductive Rs where
 | no
 | ok (v : Value) (H : Heap)
 | th (v : Value) (H : Heap)
def oB {α : Type} (v : Value) (K : Value → α) : α :=
 match v with
 | .bool b => K (.bool b)
 | .int k n => K (.int k n)
 | .string s => K (.string s)
 | .pointer a => K (.pointer a)
 | .slice a n c => K (.slice a n c)
 | .map r => K (.map r)
 | .func fn a b => K (.func fn a b)
 | .agg cs => K (.agg cs)
 | .tuple vs => K (.tuple vs)
 | v => K v
inductive LOp where
 | bad
 | mv (x : LArg)
 | pick (c a b : LArg)
 | bin (g : IntKind → Int → Int → Option Value) (x y : LArg)
 | not (x : LArg)
 | ld1 (x : LArg)
 | ldn (n : Nat) (x : LArg)
 | st (n : Nat) (x y : LArg)
 | fa (off : Nat) (x : LArg)
 | ixs (size : Nat) (x i : LArg)
 | ixa (n size : Nat) (x i : LArg)
 | ext (i : Nat) (x : LArg)
 | f1 (off : Nat) (x : LArg)
 | fn (off n : Nat) (x : LArg)
 | len (x : LArg)
 | slen (x : LArg)
 | app (elem size bytes : Nat) (x y : LArg)
 | alloc (t : TypeId) (cs : List Value)
 | callF (f : FuncId) (p : Pth) (args : List LArg)
 | callV (g : LArg) (args : List LArg)
 | gen (o : Oper)
inductive LOps where
 | nil
 | cons (d : Option Pth) (o : LOp) (rest : LOps)
 | gcons (p : Pth) (w : Bool) (d : Option Pth) (o : LOp) (rest : LOps)
inductive LCode where
 | bad
 | skip
 | reg (ops : LOps)
 | drw (ops : LOps) (tab : List (Nat × Option Nat × Option (Pth × Bool) × LOp))
 | seq (a b : LCode)
 | cond (c : LArg) (x y : LCode)
 | block (id : Nat) (b : LCode)
 | loop (b : LCode)
 | exit (id : Nat)
 | ret
 | range (g : LArg) (ps : List Pth) (pp : List Pth) (params : Array Tmp) (assign body : Code) (a b : LCode)
inductive LRes where
 | t (p : Pth)
 | c1 (p : Pth)
 | cn (n : Nat) (p : Pth)
structure LFunc where
 ps : List Pth
 body : LCode
 res : List LRes
inductive LT where
 | e
 | n (g : Option LFunc) (l r : LT)
def a1k (p : Pth) : LT → Option LFunc := Pth.rec (motive := fun _ => LT → Option LFunc)
 (fun f => LT.rec (motive := fun _ => Option LFunc) none (fun v _ _ _ _ => v) f)
 (fun _ ih f => LT.rec (motive := fun _ => Option LFunc) none (fun _ l _ _ _ => ih l) f)
 (fun _ ih f => LT.rec (motive := fun _ => Option LFunc) none (fun _ _ r _ _ => ih r) f) p
def rH {α : Type} (v : LFunc) (p : Pth) : LT → (LT → α) → α := Pth.rec (motive := fun _ => LT → (LT → α) → α)
 (fun f K => LT.rec (motive := fun _ => α) (K (.n (some v) .e .e)) (fun _ l r _ _ => K (.n (some v) l r)) f)
 (fun _ ih f K => LT.rec (motive := fun _ => α) (ih .e fun l => K (.n none l .e)) (fun w l r _ _ => ih l fun l => K (.n w l r)) f)
 (fun _ ih f K => LT.rec (motive := fun _ => α) (ih .e fun r => K (.n none .e r)) (fun w l r _ _ => ih r fun r => K (.n w l r)) f) p
structure LEnv where
 L : Nat
 ps : List Pth
 pp : List Pth
 a : LCode
 b : LCode
def b8U (P : Program) (o : Oper) (ρ : Operand → Value) (H : Heap) : Option (Value × Heap) :=
 if o.op.operands.toList.all (fun x => flat (ρ x)) then
  match iG P (execOp ρ o) with
  | some (.value v) => if flat v then some (v, H) else none
  | _ => none
 else none
def c0q (P : Program) (o : Oper) (ρ : Operand → Value) (H : Heap) : Option (Value × Heap) :=
 let keep (v : Option Value) : Option (Value × Heap) := v.map fun v => (v, H)
 let plain : Option (Value × Heap) := b8U P o ρ H
 match o.op with
 | .move x | .assign x => some (ρ x, H)
 | .pick c a b => match ρ c with | .bool t => some (if t then ρ a else ρ b, H) | _ => none
 | .alloc t => (iX P t).bind fun z => if iY z then qB P H t z else none
 | .box t x => vV P H t (ρ x)
 | .build t parts =>
   let ps := parts.toList.map fun (i, x) => (i, ρ x)
   if (iX P t).any iY && ps.all (fun x => x.2.cells.toList.all oneCell) then
    (P.built t ps).map fun cs => (.agg cs, H)
   else none
 | .buildSlice t len parts =>
   (iD P t).bind fun elem => (iA P elem).bind fun size => (iX P elem).bind fun z =>
   let ps := parts.toList.map fun (i, x) => (i, ρ x)
   if len == 0 && ps.isEmpty && size != 0 then some (.slice (some ⟨H.length, 0, some 0⟩) 0 size, rB H elem []) else
   if iY z && ps.all (fun x => x.2.cells.toList.all oneCell) && len * size ≤ 2 ^ 24 && len * size != 0 && z.cells.size == size then
    (Instr.fill (fun i => some (i * size, size)) ((Array.range (len * size)).map (z.cells[· % z.cells.size]!)) ps).map fun cs =>
      (.slice (some ⟨H.length, 0, some cs.toList.length⟩) len size, rB H elem cs.toList)
   else none
 | .makeSlice t n c =>
   (iD P t).bind fun elem => (iA P elem).bind fun size => (nH P elem).bind fun bytes => (iX P elem).bind fun z =>
   match ρ n, ρ c with
   | .int .i64 a, .int .i64 b =>
     if iY z && decide (a ≤ b) && 0 ≤ a && b * (bytes + 1) ≤ (oF : Int) && size != 0 && z.cells.size == size then
      let cs := if size = 1 then List.replicate b.toNat (z.cells[0]!) else (madeCells z.cells (b.toNat * size)).toList
      some (.slice (some ⟨H.length, 0, some cs.length⟩) a.toNat size, rB H elem cs)
     else none
   | _, _ => none
 | .load t a => keep (lJ P H t (ρ a))
 | .store t a x => (qI P H t (ρ a) (ρ x)).map fun H => (undef, H)
 | .nilCheck x => match ρ x with
   | .pointer (some a) => some (.pointer (some a), H)
   | .func (.func f) a b => some (.func (.func f) a b, H)
   | _ => none
 | .fieldAddr s x f => match ρ x with
   | .pointer (some ⟨A, i, some e⟩) => (nO P s f).bind fun fd => (iA P fd.type).bind fun n => if n == 0 then none else some (.pointer (some ⟨A, i + fd.offset, some e⟩), H)
   | _ => none
 | .indexAddr t x ix => match P.underlying t, ρ x, ρ ix with
   | some (.slice elem), .slice (some ⟨A, i, some e⟩) n _, .int _ j => (iA P elem).bind fun size =>
     if 0 ≤ j && j < n then some (.pointer (some ⟨A, i + j.toNat * size, some e⟩), H) else none
   | some (.array n elem), .pointer (some ⟨A, i, some e⟩), .int _ j => (iA P elem).bind fun size =>
     if 0 ≤ j && j < n then some (.pointer (some ⟨A, i + j.toNat * size, some e⟩), H) else none
   | some (.array n elem), .pointer (some ⟨A, i, none⟩), .int _ j => (iA P elem).bind fun size =>
     if 0 ≤ j && j < n then some (.pointer (some ⟨A, i + j.toNat * size, none⟩), H) else none
   | _, _, _ => none
 | .slice t x lo hi none => if flat (ρ x) then plain else match jH P t with
   | some (n, elem) => keep (a4y P H n elem (ρ x) (lo.map ρ) (hi.map ρ))
   | none => keep (wI P t (ρ x) (lo.map ρ) (hi.map ρ))
 | .field t x f => if flat (ρ x) then plain else
   match ρ x with
   | .agg cs => (nO P t f).bind fun fd => match jI P fd.type with
     | some true => (iA P fd.type).map fun n => (.agg (cs.extract fd.offset (fd.offset + n)), H)
     | some false => (cs[fd.offset]?).map fun v => (v, H)
     | none => none
   | _ => none
 | .extract t i => match ρ t with
   | .tuple vs => (vs[i]?).map fun v => (v, H)
   | _ => none
 | .makeFunc fn first captured => match fn with
   | .func f => if (first ++ captured).toList.all (fun x => oT (ρ x)) then some (.func (.func f) (first.map ρ) (captured.map ρ), H) else none
   | _ => none
 | .binOp op t x y _ => match op, ρ x, ρ y with
   | .eql, .slice (some _) _ _, .slice none 0 0 => if ((P.underlying t).map uI) == some true then some (.bool false, H) else none
   | .neq, .slice (some _) _ _, .slice none 0 0 => if ((P.underlying t).map uI) == some true then some (.bool true, H) else none
   | op, .int k a, .int k' b => if k = k' then (match mD op k a b with | some v => some (v, H) | none => plain) else plain
   | .eql, .pointer (some _), .pointer none => if sT P t then some (.bool false, H) else none
   | .neq, .pointer (some _), .pointer none => if sT P t then some (.bool true, H) else none
   | .eql, .pointer (some ⟨A, i, some e⟩), .pointer (some ⟨A', i', some e'⟩) => if sT P t && A == A' && i == i' && e == e' then some (.bool true, H) else none
   | .neq, .pointer (some ⟨A, i, some e⟩), .pointer (some ⟨A', i', some e'⟩) => if sT P t && A == A' && i == i' && e == e' then some (.bool false, H) else none
   | _, _, _ => plain
 | .call c => match c.callee with
   | .builtin .len => if c.args.size == 1 && c.argTypes.size == 1 then
      match (P.underlying (c.argTypes.getD 0 0)), ρ (c.args.getD 0 (.tmp 0)) with
      | some (.slice _), .slice a n k => keep (vU H (.slice a n k))
      | some .string, .string s => keep (vU H (.string s))
      | some (.map _ _), .map r => keep (vU H (.map r))
      | _, _ => none
     else none
   | .builtin .append => if c.args.size == 2 && c.argTypes.size == 2 && ((P.underlying (c.argTypes.getD 1 0)).map pC) == some true then
      mZ P H (c.argTypes.getD 0 0) (ρ (c.args.getD 0 (.tmp 0))) (ρ (c.args.getD 1 (.tmp 0)))
     else none
   | .builtin .copy => if c.args.size == 2 && c.argTypes.size == 2 then a0C P H (c.argTypes.getD 0 0) (ρ (c.args.getD 0 (.tmp 0))) (ρ (c.args.getD 1 (.tmp 0))) else none
   | .builtin .clear => if c.args.size == 1 && c.argTypes.size == 1 then sD P H (c.argTypes.getD 0 0) (ρ (c.args.getD 0 (.tmp 0))) else none
   | .builtin .cap => plain
   | .builtin .unsafeSliceData => if c.args.size == 1 && c.argTypes.size == 1 then match ρ (c.args.getD 0 (.tmp 0)) with
      | .slice (some a) n _ => if n == 0 then none else some (.pointer (some a), H)
      | _ => none
     else none
   | .builtin .unsafeString => if c.args.size == 2 && c.argTypes.size == 2 then uM P H (c.argTypes.getD 0 0) (ρ (c.args.getD 0 (.tmp 0))) (ρ (c.args.getD 1 (.tmp 0))) else none
   | .builtin .max => plain
   | .builtin .min => plain
   | _ => none
 | .unOp op _ x => match op, ρ x with
   | .not, .bool b => some (.bool (!b), H)
   | _, _ => plain
 | .makeMap t r => oZ P H t (r.map ρ)
 | .lookup t x k c => keep (oS P H t (ρ x) (ρ k) c)
 | .mapUpdate t m k v => (a0M P H t (ρ m) (ρ k) (ρ v)).map fun H => (undef, H)
 | .mapEntry t m k => sE P H t (ρ m) (ρ k)
 | .entryStore _ m b v => (qV H (ρ m) (ρ b) (ρ v)).map fun H => (undef, H)
 | .convert s t x => if flat (ρ x) && !(kT P t) then plain else match ρ x with
   | .slice (some ⟨A, i, some e⟩) n _ => if kT P s && oA P t then keep ((iZ H A i e n).bind fun l => (mY l).map .string) else none
   | .string b => if kT P t && oA P s && b.size ≤ 2 ^ 40 then (iD P t).bind fun elem => some (.slice (some ⟨H.length, 0, some b.size⟩) b.size 1, b4l H elem (b.data.toList.map fun c => .int .u8 c.toNat)) else none
   | .pointer (some ⟨A, 0, some e⟩) => if a2X P H s t A e then some (.pointer (some ⟨A, 0, some e⟩), H) else none
   | _ => none
 | .index _ _ _ => plain
 | .makeInterface _ _ => plain
 | _ => none
def nI {α : Type} (b : Bool) (no : α) (x : α) : α := Bool.rec (motive := fun _ => α) no x b
def a5x {α : Type} (cs : List α) : Nat → Bool := List.rec (motive := fun _ => Nat → Bool) (fun e => Nat.beq e 0) (fun _ _ ih e => Nat.rec (motive := fun _ => Bool) true (fun m _ => ih m) e) cs
def a3h {α : Type} (cs : List α) : Nat → Bool := List.rec (motive := fun _ => Nat → Bool) (fun e => Nat.beq e 0) (fun _ _ ih e => Nat.rec (motive := fun _ => Bool) false (fun m _ => ih m) e) cs
def a0E {α : Type} (cs : List α) : Nat → Option α := List.rec (motive := fun _ => Nat → Option α) (fun _ => none) (fun v _ ih e => Nat.rec (motive := fun _ => Option α) (some v) (fun m _ => ih m) e) cs
def a2t {α : Type} (cs : List α) : Nat → (List α → Rs) → Rs := List.rec (motive := fun _ => Nat → (List α → Rs) → Rs) (fun n K => Nat.rec (motive := fun _ => Rs) (K []) (fun _ _ => .no) n) (fun v _ ih n K => Nat.rec (motive := fun _ => Rs) (K []) (fun m _ => ih m fun l => K (v :: l)) n) cs
def b0T {α : Type} (cs : List α) : Nat → List α := List.rec (motive := fun _ => Nat → List α) (fun _ => []) (fun v t ih n => Nat.rec (motive := fun _ => List α) (v :: t) (fun m _ => ih m) n) cs
def kIx (k : IntKind) : Nat := IntKind.rec (motive := fun _ => Nat) 0 1 2 3 4 5 6 7 k
def hMv (x : LArg) (f : Fr) (H : Heap) : Rs := oB (mC f x) fun v => .ok v H
def b6m (c a b : LArg) (f : Fr) (H : Heap) : Rs := match mC f c with
 | .bool t => oB (mC f (Bool.rec (motive := fun _ => LArg) b a t)) fun v => .ok v H
 | _ => .no
def oV (v : Option Value) (H : Heap) : Rs := Option.rec (motive := fun _ => Rs) .no (fun v => .th v H) v
def b9m (g : IntKind → Int → Int → Option Value) (k : IntKind) (a : Int) (H : Heap) (y : Value) : Rs := match y with
 | .int k' b => nI (Nat.beq (kIx k) (kIx k')) .no (oV (g k a b) H)
 | _ => .no
def c0H (g : IntKind → Int → Int → Option Value) (x y : LArg) (f : Fr) (H : Heap) : Rs := match mC f x with
 | .int k a => b9m g k a H (mC f y)
 | _ => .no
def c5M (x : LArg) (f : Fr) (H : Heap) : Rs := match mC f x with
 | .bool b => .ok (.bool (Bool.rec (motive := fun _ => Bool) true false b)) H
 | _ => .no
def b7j (b : Option Blk) (i e : Nat) (H : Heap) : Rs := match b with
 | some (.cells cs _ _ lo _) => nI (Nat.ble lo e) .no (nI (a5x cs e) .no (nI (Nat.ble (Nat.succ i) e) .no (Option.rec (motive := fun _ => Rs) .no (fun v => oB v fun v => .ok v H) (a0E cs i))))
 | _ => .no
def c1M (b : Option Blk) (i : Nat) (H : Heap) : Rs := match b with
 | some (.cells cs _ false lo 1) => nI (a5x cs lo) .no (Option.rec (motive := fun _ => Rs) .no (fun v => oB v fun v => .ok v H) (a0E cs i))
 | _ => .no
def b1o (x : LArg) (f : Fr) (H : Heap) : Rs := match mC f x with
 | .pointer (some ⟨A, i, some e⟩) => b7j (iM H A) i e H
 | .pointer (some ⟨A, i, none⟩) => c1M (iM H A) i H
 | _ => .no
def b7y (b : Option Blk) (n i e : Nat) (H : Heap) : Rs := match b with
 | some (.cells cs _ _ lo _) => nI (Nat.ble lo e) .no (nI (a5x cs e) .no (nI (Nat.ble (Nat.add i n) e) .no (a2t (b0T cs i) n fun l => .ok (.agg ⟨l⟩) H)))
 | _ => .no
def b2P (n : Nat) (x : LArg) (f : Fr) (H : Heap) : Rs := match mC f x with
 | .pointer (some ⟨A, i, some e⟩) => b7y (iM H A) n i e H
 | _ => .no
def stB (b : Option Blk) (n A i e : Nat) (vs : List Value) (H : Heap) : Rs := match b with
 | some (.cells cs ty true lo ver) => nI (a3h vs n) .no (nI (vs.all oneCell) .no (nI (a3h cs e) .no (nI (Nat.ble (Nat.add i n) e) .no (nI (Nat.ble lo e) .no
    (.th undef (hset H A (.cells (iV cs i vs) ty true e ver)))))))
 | _ => .no
def hSt (n : Nat) (x y : LArg) (f : Fr) (H : Heap) : Rs := match mC f x with
 | .pointer (some ⟨A, i, some e⟩) => stB (iM H A) n A i e (mC f y).cells.toList H
 | _ => .no
def hFa (off : Nat) (x : LArg) (f : Fr) (H : Heap) : Rs := match mC f x with
 | .pointer (some ⟨A, i, some e⟩) => jW (Nat.add i off) fun i => .ok (.pointer (some ⟨A, i, some e⟩)) H
 | _ => .no
def ixP (A i e size n : Nat) (H : Heap) (j : Value) : Rs := match j with
 | .int _ (.ofNat j) => nI (Nat.blt j n) .no (jW (Nat.add i (Nat.mul j size)) fun i => .ok (.pointer (some ⟨A, i, some e⟩)) H)
 | _ => .no
def b9S (size : Nat) (x i : LArg) (f : Fr) (H : Heap) : Rs := match mC f x with
 | .slice (some ⟨A, a, some e⟩) n _ => ixP A a e size n H (mC f i)
 | _ => .no
def ixG (A i size n : Nat) (H : Heap) (j : Value) : Rs := match j with
 | .int _ (.ofNat j) => nI (Nat.blt j n) .no (jW (Nat.add i (Nat.mul j size)) fun i => .ok (.pointer (some ⟨A, i, none⟩)) H)
 | _ => .no
def c1g (n size : Nat) (x i : LArg) (f : Fr) (H : Heap) : Rs := match mC f x with
 | .pointer (some ⟨A, a, some e⟩) => ixP A a e size n H (mC f i)
 | .pointer (some ⟨A, a, none⟩) => ixG A a size n H (mC f i)
 | _ => .no
def okV (v : Option Value) (H : Heap) : Rs := Option.rec (motive := fun _ => Rs) .no (fun v => oB v fun v => .ok v H) v
def c0X (i : Nat) (x : LArg) (f : Fr) (H : Heap) : Rs := match mC f x with
 | .tuple ⟨vs⟩ => okV (a0E vs i) H
 | _ => .no
def hF1 (off : Nat) (x : LArg) (f : Fr) (H : Heap) : Rs := match mC f x with
 | .agg ⟨cs⟩ => okV (a0E cs off) H
 | _ => .no
def hFn (off n : Nat) (x : LArg) (f : Fr) (H : Heap) : Rs := match mC f x with
 | .agg ⟨cs⟩ => a2t (b0T cs off) n fun l => .ok (.agg ⟨l⟩) H
 | _ => .no
def c0v (x : LArg) (f : Fr) (H : Heap) : Rs := match mC f x with
 | .slice _ n _ => .th (goInt n) H
 | _ => .no
def b5V (x : LArg) (f : Fr) (H : Heap) : Rs := match mC f x with
 | .string s => .th (goInt s.size) H
 | _ => .no
def c2B (b : Option Blk) (elem size bytes A i e k : Nat) (n : Nat) (l : List Value) (P : Program) (H : Heap) : Rs := match b with
 | some (.cells cs ty true lo ver) => nI (Bool.rec (motive := fun _ => Bool) (iA P ty == some size) true (Nat.beq ty elem)) .no (nI (a3h cs e) .no (nI (Nat.ble lo e) .no
    (nI (Nat.beq (Nat.add i (Nat.mul k size)) e)
      (nI (Nat.beq n 0) (nI (Nat.ble (Nat.add i (Nat.mul (Nat.add k n) size)) e) .no (.th (.slice (some ⟨A, i, some e⟩) (k + n) size) (hset H A (.cells (iV cs (i + k * size) l) ty true e ver)))) .no)
      (nI (Nat.ble (Nat.mul (Nat.add k n) (Nat.succ bytes)) oF) .no (.th (.slice (some ⟨A, i, some (e + l.length)⟩) (k + n) size) (hset H A (.cells (a4s cs l) ty true lo (Bool.rec (motive := fun _ => Nat) 2 ver (Nat.beq ty elem)))))))))
 | _ => .no
def c2E (P : Program) (elem size bytes : Nat) (s : Value) (H : Heap) (n : Nat) (l : List Value) : Rs := match s with
 | .slice none k c => nI (Nat.beq k 0) .no (nI (Nat.beq c 0) .no (nI (Nat.ble (Nat.mul n (Nat.succ bytes)) oF) .no (nI (Nat.beq n 0) (.th (.slice (some ⟨H.length, 0, some l.length⟩) n size) (rB H elem l)) (.ok (.slice none 0 0) H))))
 | .slice (some ⟨A, i, some e⟩) k _ => c2B (iM H A) elem size bytes A i e k n l P H
 | _ => .no
def c0y (P : Program) (elem size bytes : Nat) (x y : LArg) (f : Fr) (H : Heap) : Rs := match zD H size (mC f y) with
 | some (n, l) => c2E P elem size bytes (mC f x) H n l
 | none => .no
def c0E (t : TypeId) (cs : List Value) (_ : Fr) (H : Heap) : Rs := .th (.pointer (some ⟨H.length, 0, some cs.length⟩)) (rB H t cs)
def evF (f : Fr) : Operand → Value
 | .tmp t => nK (kL t) f
 | .const v => v
 | .global g => .pointer (some ⟨g, 0, none⟩)
 | .func k => .func (.func k) #[] #[]
def c5A (P : Program) (o : Oper) (f : Fr) (H : Heap) : Rs := match c0q P o (evF f) H with
 | some (v, H1) => .th v H1
 | none => .no
def a3L {α : Type} (f : Fr) (l : List LArg) : (List Value → α) → α := List.rec (motive := fun _ => (List Value → α) → α) (fun K => K []) (fun x _ ih K => oB (mC f x) fun v => ih fun l => K (v :: l)) l
structure Calls' where
 fn : Pth → FuncId → List Value → Heap → Rs
 rd : Nat → List Value → Heap → Rs
def c0G (C : Calls') (k : FuncId) (p : Pth) (args : List LArg) (f : Fr) (H : Heap) : Rs := a3L f args fun l => C.fn p k l H
def a7Z (C : Calls') (l : List Value) (H : Heap) (g : Value) : Rs := match g with
 | .func (.func k) ⟨a⟩ ⟨b⟩ => jW k fun k => lH (kL k) fun p => C.fn p k (a4s a (a4s l b)) H
 | .func (.yield L) _ _ => C.rd L l H
 | _ => .no
def c1L (C : Calls') (g : LArg) (args : List LArg) (f : Fr) (H : Heap) : Rs := a3L f args fun l => a7Z C l H (mC f g)
def c5g (_ : Fr) (_ : Heap) : Rs := .no
def opF (P : Program) (C : Calls') (o : LOp) : Fr → Heap → Rs :=
 LOp.rec (motive := fun _ => Fr → Heap → Rs) c5g hMv b6m c0H c5M b1o b2P hSt hFa b9S c1g c0X hF1 hFn c0v b5V (c0y P) c0E (c0G C) (c1L C) (c5A P) o
inductive Rf where
 | no
 | ok (f : Fr) (H : Heap)
def uA {α : Type} (d : Option Pth) (v : Value) (f : Fr) (K : Fr → α) : α := Option.rec (motive := fun _ => α) (K f) (fun p => pD v p f K) d
def b0n {α : Type} (no : α) (d : Option Pth) (f : Fr) (K : Fr → Heap → α) (r : Rs) : α :=
 Rs.rec (motive := fun _ => α) no (fun v H => uA d v f fun f => K f H) (fun v H => xR v fun v => nC H fun H => uA d v f fun f => K f H) r
def isB (v : Value) (w : Bool) : Bool := match v with
 | .bool b => Bool.rec (motive := fun _ => Bool) (Bool.rec (motive := fun _ => Bool) true false w) w b
 | _ => false
def yG (P : Program) (C : Calls') (ops : LOps) : Fr → Heap → Rf := LOps.rec (motive := fun _ => Fr → Heap → Rf)
 (fun f H => .ok f H)
 (fun d o _ ih f H => b0n .no d f ih (opF P C o f H))
 (fun p w d o _ ih f H => nI (isB (nK p f) w) (uA d undef f fun f => ih f H) (b0n .no d f ih (opF P C o f H))) ops
inductive Rt where
 | no
 | ok (tr : List (Fr × Heap × Value)) (f : Fr) (H : Heap)
def b0P (tr : List (Fr × Heap × Value)) (f0 : Fr) (H0 : Heap) (d : Option Pth) (K : List (Fr × Heap × Value) → Fr → Heap → Rt) (r : Rs) : Rt :=
 Rs.rec (motive := fun _ => Rt) .no (fun v H => uA d v f0 fun f => K ((f0, H0, v) :: tr) f H) (fun v H => xR v fun v => nC H fun H => uA d v f0 fun f => K ((f0, H0, v) :: tr) f H) r
def qQ (P : Program) (C : Calls') (ops : LOps) : List (Fr × Heap × Value) → Fr → Heap → Rt := LOps.rec (motive := fun _ => List (Fr × Heap × Value) → Fr → Heap → Rt)
 (fun tr f H => .ok tr f H)
 (fun d o _ ih tr f H => b0P tr f H d ih (opF P C o f H))
 (fun p w d o _ ih tr f H => nI (isB (nK p f) w) (uA d undef f fun f1 => ih ((f, H, undef) :: tr) f1 H) (b0P tr f H d ih (opF P C o f H))) ops
def b8Z (v : Value) (r : Rs) : Bool := Rs.rec (motive := fun _ => Bool) false (fun w _ => veq w v) (fun w _ => veq w v) r
def b5y (f : Fr) (g : Option (Pth × Bool)) : Bool := match g with
 | none => true
 | some (p, w) => isB (nK p f) w
def b3T (P : Program) (C : Calls') (tr : List (Fr × Heap × Value)) (H1 : Heap) (x : Nat × Option Nat × Option (Pth × Bool) × LOp) : Bool :=
 match a0E tr x.1 with
 | some (f, _, v) => nI (b5y f x.2.2.1) true (match x.2.1 with
   | none => b8Z v (opF P C x.2.2.2 f H1)
   | some m => match a0E tr m with
     | some (_, H, _) => b8Z v (opF P C x.2.2.2 f H)
     | none => false)
 | none => false
def b3z {α : Type} (p : α → Bool) (l : List α) : Bool := List.rec (motive := fun _ => Bool) true (fun x _ ih => nI (p x) false ih) l
inductive Rc where
 | no
 | ok (e : Ex) (f : Fr) (H : Heap)
def c2M (r : Rf) : Rc := Rf.rec (motive := fun _ => Rc) .no (fun f H => .ok .normal f H) r
def b9o (P : Program) (C : Calls') (tab : List (Nat × Option Nat × Option (Pth × Bool) × LOp)) (r : Rt) : Rc := Rt.rec (motive := fun _ => Rc) .no (fun tr f H => nI (b3z (b3T P C tr H) tab) .no (.ok .normal f H)) r
def oL {α : Type} (no : α) (l : List Value) : List Pth → Fr → (Fr → α) → α := List.rec (motive := fun _ => List Pth → Fr → (Fr → α) → α) (fun _ f K => K f)
 (fun v _ ih ps f K => List.rec (motive := fun _ => α) no (fun p ps _ => pD v p f fun f => ih ps f K) ps) l
def a3Q (H : Heap) (f : Fr) (r : LRes) : Rs := LRes.rec (motive := fun _ => Rs) (fun p => oB (nK p f) fun v => .ok v H) (fun p => b1o (.t p) f H) (fun n p => b2P n (.t p) f H) r
def b3B (H : Heap) (f : Fr) (l : List LRes) : (List Value → Rs) → Rs := List.rec (motive := fun _ => (List Value → Rs) → Rs) (fun K => K []) (fun r _ ih K => Rs.rec (motive := fun _ => Rs) .no (fun v _ => ih fun l => K (v :: l)) (fun _ _ => .no) (a3Q H f r)) l
def noT (v : Value) : Bool := match v with | .tuple _ => false | _ => true
def a5L (l : List LRes) (f : Fr) (H : Heap) : Rs := match l with
 | [r] => a3Q H f r
 | l => b3B H f l fun vs => nI (b3z noT vs) .no (.ok (.tuple ⟨vs⟩) H)
def b9K (l : List LRes) (r : Rc) : Rs := match r with
 | .ok .normal f H => a5L l f H
 | .ok .ret f H => a5L l f H
 | _ => .no
abbrev pM := List LEnv → LCode → Fr → Heap → Rc
def c0B (P : Program) (k : FuncId) (args : List Value) (H : Heap) : Rs := match pL P k args H with
 | some (v, H1) => .th v H1
 | none => .no
def mG (T : LT) (ih : pM) (E : List LEnv) (p : Pth) (args : List Value) (H : Heap) : Rs := match a1k p T with
 | some g => oL .no args g.ps .e fun f => b9K g.res (ih E g.body f H)
 | none => .no
def b4i (P : Program) (T : LT) (ih : pM) (E : List LEnv) (p : Pth) (k : FuncId) (args : List Value) (H : Heap) : Rs := match a1k p T with
 | some g => oL .no args g.ps .e fun f => b9K g.res (ih E g.body f H)
 | none => c0B P k args H
def b5Z (E : List LEnv) (L : Nat) : Option LEnv := List.rec (motive := fun _ => Option LEnv) none (fun e _ ih => nI (Nat.beq e.L L) ih (some e)) E
def b9z (e : Ex) : Option Code := match e with | .normal => none | .ret => some .ret | .exit id => some (.exit id)
def a1d (L : Nat) (e : Ex) (H : Heap) : Rs := match iM H L with
 | some (.loop ⟨_, _, fn, tmps, ps, a, b, d⟩) => match b9z e with
   | none => .th (.bool true) (hset H L (.loop ⟨.ready, none, fn, tmps, ps, a, b, d⟩))
   | some c => .th (.bool false) (hset H L (.loop ⟨.done, some c, fn, tmps, ps, a, b, d⟩))
 | _ => .no
def b2b (L : Nat) (r : Rc) : Rs := match r with
 | .ok e _ H => a1d L e H
 | .no => .no
def yW (ih : pM) (E : List LEnv) (en : LEnv) (f : Fr) (H : Heap) : Rs := match iM H en.L with
 | some (.loop ⟨.ready, p, fn, tmps, ps, a, b, d⟩) => nC (hset H en.L (.loop ⟨.busy, p, fn, tmps, ps, a, b, d⟩)) fun H => b2b en.L (ih E en.b f H)
 | _ => .no
def sJ (ih : pM) (E : List LEnv) (en : LEnv) (r : Rc) : Rs := match r with
 | .ok .normal f H => yW ih E en f H
 | _ => .no
def a8t (ih : pM) (E : List LEnv) (L : Nat) (args : List Value) (H : Heap) : Rs := match b5Z E L with
 | some en => match iM H L with
   | some (.loop ⟨.ready, _, _, ⟨tmps⟩, ps, _, _, _⟩) => nI (a3h args ps.size) .no (oL .no tmps en.ps .e fun f => oL .no args en.pp f fun f => sJ ih E en (ih E en.a f H))
   | _ => .no
 | none => .no
def yT (P : Program) (T : LT) (ih : pM) (E : List LEnv) : Calls' := ⟨b4i P T ih E, a8t ih E⟩
def c4S (_ : Fr) (_ : Heap) : Rc := .no
def c2H (f : Fr) (H : Heap) : Rc := .ok .normal f H
def c5F (P : Program) (T : LT) (ih : pM) (E : List LEnv) (ops : LOps) (f : Fr) (H : Heap) : Rc := c2M (yG P (yT P T ih E) ops f H)
def c5k (P : Program) (T : LT) (ih : pM) (E : List LEnv) (ops : LOps) (tab : List (Nat × Option Nat × Option (Pth × Bool) × LOp)) (f : Fr) (H : Heap) : Rc := b9o P (yT P T ih E) tab (qQ P (yT P T ih E) ops [] f H)
def b6U (ih : pM) (E : List LEnv) (b : LCode) (r : Rc) : Rc := match r with
 | .ok .normal f H => ih E b f H
 | r => r
def c5N (ih : pM) (E : List LEnv) (a b : LCode) (_ _ : Fr → Heap → Rc) (f : Fr) (H : Heap) : Rc := b6U ih E b (ih E a f H)
def b4W (ih : pM) (E : List LEnv) (c : LArg) (x y : LCode) (_ _ : Fr → Heap → Rc) (f : Fr) (H : Heap) : Rc := match mC f c with
 | .bool t => ih E (Bool.rec (motive := fun _ => LCode) y x t) f H
 | _ => .no
def c3A (id : Nat) (r : Rc) : Rc := match r with
 | .ok (.exit i) f H => .ok (Bool.rec (motive := fun _ => Ex) (.exit i) .normal (Nat.beq i id)) f H
 | r => r
def c0x (ih : pM) (E : List LEnv) (id : Nat) (b : LCode) (_ : Fr → Heap → Rc) (f : Fr) (H : Heap) : Rc := c3A id (ih E b f H)
def c2b (ih : pM) (E : List LEnv) (b : LCode) (_ : Fr → Heap → Rc) (f : Fr) (H : Heap) : Rc := b6U ih E (.loop b) (ih E b f H)
def c2Q (id : Nat) (f : Fr) (H : Heap) : Rc := .ok (.exit id) f H
def c4I (f : Fr) (H : Heap) : Rc := .ok .ret f H
def frL {α : Type} (f : Fr) (ps : List Pth) : (List Value → α) → α := List.rec (motive := fun _ => (List Value → α) → α) (fun K => K []) (fun p _ ih K => oB (nK p f) fun v => ih fun l => K (v :: l)) ps
def tL (L : Nat) (f : Fr) (H : Heap) : Rc := match iM H L with
 | some (.loop ⟨.ready, none, fn, tmps, ps, a, b, d⟩) => nC (hset H L (.loop ⟨.exhausted, none, fn, tmps, ps, a, b, d⟩)) fun H => .ok .normal f H
 | some (.loop ⟨.done, none, fn, tmps, ps, a, b, d⟩) => nC (hset H L (.loop ⟨.exhausted, none, fn, tmps, ps, a, b, d⟩)) fun H => .ok .normal f H
 | some (.loop ⟨.done, some .ret, fn, tmps, ps, a, b, d⟩) => nC (hset H L (.loop ⟨.exhausted, some .ret, fn, tmps, ps, a, b, d⟩)) fun H => .ok .ret f H
 | some (.loop ⟨.done, some (.exit id), fn, tmps, ps, a, b, d⟩) => nC (hset H L (.loop ⟨.exhausted, some (.exit id), fn, tmps, ps, a, b, d⟩)) fun H => .ok (.exit id) f H
 | _ => .no
def b1O (L : Nat) (f : Fr) (r : Rs) : Rc := match r with
 | .no => .no
 | .ok _ H => tL L f H
 | .th _ H => nC H fun H => tL L f H
def b0D (T : LT) (ih : pM) (E : List LEnv) (f : Fr) (L : Nat) (k : FuncId) (args : List Value) (H : Heap) : Rc := lH (kL k) fun p => b1O L f (mG T ih E p args H)
def a9Q (T : LT) (ih : pM) (E : List LEnv) (g : LArg) (ps pp : List Pth) (params : Array Tmp) (assign body : Code) (a b : LCode) (_ _ : Fr → Heap → Rc) (f : Fr) (H : Heap) : Rc := match mC f g with
 | .func (.func k) ⟨x⟩ ⟨y⟩ => jW H.length fun L => frL f ps fun l => nC (H.cons (.loop ⟨.ready, none, 0, ⟨l⟩, params, assign, body, 0⟩)) fun H1 =>
    jW k fun k => b0D T ih (⟨L, ps, pp, a, b⟩ :: E) f L k (a4s x (.func (.yield L) #[] #[] :: y)) H1
 | _ => .no
def b0s (P : Program) (T : LT) (ih : pM) (E : List LEnv) (c : LCode) : Fr → Heap → Rc :=
 LCode.rec (motive := fun _ => Fr → Heap → Rc) c4S c2H (c5F P T ih E) (c5k P T ih E) (c5N ih E) (b4W ih E) (c0x ih E) (c2b ih E) c2Q c4I (a9Q T ih E) c
def exF (P : Program) (T : LT) (n : Nat) : pM := Nat.rec (motive := fun _ => pM) (fun _ _ _ _ => .no) (fun _ ih => b0s P T ih) n
section
variable {α : Type}
def lI (x : Operand) (K : LArg → α) : α := match x with
 | .tmp t => lH (kL t) fun p => K (.t p)
 | .const v => K (.c v)
 | .global g => K (.c (.pointer (some ⟨g, 0, none⟩)))
 | .func k => K (.c (.func (.func k) #[] #[]))
def a4N (l : List Operand) : (List LArg → α) → α := List.rec (motive := fun _ => (List LArg → α) → α) (fun K => K []) (fun x _ ih K => lI x fun x => ih fun l => K (x :: l)) l
def a2K (o : Option Nat) (d : α) (K : Nat → α) : α := match o with
 | some n => jW n K
 | none => d
def c5t (k : IntKind) (a b : Int) : Option Value := some (.int k (vD k (b6X a b)))
def c4R (k : IntKind) (a b : Int) : Option Value := some (.int k (vD k (b6S a b)))
def c4n (a b : Int) : Int := match a, b with
 | .ofNat a, .ofNat b => .ofNat (Nat.mul a b)
 | a, b => a * b
def c4q (k : IntKind) (a b : Int) : Option Value := some (.int k (vD k (c4n a b)))
def c3E (a b : Int) : Int := match a, b with
 | .ofNat a, .ofNat b => .ofNat (Nat.div a b)
 | a, b => a.tdiv b
def c3S (a b : Int) : Int := match a, b with
 | .ofNat a, .ofNat b => .ofNat (Nat.mod a b)
 | a, b => a.tmod b
def b8F (k : IntKind) (a b : Int) : Option Value := match eqI b 0 with | true => none | false => some (.int k (vD k (c3E a b)))
def b7K (k : IntKind) (a b : Int) : Option Value := match eqI b 0 with | true => none | false => some (.int k (c3S a b))
def c5f (_ : IntKind) (a b : Int) : Option Value := some (.bool (eqI a b))
def c5T (_ : IntKind) (a b : Int) : Option Value := some (.bool (!eqI a b))
def c5R (_ : IntKind) (a b : Int) : Option Value := some (.bool (ltI a b))
def c4L (_ : IntKind) (a b : Int) : Option Value := some (.bool (!ltI b a))
def c5n (_ : IntKind) (a b : Int) : Option Value := some (.bool (ltI b a))
def c4Z (_ : IntKind) (a b : Int) : Option Value := some (.bool (!ltI a b))
def b6T (op : BinOp) : Option (IntKind → Int → Int → Option Value) := match op with
 | .add => some c5t
 | .sub => some c4R
 | .mul => some c4q
 | .quo => some b8F
 | .rem => some b7K
 | .eql => some c5f
 | .neq => some c5T
 | .lss => some c5R
 | .leq => some c4L
 | .gtr => some c5n
 | .geq => some c4Z
 | _ => none
def c0p (d : Option TypeDesc) : Bool := match d with | some (.int _) => true | _ => false
def c6c (P : Program) (s : TypeId) (f : Nat) (d : α) (K1 : Nat → α) (Kn : Nat → Nat → α) : α := match nO P s f with
 | some fd => jW fd.offset fun off => match jI P fd.type with
   | some true => a2K (iA P fd.type) d fun n => Kn off n
   | some false => K1 off
   | none => d
 | none => d
def b4P (P : Program) (o : Oper) (c : Call) (K : LOp → α) : α := match c.callee with
 | .value (.func k) => lH (kL k) fun p => a4N c.args.toList fun l => K (.callF k p l)
 | .value g => lI g fun g => a4N c.args.toList fun l => K (.callV g l)
 | .builtin .len => nI (c.args.size == 1 && c.argTypes.size == 1) (K (.gen o)) (match P.underlying (c.argTypes.getD 0 0) with
    | some (.slice _) => lI (c.args.getD 0 (.tmp 0)) fun x => K (.len x)
    | some .string => lI (c.args.getD 0 (.tmp 0)) fun x => K (.slen x)
    | _ => K (.gen o))
 | .builtin .append => nI (c.args.size == 2 && c.argTypes.size == 2 && ((P.underlying (c.argTypes.getD 1 0)).map pC) == some true) (K (.gen o))
    (match iD P (c.argTypes.getD 0 0) with
     | some elem => a2K (iA P elem) (K (.gen o)) fun size => a2K (nH P elem) (K (.gen o)) fun bytes => match iX P elem with
       | some z => nI (z.cells.size == size && size != 0) (K (.gen o)) (jW elem fun elem => lI (c.args.getD 0 (.tmp 0)) fun x => lI (c.args.getD 1 (.tmp 0)) fun y => K (.app elem size bytes x y))
       | none => K (.gen o)
     | none => K (.gen o))
 | _ => K (.gen o)
def c2a (P : Program) (o : Oper) (K : LOp → α) : α := match o.op with
 | .move x => lI x fun x => K (.mv x)
 | .assign x => lI x fun x => K (.mv x)
 | .pick c a b => lI c fun c => lI a fun a => lI b fun b => K (.pick c a b)
 | .binOp op t x y _ => nI (c0p (P.underlying t)) (K (.gen o)) (match b6T op with
   | some g => lI x fun x => lI y fun y => K (.bin g x y)
   | none => K (.gen o))
 | .load t x => match jI P t with
   | some true => a2K (iA P t) (K (.gen o)) fun n => lI x fun x => K (.ldn n x)
   | some false => lI x fun x => K (.ld1 x)
   | none => K (.gen o)
 | .store t x y => a2K (iA P t) (K (.gen o)) fun n => lI x fun x => lI y fun y => K (.st n x y)
 | .fieldAddr s x f => match nO P s f with
   | some fd => match iA P fd.type with
     | some 0 => K (.gen o)
     | some _ => jW fd.offset fun off => lI x fun x => K (.fa off x)
     | none => K (.gen o)
   | none => K (.gen o)
 | .indexAddr t x i => match P.underlying t with
   | some (.slice elem) => a2K (iA P elem) (K (.gen o)) fun size => lI x fun x => lI i fun i => K (.ixs size x i)
   | some (.array n elem) => a2K (iA P elem) (K (.gen o)) fun size => lI x fun x => lI i fun i => K (.ixa n size x i)
   | _ => K (.gen o)
 | .extract t i => jW i fun i => lI t fun t => K (.ext i t)
 | .call c => b4P P o c K
 | _ => K (.gen o)
def xS (P : Program) (o : Oper) (K : LOp → α) : α := nI (o.op.operands.toList.all iK) (K .bad) (c2a P o K)
def a5U (k : Nat) (d : Option Tmp) (no : α) (K : Option Pth → α) : α := match d with
 | none => K none
 | some t => nI (Nat.blt t k) no (lH (kL t) fun p => K (some p))
def uF (P : Program) (k : Nat) (ops : Array Oper) (l : List Oper) : (LOps → α) → α → α := List.rec (motive := fun _ => (LOps → α) → α → α) (fun K _ => K .nil)
 (fun o _ ih K no => a5U k o.dst no fun d => xS P o fun o' => match o.guard with
   | none => ih (fun r => K (.cons d o' r)) no
   | some (j, w) => match (ops[j]?).bind (·.dst) with
     | some t => nI (Nat.blt t k) no (lH (kL t) fun p => zY w fun w => ih (fun r => K (.gcons p w d o' r)) no)
     | none => no) l
def loG (k : Nat) (ops : Array Oper) (g : Option (Nat × Bool)) (no : α) (K : Option (Pth × Bool) → α) : α := match g with
 | none => K none
 | some (j, w) => match (ops[j]?).bind (·.dst) with
   | some t => nI (Nat.blt t k) no (lH (kL t) fun p => zY w fun w => K (some (p, w)))
   | none => no
def sZ (P : Program) (k : Nat) (ops : Array Oper) (N : Nat) (tab : List (Nat × Nat)) : (List (Nat × Option Nat × Option (Pth × Bool) × LOp) → α) → α → α := List.rec (motive := fun _ => (List (Nat × Option Nat × Option (Pth × Bool) × LOp) → α) → α → α) (fun K _ => K [])
 (fun x _ ih K no => match ops[x.1]? with
   | some o => loG k ops o.guard no fun g => xS P o fun o' => jW (N - 1 - x.1) fun i => nI (Nat.blt x.2 N) (ih (fun l => K ((i, none, g, o') :: l)) no) (jW (N - 1 - x.2) fun m => ih (fun l => K ((i, some m, g, o') :: l)) no)
   | none => no) tab
def b6i (k : Nat) : (List Pth → α) → α := Nat.rec (motive := fun _ => (List Pth → α) → α) (fun K => K []) (fun n ih K => lH (kL n) fun p => ih fun l => K (p :: l)) k
def c0O {β : Type} (l : List β) : List β → (List β → α) → α := List.rec (motive := fun _ => List β → (List β → α) → α) (fun a K => K a) (fun x _ ih a K => ih (x :: a) K) l
def b2d (k : Nat) (K : List Pth → α) : α := b6i k fun l => c0O l [] K
def wA (k : Nat) (l : List Tmp) : (List Pth → α) → α → α := List.rec (motive := fun _ => (List Pth → α) → α → α) (fun K _ => K []) (fun t _ ih K no => nI (Nat.blt t k) no (lH (kL t) fun p => ih (fun l => K (p :: l)) no)) l
def mS (P : Program) (k : Nat) (c : Code) : (LCode → α) → α := Code.rec (motive := fun _ => (LCode → α) → α)
 (fun K => K .skip)
 (fun _ ops d K => Bool.rec (motive := fun _ => α) (uF P k ops ops.toList (fun l => K (.reg l)) (K .bad))
   (match mO P ops with
     | some [] => uF P k ops ops.toList (fun l => K (.reg l)) (K .bad)
     | some tab => uF P k ops ops.toList (fun l => sZ P k ops ops.size tab (fun t => K (.drw l t)) (K .bad)) (K .bad)
     | none => K .bad) d)
 (fun _ _ iha ihb K => iha fun a => ihb fun b => K (.seq a b))
 (fun c _ _ ihx ihy K => nI (iK c) (K .bad) (lI c fun c => ihx fun x => ihy fun y => K (.cond c x y)))
 (fun id _ ih K => jW id fun id => ih fun b => K (.block id b))
 (fun _ ih K => ih fun b => K (.loop b))
 (fun g ps assign body iha ihb K => nI (iK g) (K .bad) (lI g fun g' => b2d k fun pp => wA k ps.toList (fun q => iha fun a => ihb fun b => K (.range g' pp q ps assign body a b)) (K .bad)))
 (fun id K => jW id fun id => K (.exit id))
 (fun _ _ K => K .bad)
 (fun _ K => K .skip)
 (fun _ K => K .bad)
 (fun K => K .ret)
 (fun _ K => K .bad) c
def a0D (P : Program) (l : List ResultVar) : (List LRes → α) → α → α := List.rec (motive := fun _ => (List LRes → α) → α → α) (fun K _ => K [])
 (fun r _ ih K no => match r with
   | .tmp t => lH (kL t) fun p => ih (fun l => K (.t p :: l)) no
   | .cell a t => match jI P t with
     | some true => a2K (iA P t) no fun n => lH (kL a) fun p => ih (fun l => K (.cn n p :: l)) no
     | some false => lH (kL a) fun p => ih (fun l => K (.c1 p :: l)) no
     | none => no) l
def a1w (P : Program) (f : FuncId) (no : α) (K : LFunc → α) : α := match P.funcs[f]? with
 | some fn => match fn.body with
   | some c => nI (fn.name == "runtime.NumGoroutine") (a0D P fn.results.toList (fun res => b2d fn.ntmps fun ps => mS P fn.ntmps c fun b => K ⟨ps, b, res⟩) no) no
   | none => no
 | none => no
def sS (P : Program) (fs : List FuncId) : LT → (LT → α) → α := List.rec (motive := fun _ => LT → (LT → α) → α) (fun T K => K T)
 (fun f _ ih T K => a1w P f (ih T K) fun g => lH (kL f) fun p => rH g p T fun T => ih T K) fs
end
end
end Go.Ds
namespace Go.Ds
section
variable {α : Type}
theorem uK (f k : Nat) : a4S (f + 1) (k + 1) = if k % 2 = 0 then .l (a4S f (k / 2)) else .r (a4S f (k / 2)) := by
 show Bool.rec (motive := fun _ => Pth) (.r (a4S f (k / 2))) (.l (a4S f (k / 2))) (Nat.beq (k % 2) 0) = _
 by_cases h : k % 2 = 0
 ·rw [if_pos h, h]; rfl
 ·rw [if_neg h]
  have : Nat.beq (k % 2) 0 = false := fK.2 fun e => h (dK e)
  rw [this]
theorem a2W (f : Nat) : a4S f 0 = .z := by cases f <;> rfl
theorem a1H : ∀ (f g a b : Nat), a ≤ f → b ≤ g → a4S f a = a4S g b → a = b
 | _, _, 0, 0, _, _, _ => rfl
 | 0, _, a + 1, _, h, _, _ => by omega
 | _, 0, _, b + 1, _, h, _ => by omega
 | f, g + 1, 0, b + 1, _, _, h => by
   rw [a2W, uK] at h
   split at h <;> cases h
 | f + 1, g, a + 1, 0, _, _, h => by
   rw [a2W, uK] at h
   split at h <;> cases h
 | f + 1, g + 1, a + 1, b + 1, ha, hb, h => by
   rw [uK, uK] at h
   by_cases h1 : a % 2 = 0
   ·rw [if_pos h1] at h
    by_cases h2 : b % 2 = 0
    ·rw [if_pos h2] at h
     injection h with h
     have := a1H f g (a / 2) (b / 2) (by omega) (by omega) h
     omega
    ·rw [if_neg h2] at h; cases h
   ·rw [if_neg h1] at h
    by_cases h2 : b % 2 = 0
    ·rw [if_pos h2] at h; cases h
    ·rw [if_neg h2] at h
     injection h with h
     have := a1H f g (a / 2) (b / 2) (by omega) (by omega) h
     omega
theorem b0g {a b : Nat} (h : kL a = kL b) : a = b := a1H _ _ _ _ (dc _) (dc _) h
theorem lD (p : Pth) (K : Pth → α) : lH p K = K p := by
 induction p generalizing K with
 | z => rfl
 | l p ih => exact ih _
 | r p ih => exact ih _
theorem mF (v : Value) (K : Value → α) : oB v K = K v := by cases v <;> rfl
theorem rR (v : Value) (p : Pth) (f : Fr) (K : Fr → α) : pD v p f K = K (pD v p f fun f => f) := by
 induction p generalizing f α with
 | z => cases f <;> rfl
 | l p ih =>
   cases f with
   | e =>
     show pD v p .e (fun l => K (.n undef l .e)) = K (pD v p .e fun l => .n undef l .e)
     rw [ih, ih (K := fun l => Fr.n undef l .e)]
   | n w l r =>
     show pD v p l (fun l => K (.n w l r)) = K (pD v p l fun l => .n w l r)
     rw [ih, ih (K := fun l => Fr.n w l r)]
 | r p ih =>
   cases f with
   | e =>
     show pD v p .e (fun l => K (.n undef .e l)) = K (pD v p .e fun l => .n undef .e l)
     rw [ih, ih (K := fun l => Fr.n undef .e l)]
   | n w l r =>
     show pD v p r (fun r => K (.n w l r)) = K (pD v p r fun r => .n w l r)
     rw [ih, ih (K := fun r => Fr.n w l r)]
theorem tY (p : Pth) : nK p .e = undef := by
 cases p <;> rfl
theorem b1W (v : Value) (p q : Pth) (f : Fr) : (q = p → nK q (pD v p f fun f => f) = v) ∧ (q ≠ p → nK q (pD v p f fun f => f) = nK q f) := by
 induction p generalizing f q with
 | z =>
   refine ⟨fun h => ?_, fun h => ?_⟩
   ·subst h; cases f <;> rfl
   ·cases q with
    | z => exact absurd rfl h
    | l q =>
      cases f with
      | e => show nK q .e = undef; exact tY q
      | n => rfl
    | r q =>
      cases f with
      | e => show nK q .e = undef; exact tY q
      | n => rfl
 | l p ih =>
   have h1 : ∀ f, pD v (.l p) f (fun f => f) = match f with | .e => .n undef (pD v p .e fun f => f) .e | .n w l r => .n w (pD v p l fun f => f) r := fun f => by
    cases f with
    | e => exact rR v p .e fun l => Fr.n undef l .e
    | n w l r => exact rR v p l fun l => Fr.n w l r
   rw [h1]
   cases q with
   | z => exact ⟨fun h => (nomatch h), fun _ => by cases f <;> rfl⟩
   | r q =>
     refine ⟨fun h => (nomatch h), fun _ => ?_⟩
     cases f with
     | e => show nK q .e = undef; exact tY q
     | n => rfl
   | l q =>
     refine ⟨fun h => ?_, fun h => ?_⟩
     ·injection h with h
      cases f with
      | e => exact (ih q .e).1 h
      | n w l r => exact (ih q l).1 h
     ·have h : q ≠ p := fun e => h (by rw [e])
      cases f with
      | e => show nK q (pD v p .e fun f => f) = undef; rw [(ih q .e).2 h, tY]
      | n w l r => exact (ih q l).2 h
 | r p ih =>
   have h1 : ∀ f, pD v (.r p) f (fun f => f) = match f with | .e => .n undef .e (pD v p .e fun f => f) | .n w l r => .n w l (pD v p r fun f => f) := fun f => by
    cases f with
    | e => exact rR v p .e fun l => Fr.n undef .e l
    | n w l r => exact rR v p r fun r => Fr.n w l r
   rw [h1]
   cases q with
   | z => exact ⟨fun h => (nomatch h), fun _ => by cases f <;> rfl⟩
   | l q =>
     refine ⟨fun h => (nomatch h), fun _ => ?_⟩
     cases f with
     | e => show nK q .e = undef; exact tY q
     | n => rfl
   | r q =>
     refine ⟨fun h => ?_, fun h => ?_⟩
     ·injection h with h
      cases f with
      | e => exact (ih q .e).1 h
      | n w l r => exact (ih q r).1 h
     ·have h : q ≠ p := fun e => h (by rw [e])
      cases f with
      | e => show nK q (pD v p .e fun f => f) = undef; rw [(ih q .e).2 h, tY]
      | n w l r => exact (ih q r).2 h
def FAg (f : Fr) (l : List Value) : Prop := ∀ t, nK (kL t) f = get l t
def FRel (k : Nat) (f : Fr) (l : List Value) : Prop := l.length = k ∧ FAg f l
noncomputable def b3l (f : Fr) (t : Tmp) (v : Value) : Fr := pD v (kL t) f fun f => f
theorem a3c (f : Fr) (t u : Tmp) (v : Value) : nK (kL u) (b3l f t v) = if u = t then v else nK (kL u) f := by
 have h := b1W v (kL t) (kL u) f
 by_cases he : u = t
 ·rw [if_pos he]; exact h.1 (by rw [he])
 ·rw [if_neg he]; exact h.2 (fun e => he (b0g e))
theorem FRel.put {k : Nat} {f : Fr} {l : List Value} (h : FRel k f l) {t : Tmp} (ht : t < k) (v : Value) : FRel k (b3l f t v) (Go.Ds.put l (some t) v) := by
 refine ⟨by simp [Go.Ds.put, mR, h.1], fun u => ?_⟩
 rw [a3c, b0K]
 by_cases he : u = t
 ·subst he; rw [if_pos rfl, if_pos ⟨rfl, by rw [h.1]; exact ht⟩]
 ·rw [if_neg he, if_neg (fun hh => he (cR hh.1).symm)]; exact h.2 u
theorem FRel.set {k : Nat} {f : Fr} {l : List Value} (h : FRel k f l) {t : Tmp} (ht : t < k) (v : Value) : FRel k (b3l f t v) (l.set t v) := by
 have := h.put ht v
 simpa [Go.Ds.put, mR] using this
def Rs.Is (r : Rs) (v : Value) (H : Heap) : Prop := r = .ok v H ∨ r = .th v H
theorem Rs.ar {v : Value} {H : Heap} : ¬ Rs.no.Is v H := by rintro (h | h) <;> cases h
theorem Rs.aJ {v w : Value} {H H1 : Heap} (h : (Rs.ok v H).Is w H1) : w = v ∧ H1 = H := by
 rcases h with h | h
 ·injection h with a b; exact ⟨a.symm, b.symm⟩
 ·cases h
theorem Rs.aO {v w : Value} {H H1 : Heap} (h : (Rs.th v H).Is w H1) : w = v ∧ H1 = H := by
 rcases h with h | h
 ·cases h
 ·injection h with a b; exact ⟨a.symm, b.symm⟩
theorem kH (b : Bool) (no x : α) : nI b no x = if b = true then x else no := by cases b <;> rfl
theorem kV {b : Bool} {x : Rs} {v : Value} {H : Heap} (h : (nI b Rs.no x).Is v H) : b = true ∧ x.Is v H := by
 cases b with
 | false => exact absurd h Rs.ar
 | true => exact ⟨rfl, h⟩
theorem wZ {β : Type} : ∀ (cs : List β) (e : Nat), a5x cs e = decide (e ≤ cs.length)
 | [], 0 => rfl
 | [], e + 1 => by simp; rfl
 | _ :: _, 0 => rfl
 | _ :: cs, e + 1 => by show a5x cs e = _; rw [wZ cs e]; simp
theorem wX {β : Type} : ∀ (cs : List β) (e : Nat), a3h cs e = decide (e = cs.length)
 | [], 0 => rfl
 | [], e + 1 => by simp; rfl
 | _ :: _, 0 => by simp; rfl
 | _ :: cs, e + 1 => by show a3h cs e = _; rw [wX cs e]; simp
theorem xN {β : Type} : ∀ (cs : List β) (e : Nat), a0E cs e = cs[e]?
 | [], _ => rfl
 | _ :: _, 0 => rfl
 | _ :: cs, e + 1 => by show a0E cs e = _; rw [xN cs e]; simp
theorem a6b {β : Type} : ∀ (cs : List β) (e : Nat), b0T cs e = cs.drop e
 | [], e => by cases e <;> rfl
 | _ :: _, 0 => rfl
 | _ :: cs, e + 1 => by show b0T cs e = _; rw [a6b cs e]; rfl
theorem a6J {β : Type} : ∀ {cs : List β} {n : Nat} {K : List β → Rs} {v : Value} {H : Heap}, (a2t cs n K).Is v H → n ≤ cs.length ∧ (K (cs.take n)).Is v H
 | [], 0, K, v, H, h => ⟨dc _, h⟩
 | [], n + 1, K, v, H, h => absurd h Rs.ar
 | _ :: _, 0, K, v, H, h => ⟨eJ _, h⟩
 | c :: cs, n + 1, K, v, H, h => by
   have h' : (a2t cs n fun l => K (c :: l)).Is v H := h
   obtain ⟨h1, h2⟩ := a6J h'
   exact ⟨by simp; omega, h2⟩
theorem b7s {a b : IntKind} (h : Nat.beq (kIx a) (kIx b) = true) : a = b := by
 cases a <;> cases b <;> first | rfl | (exact absurd h (by decide))
theorem b6b (k : Nat) (K : List Pth → α) : b6i k K = K ((List.range k).map kL).reverse := by
 induction k generalizing K with
 | zero => rfl
 | succ n ih =>
   show lH (kL n) (fun p => b6i n fun l => K (p :: l)) = _
   rw [lD, ih, ed]
   simp
theorem b8Q {β : Type} (l : List β) : ∀ (a : List β) (K : List β → α), c0O l a K = K (l.reverse ++ a) := by
 induction l with
 | nil => intro a K; rfl
 | cons x l ih => intro a K; show c0O l (x :: a) K = _; rw [ih]; simp
theorem b0G (k : Nat) (K : List Pth → α) : b2d k K = K ((List.range k).map kL) := by
 unfold b2d; rw [b6b, b8Q]; simp
theorem oM (n : Nat) (d : α) (K : Nat → α) : a2K (some n) d K = K n := jP n K
def LK (H H' : Heap) : Prop := H.length ≤ H'.length ∧ ∀ A r', A < H.length → iM H' A = some (.loop r') →
 ∃ r, iM H A = some (.loop r) ∧ r'.assign = r.assign ∧ r'.body = r.body ∧ r'.params = r.params ∧ r'.tmps = r.tmps
theorem LK.refl (H : Heap) : LK H H := ⟨dc _, fun _ r _ h => ⟨r, h, rfl, rfl, rfl, rfl⟩⟩
theorem LK.trans {H H1 H2 : Heap} (h : LK H H1) (k : LK H1 H2) : LK H H2 := ⟨du h.1 k.1, fun A r' hA hr => by
 obtain ⟨r1, h1, a1, b1, c1, d1⟩ := k.2 A r' (dB hA h.1) hr
 obtain ⟨r, h2, a2, b2, c2, d2⟩ := h.2 A r1 hA h1
 exact ⟨r, h2, a1.trans a2, b1.trans b2, c1.trans c2, d1.trans d2⟩⟩
def Blk.cb : Blk → Bool
 | .loop _ => true
 | _ => false
theorem LK.hset (H : Heap) (A : Nat) {b : Blk} (hb : b.cb = false) : LK H (hset H A b) := by
 refine ⟨by rw [jF]; exact dc _, fun B r' hB h => ?_⟩
 by_cases he : A = B
 ·subst he; rw [iO _ hB] at h; injection h with h; subst h; cases hb
 ·rw [iW _ he] at h; exact ⟨r', h, rfl, rfl, rfl, rfl⟩
theorem LK.cons (H : Heap) (b : Blk) : LK H (H.cons b) := by
 refine ⟨by rw [length_cons]; omega, fun B r' hB h => ?_⟩
 rw [jG b hB] at h; exact ⟨r', h, rfl, rfl, rfl, rfl⟩
theorem LK.row (H : Heap) (ty : TypeId) (cs : List Value) : LK H (rB H ty cs) := by rw [kZ]; exact .cons _ _
theorem LK.loop {H : Heap} {L : Nat} {r r' : Loop} (h : iM H L = some (.loop r)) (e : r'.assign = r.assign ∧ r'.body = r.body ∧ r'.params = r.params ∧ r'.tmps = r.tmps) : LK H (Go.Ds.hset H L (.loop r')) := by
 refine ⟨by rw [jF]; exact dc _, fun B r2 hB hg => ?_⟩
 by_cases he : L = B
 ·subst he; rw [iO _ hB] at hg; injection hg with hg; injection hg with hg; subst hg; exact ⟨r, h, e⟩
 ·rw [iW _ he] at hg; exact ⟨r2, hg, rfl, rfl, rfl, rfl⟩
variable {P : Program}
theorem a6Y {H H' : Heap} {t : TypeId} {p v : Value} (h : qI P H t p v = some H') : LK H H' := by
 unfold qI at h
 split at h
 ·split at h
  ·dsimp only at h
   split at h
   ·injection h with h; subst h; exact .hset _ _ rfl
   ·cases h
  ·cases h
 ·cases h
theorem a3F {H H' : Heap} {t : TypeId} {v r : Value} (h : vV P H t v = some (r, H')) : LK H H' := by
 unfold vV at h
 dsimp only at h
 split at h
 ·injection h with h; injection h with _ h; subst h; exact .row _ _ _
 ·cases h
theorem a3X {H H' : Heap} {t : TypeId} {s x r : Value} (h : mZ P H t s x = some (r, H')) : LK H H' := by
 unfold mZ at h
 simp only [cU] at h
 obtain ⟨elem, _, size, _, bytes, _, z, _, ⟨n, l⟩, _, h⟩ := h
 try dsimp only at h
 split at h
 ·split at h
  ·split at h
   ·injection h with h; injection h with _ h; subst h; exact .refl _
   ·injection h with h; injection h with _ h; subst h; exact .row _ _ _
  ·cases h
 ·split at h
  ·split at h
   ·injection h with h; injection h with _ h; subst h; exact .hset _ _ rfl
   ·split at h
    ·injection h with h; injection h with _ h; subst h; exact .hset _ _ rfl
    ·cases h
  ·cases h
 ·cases h
theorem a7g {H H' : Heap} {t : TypeId} {v r : Value} (h : qB P H t v = some (r, H')) : LK H H' := by
 unfold qB at h
 split at h
 ·dsimp only at h
  rename_i n elem _
  have key : ∀ (b : Bool), (if b = true then some (Value.pointer (some ⟨H.length, 0, some v.cells.toList.length⟩), b3W H elem v.cells.toList) else none) = some (r, H') → LK H H' := by
   intro b h
   cases b
   ·cases h
   ·injection h with h; injection h with _ h; subst h; rw [a0S]; exact .cons _ _
  exact key _ h
 ·exact a3F h
theorem a4z {H H' : Heap} {t : TypeId} {x y r : Value} (h : uM P H t x y = some (r, H')) : LK H H' := by
 unfold uM at h
 split at h
 ·split at h
  ·split at h
   ·simp only [cZ] at h
    obtain ⟨_, _, h⟩ := h
    injection h with _ h; subst h; exact .hset _ _ rfl
   ·cases h
  ·cases h
 ·cases h
theorem a4C {H H' : Heap} {k : FuncId} {args : List Value} {r : Value} (h : pL P k args H = some (r, H')) : LK H H' := by
 unfold pL at h
 simp only [cU] at h
 obtain ⟨fn, _, h⟩ := h
 split at h
 case isFalse => cases h
 split at h
 ·split at h
  ·injection h with h; injection h with _ h; subst h; exact .refl _
  ·cases h
 split at h
 ·split at h
  ·split at h
   ·simp only [cU] at h
    obtain ⟨_, _, h⟩ := h
    split at h
    ·injection h with h; injection h with _ h; subst h; exact .row _ _ _
    ·cases h
   ·cases h
  ·cases h
 split at h
 ·split at h
  ·split at h
   ·split at h
    ·injection h with h; injection h with _ h; subst h; exact .refl _
    ·cases h
   ·cases h
  ·cases h
 ·cases h
theorem a8b {H H' : Heap} {t : TypeId} {s x r : Value} (h : a0C P H t s x = some (r, H')) : LK H H' := by
 unfold a0C at h
 simp only [cU] at h
 obtain ⟨elem, _, size, _, m, _, h⟩ := h
 try dsimp only at h
 split at h
 ·split at h
  ·injection h with h; injection h with _ h; subst h; exact .refl _
  ·cases h
 ·split at h
  ·injection h with h; injection h with _ h; subst h; exact .refl _
  ·simp only [cU] at h
   obtain ⟨l, _, h⟩ := h
   split at h
   ·split at h
    ·injection h with h; injection h with _ h; subst h; exact .hset _ _ rfl
    ·cases h
   ·cases h
 ·cases h
theorem a7n {H H' : Heap} {t : TypeId} {x r : Value} (h : sD P H t x = some (r, H')) : LK H H' := by
 unfold sD at h
 simp only [cU] at h
 obtain ⟨elem, _, z, _, h⟩ := h
 split at h
 ·injection h with h; injection h with _ h; subst h; exact .refl _
 ·split at h
  ·injection h with h; injection h with _ h; subst h; exact .refl _
  ·try dsimp only at h
   split at h
   ·split at h
    ·injection h with h; injection h with _ h; subst h; exact .hset _ _ rfl
    ·cases h
   ·cases h
 ·cases h
theorem b1L {H H' : Heap} {t : TypeId} {m k v : Value} (h : a0M P H t m k v = some H') : LK H H' := by
 unfold a0M at h
 simp only [cU] at h
 obtain ⟨⟨kt, et⟩, _, h⟩ := h
 dsimp only at h
 split at h
 ·split at h
  ·split at h
   ·simp only [cU] at h
    obtain ⟨r, _, h⟩ := h
    split at h
    ·simp only [cU] at h
     obtain ⟨e, _, h⟩ := h
     split at h
     ·injection h with h; subst h; exact .hset _ _ rfl
     ·cases h
    ·injection h with h; subst h; exact .hset _ _ rfl
   ·cases h
  ·cases h
 ·cases h
theorem a6E {H H' : Heap} {t : TypeId} {m k r : Value} (h : sE P H t m k = some (r, H')) : LK H H' := by
 unfold sE at h
 simp only [cU] at h
 obtain ⟨⟨kt, et⟩, _, h⟩ := h
 dsimp only at h
 split at h
 ·split at h
  ·split at h
   ·simp only [cU] at h
    obtain ⟨r, _, h⟩ := h
    split at h
    ·simp only [cU] at h
     obtain ⟨e, _, h⟩ := h
     split at h
     ·injection h with h; injection h with _ h; subst h; exact .hset _ _ rfl
     ·cases h
    ·simp only [cU] at h
     obtain ⟨z, _, h⟩ := h
     split at h
     ·injection h with h; injection h with _ h; subst h; exact .hset _ _ rfl
     ·cases h
   ·cases h
  ·cases h
 ·cases h
theorem a6D {H H' : Heap} {m b v : Value} (h : qV H m b v = some H') : LK H H' := by
 unfold qV at h
 split at h
 ·split at h
  ·split at h
   ·simp only [cU] at h
    obtain ⟨e, _, h⟩ := h
    injection h with h; subst h; exact .hset _ _ rfl
   ·cases h
  ·cases h
 ·cases h
theorem a2F {H H' : Heap} {t : TypeId} {o : Option Value} {r : Value} (h : oZ P H t o = some (r, H')) : LK H H' := by
 unfold oZ at h
 simp only [cU] at h
 obtain ⟨_, _, h⟩ := h
 split at h
 ·injection h with h; injection h with _ h; subst h; exact .cons _ _
 ·injection h with h; injection h with _ h; subst h; exact .cons _ _
 ·cases h
theorem a5B {H H' : Heap} {o : Oper} {l : List Value} {r : Value} (h : kE P o l H = some (r, H')) : H' = H := by
 unfold kE at h
 split at h
 ·split at h
  ·split at h
   ·injection h with h; injection h with _ h; exact h.symm
   ·cases h
  ·cases h
 ·cases h
theorem uS {H H' : Heap} {v r : Value} (h : some (v, H) = some (r, H')) : LK H H' := by injection h with h; injection h with _ h; subst h; exact .refl _
theorem tJ {H H' : Heap} {v : Option Value} {r : Value} (h : v.map (fun v => (v, H)) = some (r, H')) : LK H H' := by
 cases v with
 | none => cases h
 | some v => exact uS h
set_option maxHeartbeats 1000000 in
theorem b6h {H H' : Heap} {o : Oper} {l : List Value} {r : Value} (h : opD P o l H = some (r, H')) : LK H H' := by
 obtain ⟨dst, op, type, pos, after, guard⟩ := o
 have pl : ∀ {o : Oper}, kE P o l H = some (r, H') → LK H H' := fun h => by rw [a5B h]; exact .refl _
 cases op with
 | alloc t =>
   simp only [opD, cU] at h
   obtain ⟨z, _, h⟩ := h
   split at h
   ·exact a7g h
   ·cases h
 | box t x => simp only [opD] at h; exact a3F h
 | store t x y =>
   simp only [opD, cZ] at h
   obtain ⟨H1, h, e⟩ := h
   injection e with _ e; subst e
   exact a6Y h
 | mapUpdate t m x y =>
   simp only [opD, cZ] at h
   obtain ⟨H1, h, e⟩ := h
   injection e with _ e; subst e
   exact b1L h
 | mapEntry t m x => simp only [opD] at h; exact a6E h
 | entryStore t m x y =>
   simp only [opD, cZ] at h
   obtain ⟨H1, h, e⟩ := h
   injection e with _ e; subst e
   exact a6D h
 | makeMap t x => simp only [opD] at h; exact a2F h
 | buildSlice t len parts =>
   simp only [opD, cU] at h
   obtain ⟨elem, _, size, _, z, _, h⟩ := h
   split at h
   ·injection h with h; injection h with _ h; subst h; exact .row _ _ _
   split at h
   ·simp only [cZ] at h
    obtain ⟨cs, _, e⟩ := h
    injection e with _ e; subst e
    exact .row _ _ _
   ·cases h
 | makeSlice t n c =>
   simp only [opD, cU] at h
   obtain ⟨elem, _, size, _, bytes, _, z, _, h⟩ := h
   split at h
   ·split at h
    ·injection h with h; injection h with _ h; subst h; exact .row _ _ _
    ·cases h
   ·cases h
 | call c =>
   simp only [opD] at h
   split at h
   ·split at h
    ·split at h
     all_goals first | exact tJ h | cases h
    ·cases h
   ·split at h
    ·exact a3X h
    ·cases h
   ·split at h
    ·exact a8b h
    ·cases h
   ·split at h
    ·exact a7n h
    ·cases h
   ·exact pl h
   ·split at h
    ·split at h
     ·split at h
      ·cases h
      ·exact uS h
     ·cases h
    ·cases h
   ·split at h
    ·exact a4z h
    ·cases h
   ·exact pl h
   ·exact pl h
   ·cases h
 | convert s t x =>
   simp only [opD] at h
   split at h
   ·exact pl h
   ·split at h
    ·split at h
     ·exact tJ h
     ·cases h
    ·split at h
     ·simp only [cU] at h
      obtain ⟨_, _, h⟩ := h
      injection h with h; injection h with _ h; subst h
      rw [b0m]; exact .cons _ _
     ·cases h
    ·split at h
     ·exact uS h
     ·cases h
    ·cases h
 | slice t x lo hi mx =>
   cases mx with
   | some _ => simp only [opD] at h; cases h
   | none =>
     simp only [opD] at h
     split at h
     ·exact pl h
     ·split at h
      ·exact tJ h
      ·exact tJ h
 | _ =>
   simp only [opD] at h
   repeat' first
    | exact LK.refl _
    | exact uS h
    | exact tJ h
    | exact pl h
    | (cases h; done)
    | split at h
    | (simp only [cU, cZ] at h; obtain ⟨_, _, h⟩ := h)
    | (obtain ⟨_, _, h⟩ := h)
    | (injection h with h; injection h with _ h; subst h; exact LK.refl _)
    | (injection h with _ h; subst h; exact LK.refl _)
    | (cases h; exact LK.refl _)
end
end Go.Ds
namespace Go.Ds
variable {P : Program}
structure CallsOk (P : Program) (C : Calls') (H0 : Heap) : Prop where
 fn : ∀ p f args H v H1, LK H0 H → (C.fn p f args H).Is v H1 → p = kL f → (FnS P f args H (fun v' H' => v' = v ∧ H' = H1) ∨ pL P f args H = some (v, H1)) ∧ LK H H1
 rd : ∀ L args H v H1, LK H0 H → (C.rd L args H).Is v H1 → wS P L args H v H1 ∧ LK H H1
noncomputable def iR (x : Operand) : LArg := match x with
 | .tmp t => .t (kL t)
 | .const v => .c v
 | .global g => .c (.pointer (some ⟨g, 0, none⟩))
 | .func k => .c (.func (.func k) #[] #[])
theorem kQ {α : Type} (x : Operand) (K : LArg → α) : lI x K = K (iR x) := by
 cases x with
 | tmp t => exact lD _ _
 | _ => rfl
theorem jK {f : Fr} {l : List Value} (h : FAg f l) (x : Operand) : mC f (iR x) = ev l x := by
 cases x with
 | tmp t => exact h t
 | _ => rfl
theorem a3g {α : Type} (l : List Operand) (K : List LArg → α) : a4N l K = K (l.map iR) := by
 induction l generalizing K with
 | nil => rfl
 | cons x l ih =>
   show lI x (fun x => a4N l fun l => K (x :: l)) = _
   rw [kQ, ih]; rfl
theorem a5v {α : Type} {f : Fr} {l : List Value} (h : FAg f l) (xs : List Operand) (K : List Value → α) : a3L f (xs.map iR) K = K (xs.map (ev l)) := by
 induction xs generalizing K with
 | nil => rfl
 | cons x xs ih =>
   show oB (mC f (iR x)) (fun v => a3L f (xs.map iR) fun l => K (v :: l)) = _
   rw [mF, ih, jK h]; rfl
theorem c1q {f : Fr} {l : List Value} (h : FAg f l) : evF f = ev l := by
 funext x
 cases x with
 | tmp t => exact h t
 | _ => rfl
def vE (P : Program) (o : Oper) (lo : LOp) : Prop := ∀ C H0 f l H v H1, CallsOk P C H0 → LK H0 H → FAg f l → (opF P C lo f H).Is v H1 → StepR P o l H v H1 ∧ LK H H1
def LowPl (P : Program) (o : Oper) (lo : LOp) : Prop := ∀ C f l H v H1, FAg f l → (opF P C lo f H).Is v H1 → opD P o l H = some (v, H1)
theorem LowPl.low {o : Oper} {lo : LOp} (hok : o.op.operands.toList.all iK = true) (h : LowPl P o lo) : vE P o lo :=
 fun C _ f l H v H1 _ _ hf hr => by have := h C f l H v H1 hf hr; exact ⟨.op hok this, b6h this⟩
theorem b6R (o : Oper) : vE P o .bad := fun _ _ _ _ _ _ _ _ _ _ h => absurd h Rs.ar
theorem b6H (o : Oper) : LowPl P o (.gen o) := fun C f l H v H1 hf hr => by
 have hr : (match c0q P o (evF f) H with | some (v, H1) => Rs.th v H1 | none => .no).Is v H1 := hr
 rw [c1q hf] at hr
 have e : c0q P o (ev l) H = opD P o l H := rfl
 rw [e] at hr
 split at hr
 ·rename_i v2 H2 h2
  obtain ⟨rfl, rfl⟩ := Rs.aO hr
  exact h2
 ·exact absurd hr Rs.ar
section
variable {dst : Option Tmp} {type : TypeId} {pos : String} {after : Array Edge} {guard : Option (Nat × Bool)}
theorem c0U (x : Operand) : LowPl P ⟨dst, .move x, type, pos, after, guard⟩ (.mv (iR x)) := fun C f l H v H1 hf hr => by
 have hr : (oB (mC f (iR x)) fun v => Rs.ok v H).Is v H1 := hr
 rw [mF, jK hf] at hr
 obtain ⟨rfl, rfl⟩ := Rs.aJ hr
 rfl
theorem c0D (x : Operand) : LowPl P ⟨dst, .assign x, type, pos, after, guard⟩ (.mv (iR x)) := fun C f l H v H1 hf hr => by
 have hr : (oB (mC f (iR x)) fun v => Rs.ok v H).Is v H1 := hr
 rw [mF, jK hf] at hr
 obtain ⟨rfl, rfl⟩ := Rs.aJ hr
 rfl
theorem b4D (c a b : Operand) : LowPl P ⟨dst, .pick c a b, type, pos, after, guard⟩ (.pick (iR c) (iR a) (iR b)) := fun C f l H v H1 hf hr => by
 have hr : (b6m (iR c) (iR a) (iR b) f H).Is v H1 := hr
 unfold b6m at hr
 rw [jK hf] at hr
 split at hr
 ·rename_i t ht
  rw [mF] at hr
  simp only [opD, ht]
  cases t
  ·have hr : (Rs.ok (mC f (iR b)) H).Is v H1 := hr
   rw [jK hf] at hr
   obtain ⟨rfl, rfl⟩ := Rs.aJ hr; rfl
  ·have hr : (Rs.ok (mC f (iR a)) H).Is v H1 := hr
   rw [jK hf] at hr
   obtain ⟨rfl, rfl⟩ := Rs.aJ hr; rfl
 ·exact absurd hr Rs.ar
theorem b9f (a b : Int) : c4n a b = a * b := by cases a <;> cases b <;> rfl
theorem a4W (a b : Int) : c3E a b = a.tdiv b := by cases a <;> cases b <;> rfl
theorem a4K (a b : Int) : c3S a b = a.tmod b := by cases a <;> cases b <;> rfl
theorem b7x {op : BinOp} {g : IntKind → Int → Int → Option Value} (h : b6T op = some g) (k : IntKind) (a b : Int) : mD op k a b = g k a b := by
 cases op <;> simp only [b6T] at h <;> first | (cases h; done) | (injection h with h; subst h)
 all_goals first
  | rfl
  | (simp only [mD, c4q, b9f]; done)
  | (simp only [mD, b8F, a4W]; done)
  | (simp only [mD, b7K, a4K]; done)
  | (simp only [mD, b8F, a4W]; rfl)
  | (simp only [mD, b7K, a4K]; rfl)
  | (simp only [mD, b8F, a4W]; cases eqI b 0 <;> rfl)
  | (simp only [mD, b7K, a4K]; cases eqI b 0 <;> rfl)
theorem c2C {o : Option Value} {H H1 : Heap} {v : Value} (h : (oV o H).Is v H1) : o = some v ∧ H1 = H := by
 cases o with
 | none => exact absurd h Rs.ar
 | some w => obtain ⟨rfl, rfl⟩ := Rs.aO h; exact ⟨rfl, rfl⟩
theorem b5S {o : Option Value} {H H1 : Heap} {v : Value} (h : (okV o H).Is v H1) : o = some v ∧ H1 = H := by
 cases o with
 | none => exact absurd h Rs.ar
 | some w =>
   have h : (oB w fun v => Rs.ok v H).Is v H1 := h
   rw [mF] at h
   obtain ⟨rfl, rfl⟩ := Rs.aJ h; exact ⟨rfl, rfl⟩
theorem b8V {op : BinOp} {g : IntKind → Int → Int → Option Value} (hg : b6T op = some g) (t yt : TypeId) (x y : Operand) : LowPl P ⟨dst, .binOp op t x y yt, type, pos, after, guard⟩ (.bin g (iR x) (iR y)) := fun C f l H v H1 hf hr => by
 have hr : (c0H g (iR x) (iR y) f H).Is v H1 := hr
 unfold c0H at hr
 rw [jK hf] at hr
 split at hr
 ·rename_i k a hx
  unfold b9m at hr
  rw [jK hf] at hr
  split at hr
  ·rename_i k' b hy
   obtain ⟨hk, hq⟩ := kV hr
   obtain rfl := b7s hk
   obtain ⟨hv, rfl⟩ := c2C hq
   rw [← b7x hg] at hv
   have : opD P ⟨dst, .binOp op t x y yt, type, pos, after, guard ⟩ l H1 = if k = k then (match mD op k a b with | some v => some (v, H1) | none => kE P ⟨dst, .binOp op t x y yt, type, pos, after, guard ⟩ l H1) else kE P ⟨dst, .binOp op t x y yt, type, pos, after, guard ⟩ l H1 := by
    simp only [opD, hx, hy]
    cases op <;> rfl
   rw [this, if_pos rfl, hv]
  ·exact absurd hr Rs.ar
 ·exact absurd hr Rs.ar
theorem b8k {b : Option Blk} {i e : Nat} {H H1 : Heap} {v : Value} (h : (b7j b i e H).Is v H1) : H1 = H ∧ ∃ cs ty rw lo ver, b = some (.cells cs ty rw lo ver) ∧ lo ≤ e ∧ e ≤ cs.length ∧ i + 1 ≤ e ∧ cs[i]? = some v := by
 unfold b7j at h
 split at h
 ·rename_i cs ty rw lo ver
  obtain ⟨h1, h⟩ := kV h
  obtain ⟨h2, h⟩ := kV h
  obtain ⟨h3, h⟩ := kV h
  have h : (okV (a0E cs i) H).Is v H1 := h
  obtain ⟨h4, h5⟩ := b5S h
  rw [wZ] at h2
  rw [xN] at h4
  exact ⟨h5, cs, ty, rw, lo, ver, rfl, dV h1, by simpa using h2, dV h3, h4⟩
 ·exact absurd h Rs.ar
theorem b6K {b : Option Blk} {n i e : Nat} {H H1 : Heap} {v : Value} (h : (b7y b n i e H).Is v H1) : H1 = H ∧ ∃ cs ty rw lo ver, b = some (.cells cs ty rw lo ver) ∧ lo ≤ e ∧ e ≤ cs.length ∧ i + n ≤ e ∧ v = .agg ((cs.drop i).take n).toArray := by
 unfold b7y at h
 split at h
 ·rename_i cs ty rw lo ver
  obtain ⟨h1, h⟩ := kV h
  obtain ⟨h2, h⟩ := kV h
  obtain ⟨h3, h⟩ := kV h
  obtain ⟨h4, h⟩ := a6J h
  obtain ⟨rfl, rfl⟩ := Rs.aJ h
  rw [wZ] at h2
  exact ⟨rfl, cs, ty, rw, lo, ver, rfl, dV h1, by simpa using h2, dV h3, by rw [a6b]⟩
 ·exact absurd h Rs.ar
theorem b0O {X : LArg} {f : Fr} {H H1 : Heap} {v w : Value} {t : TypeId} (ht : jI P t = some false) (hw : mC f X = w) (h : (b1o X f H).Is v H1) : H1 = H ∧ lJ P H t w = some v := by
 unfold b1o at h
 rw [hw] at h
 split at h
 ·rename_i A i e
  obtain ⟨h1, cs, ty, rw', lo, ver, h2, h3, h4, h5, h6⟩ := b8k h
  refine ⟨h1, ?_⟩
  simp only [lJ, ht, iZ, h2]
  rw [if_pos (by simp; omega)]
  simp [h6]
 ·rename_i A i
  unfold c1M at h
  split at h
  ·rename_i cs ty lo hg
   obtain ⟨h1, h⟩ := kV h
   rw [wZ] at h1
   have h1 : lo ≤ cs.length := by simpa using h1
   cases hn : a0E cs i with
   | none => rw [hn] at h; exact absurd h Rs.ar
   | some c =>
     rw [hn] at h
     have h : (oB c fun v => Rs.ok v H).Is v H1 := h
     rw [mF] at h
     obtain ⟨rfl, rfl⟩ := Rs.aJ h
     rw [xN] at hn
     have hi := (di.1 hn).1
     refine ⟨rfl, ?_⟩
     simp only [lJ, ht, iZ, hg]
     rw [if_pos (by simp; omega)]
     simp [hn]
  ·exact absurd h Rs.ar
 ·exact absurd h Rs.ar
theorem b0h {X : LArg} {f : Fr} {H H1 : Heap} {v w : Value} {t : TypeId} {n : Nat} (ht : jI P t = some true) (hn : iA P t = some n) (hw : mC f X = w) (h : (b2P n X f H).Is v H1) : H1 = H ∧ lJ P H t w = some v := by
 unfold b2P at h
 rw [hw] at h
 split at h
 ·rename_i A i e
  obtain ⟨h1, cs, ty, rw', lo, ver, h2, h3, h4, h5, h6⟩ := b6K h
  refine ⟨h1, ?_⟩
  simp only [lJ, ht, hn, cS, iZ, h2]
  rw [if_pos (by simp; omega), h6]
  rfl
 ·exact absurd h Rs.ar
theorem b7Q {t : TypeId} (ht : jI P t = some false) (x : Operand) : LowPl P ⟨dst, .load t x, type, pos, after, guard⟩ (.ld1 (iR x)) := fun C f l H v H1 hf hr => by
 obtain ⟨rfl, h⟩ := b0O (P := P) ht (jK hf x) hr
 simp only [opD, h, dD]
theorem b7o {t : TypeId} {n : Nat} (ht : jI P t = some true) (hn : iA P t = some n) (x : Operand) : LowPl P ⟨dst, .load t x, type, pos, after, guard⟩ (.ldn n (iR x)) := fun C f l H v H1 hf hr => by
 obtain ⟨rfl, h⟩ := b0h (P := P) ht hn (jK hf x) hr
 simp only [opD, h, dD]
theorem c0z {t : TypeId} {n : Nat} (hn : iA P t = some n) (x y : Operand) : LowPl P ⟨dst, .store t x y, type, pos, after, guard⟩ (.st n (iR x) (iR y)) := fun C f l H v H1 hf hr => by
 have hr : (hSt n (iR x) (iR y) f H).Is v H1 := hr
 unfold hSt at hr
 rw [jK hf, jK hf] at hr
 split at hr
 ·rename_i A i e hx
  unfold stB at hr
  split at hr
  ·rename_i cs ty lo ver hg
   obtain ⟨h1, hr⟩ := kV hr
   obtain ⟨h2, hr⟩ := kV hr
   obtain ⟨h3, hr⟩ := kV hr
   obtain ⟨h4, hr⟩ := kV hr
   obtain ⟨h5, hr⟩ := kV hr
   obtain ⟨rfl, rfl⟩ := Rs.aO hr
   rw [wX] at h1 h3
   have h1 : n = (ev l y).cells.toList.length := by simpa only [decide_eq_true_eq] using h1
   have h3 : e = cs.length := by simpa only [decide_eq_true_eq] using h3
   have h4 : i + n ≤ e := dV h4
   have h5 : lo ≤ e := dV h5
   simp only [opD, qI, hx, hg]
   rw [if_pos ⟨by rw [hn, h1], h2, h3, by omega, h5⟩]
   simp only [dD]
   rw [h3]
  ·exact absurd hr Rs.ar
 ·exact absurd hr Rs.ar
theorem b9R {s : TypeId} {k n : Nat} {fd : Field} (hf' : nO P s k = some fd) (hn : iA P fd.type = some n) (hn0 : n ≠ 0) (x : Operand) : LowPl P ⟨dst, .fieldAddr s x k, type, pos, after, guard⟩ (.fa fd.offset (iR x)) := fun C f l H v H1 hf hr => by
 have hr : (hFa fd.offset (iR x) f H).Is v H1 := hr
 unfold hFa at hr
 rw [jK hf] at hr
 split at hr
 ·rename_i A i e hx
  rw [jP] at hr
  obtain ⟨rfl, rfl⟩ := Rs.aJ hr
  simp only [opD, hx, hf', cS, hn]
  rw [if_neg (by simpa using hn0)]; rfl
 ·exact absurd hr Rs.ar
theorem b6o {A i e size n : Nat} {H H1 : Heap} {j v : Value} (h : (ixP A i e size n H j).Is v H1) : H1 = H ∧ ∃ k m, j = .int k (.ofNat m) ∧ m < n ∧ v = .pointer (some ⟨A, i + m * size, some e⟩) := by
 unfold ixP at h
 split at h
 ·rename_i k m
  obtain ⟨h1, h⟩ := kV h
  rw [jP] at h
  obtain ⟨rfl, rfl⟩ := Rs.aJ h
  rw [blt_eq] at h1
  exact ⟨rfl, k, m, rfl, by simpa using h1, rfl⟩
 ·exact absurd h Rs.ar
theorem b6E {t elem : TypeId} {size : Nat} (ht : P.underlying t = some (.slice elem)) (hs : iA P elem = some size) (x i : Operand) : LowPl P ⟨dst, .indexAddr t x i, type, pos, after, guard⟩ (.ixs size (iR x) (iR i)) := fun C f l H v H1 hf hr => by
 have hr : (b9S size (iR x) (iR i) f H).Is v H1 := hr
 unfold b9S at hr
 rw [jK hf, jK hf] at hr
 split at hr
 ·rename_i A a e n c hx
  obtain ⟨rfl, k, m, hj, hm, rfl⟩ := b6o hr
  simp only [opD, ht, hx, hj, hs, cS]
  rw [if_pos (by simp; omega)]
  rfl
 ·exact absurd hr Rs.ar
theorem c2l (a b : Nat) : Nat.beq a b = (a == b) := by
 cases h : Nat.beq a b with
 | true => rw [dK h]; simp
 | false => have := Nat.ne_of_beq_eq_false h; simp [this]
theorem c0V {A i size n : Nat} {H H1 : Heap} {j v : Value} (h : (ixG A i size n H j).Is v H1) : H1 = H ∧ ∃ k m, j = .int k (.ofNat m) ∧ m < n ∧ v = .pointer (some ⟨A, i + m * size, none⟩) := by
 unfold ixG at h
 split at h
 ·rename_i k m
  obtain ⟨h1, h⟩ := kV h
  rw [jP] at h
  obtain ⟨rfl, rfl⟩ := Rs.aJ h
  exact ⟨rfl, k, m, rfl, by simpa [gQ] using h1, rfl⟩
 ·exact absurd h Rs.ar
theorem b8z {t elem : TypeId} {n size : Nat} (ht : P.underlying t = some (.array n elem)) (hs : iA P elem = some size) (x i : Operand) : LowPl P ⟨dst, .indexAddr t x i, type, pos, after, guard⟩ (.ixa n size (iR x) (iR i)) := fun C f l H v H1 hf hr => by
 have hr : (c1g n size (iR x) (iR i) f H).Is v H1 := hr
 unfold c1g at hr
 rw [jK hf, jK hf] at hr
 split at hr
 ·rename_i A a e hx
  obtain ⟨rfl, k, m, hj, hm, rfl⟩ := b6o hr
  simp only [opD, ht, hx, hj, hs, cS]
  rw [if_pos (by simp; omega)]
  rfl
 ·rename_i A a hx
  obtain ⟨rfl, k, m, hj, hm, rfl⟩ := c0V hr
  simp only [opD, ht, hx, hj, hs, cS]
  rw [if_pos (by simp; omega)]
  rfl
 ·exact absurd hr Rs.ar
theorem b6J (i : Nat) (x : Operand) : LowPl P ⟨dst, .extract x i, type, pos, after, guard⟩ (.ext i (iR x)) := fun C f l H v H1 hf hr => by
 have hr : (c0X i (iR x) f H).Is v H1 := hr
 unfold c0X at hr
 rw [jK hf] at hr
 split at hr
 ·rename_i vs hx
  obtain ⟨h1, rfl⟩ := b5S hr
  rw [xN] at h1
  simp only [opD, hx]
  simp [h1]
 ·exact absurd hr Rs.ar
theorem b8f {c : Call} {elem : TypeId} (hc : c.callee = .builtin .len) (h1 : c.args.size = 1) (h2 : c.argTypes.size = 1) (ht : P.underlying (c.argTypes.getD 0 0) = some (.slice elem)) : LowPl P ⟨dst, .call c, type, pos, after, guard⟩ (.len (iR (c.args.getD 0 (.tmp 0)))) := fun C f l H v H1 hf hr => by
 have hr : (c0v (iR (c.args.getD 0 (.tmp 0))) f H).Is v H1 := hr
 unfold c0v at hr
 rw [jK hf] at hr
 split at hr
 ·rename_i a n k hx
  obtain ⟨rfl, rfl⟩ := Rs.aO hr
  simp only [opD, hc, h1, h2, ht, hx, vU]; rfl
 ·exact absurd hr Rs.ar
theorem b5E {c : Call} (hc : c.callee = .builtin .len) (h1 : c.args.size = 1) (h2 : c.argTypes.size = 1) (ht : P.underlying (c.argTypes.getD 0 0) = some .string) : LowPl P ⟨dst, .call c, type, pos, after, guard⟩ (.slen (iR (c.args.getD 0 (.tmp 0)))) := fun C f l H v H1 hf hr => by
 have hr : (b5V (iR (c.args.getD 0 (.tmp 0))) f H).Is v H1 := hr
 unfold b5V at hr
 rw [jK hf] at hr
 split at hr
 ·rename_i s hx
  obtain ⟨rfl, rfl⟩ := Rs.aO hr
  simp only [opD, hc, h1, h2, ht, hx, vU]; rfl
 ·exact absurd hr Rs.ar
theorem b8b {c : Call} {elem : TypeId} {size bytes : Nat} {z : Value} (hc : c.callee = .builtin .append) (h1 : c.args.size = 2) (h2 : c.argTypes.size = 2) (hi : ((P.underlying (c.argTypes.getD 1 0)).map pC) = some true)
 (he : iD P (c.argTypes.getD 0 0) = some elem) (hs : iA P elem = some size) (hb : nH P elem = some bytes) (hz : iX P elem = some z) (hzs : z.cells.size = size) (hs0 : size ≠ 0) :
 LowPl P ⟨dst, .call c, type, pos, after, guard⟩ (.app elem size bytes (iR (c.args.getD 0 (.tmp 0))) (iR (c.args.getD 1 (.tmp 0)))) := fun C f l H v H1 hf hr => by
 have hr : (c0y P elem size bytes (iR (c.args.getD 0 (.tmp 0))) (iR (c.args.getD 1 (.tmp 0))) f H).Is v H1 := hr
 unfold c0y at hr
 rw [jK hf, jK hf] at hr
 have hD : opD P ⟨dst, .call c, type, pos, after, guard⟩ l H = mZ P H (c.argTypes.getD 0 0) (ev l (c.args.getD 0 (.tmp 0))) (ev l (c.args.getD 1 (.tmp 0))) := by
  simp only [opD, hc, h1, h2, hi]; rfl
 rw [hD]
 unfold mZ
 rw [he, cS, hs, cS, hb, cS, hz, cS]
 split at hr
 ·rename_i n m hsrc
  rw [hsrc, cS]
  unfold c2E at hr
  split at hr
  ·rename_i k cc hx
   obtain ⟨g1, hq1⟩ := kV hr
   obtain ⟨g2, hq2⟩ := kV hq1
   obtain ⟨g3, hq⟩ := kV hq2
   clear hr hq1 hq2
   obtain rfl : k = 0 := dK g1
   obtain rfl : cc = 0 := dK g2
   have g3 : n * (bytes + 1) ≤ oF := dV g3
   simp only [hx]
   rw [if_pos (by simp [hs0, hzs, g3])]
   rw [kH] at hq
   by_cases hn : n = 0
   ·subst hn
    rw [if_pos (by rfl)] at hq
    obtain ⟨rfl, rfl⟩ := Rs.aJ hq
    simp
   ·rw [if_neg (fun e => hn (dK e))] at hq
    obtain ⟨rfl, rfl⟩ := Rs.aO hq
    simp [hn]
  ·rename_i A i e k cc hx
   unfold c2B at hr
   split at hr
   ·rename_i cs ty lo ver hg
    obtain ⟨g2, hr⟩ := kV hr
    obtain ⟨g4, hr⟩ := kV hr
    obtain ⟨g5, hr⟩ := kV hr
    have g2 : (ty == elem || iA P ty == some size) = true := by
     rw [c2l] at g2
     cases hh : (ty == elem) with
     | true => rfl
     | false => rw [hh] at g2; exact g2
    rw [wX] at g4
    have g4 : e = cs.length := by simpa only [decide_eq_true_eq] using g4
    have g5 : lo ≤ e := dV g5
    simp only [hx, hg]
    rw [kH] at hr
    by_cases g3 : i + k * size = e
    ·rw [if_pos (by simpa using g3)] at hr
     obtain ⟨g1, hr⟩ := kV hr
     obtain ⟨rfl, rfl⟩ := Rs.aO hr
     have g1 : (k + n) * (bytes + 1) ≤ oF := dV g1
     have et : (Bool.rec (motive := fun _ => Nat) 2 ver (Nat.beq ty elem)) = (if (ty == elem) = true then ver else 2) := by
      rw [c2l]
      cases hh : (ty == elem) with
      | true => rfl
      | false => rfl
     rw [et, if_pos (by simp only [g2, ff, cT, bne_iff_ne, beq_iff_eq, decide_eq_true_eq]; exact ⟨⟨⟨⟨⟨hs0, g1⟩, by simpa using hzs⟩, g3⟩, g4⟩, g5⟩)]
    ·rw [if_neg (by simpa using g3)] at hr
     rw [kH] at hr
     by_cases hn : n = 0
     ·rw [if_pos (by simpa using hn)] at hr
      exact absurd hr Rs.ar
     ·rw [if_neg (by simpa using hn)] at hr
      obtain ⟨g6, hr⟩ := kV hr
      obtain ⟨rfl, rfl⟩ := Rs.aO hr
      have g6 : i + (k + n) * size ≤ e := dV g6
      rw [if_neg (by simp [g3]), if_pos (by simp only [g2, ff, cT, bne_iff_ne, beq_iff_eq, decide_eq_true_eq]; exact ⟨⟨⟨⟨⟨hs0, hn⟩, by simpa using hzs⟩, g6⟩, g4⟩, g5⟩), g4]
   ·exact absurd hr Rs.ar
  ·exact absurd hr Rs.ar
 ·exact absurd hr Rs.ar
theorem b2C {c : Call} {k : FuncId} (hc : c.callee = .value (.func k)) (hok : (Op.call c).operands.toList.all iK = true) : vE P ⟨dst, .call c, type, pos, after, guard⟩ (.callF k (kL k) (c.args.toList.map iR)) := fun C H0 f l H v H1 hC hk hf hr => by
 have hr : (a3L f (c.args.toList.map iR) fun l => C.fn (kL k) k l H).Is v H1 := hr
 rw [a5v hf] at hr
 obtain ⟨h1 | hx, h2⟩ := hC.fn _ _ _ _ _ _ hk hr rfl
 case inr => exact ⟨.ext hok c (.func k) k #[] #[] rfl hc rfl (by simpa using hx), h2⟩
 obtain ⟨he, v', H', hcall, rfl, rfl⟩ := h1.fn
 exact ⟨.call hok c (.func k) k #[] #[] rfl hc rfl he (by simpa using hcall), h2⟩
theorem b2s {c : Call} {g : Operand} (hc : c.callee = .value g) (hok : (Op.call c).operands.toList.all iK = true) : vE P ⟨dst, .call c, type, pos, after, guard⟩ (.callV (iR g) (c.args.toList.map iR)) := fun C H0 f l H v H1 hC hk hf hr => by
 have hr : (a3L f (c.args.toList.map iR) fun l => a7Z C l H (mC f (iR g))).Is v H1 := hr
 rw [a5v hf, jK hf] at hr
 unfold a7Z at hr
 split at hr
 ·rename_i k a b hg
  rw [jP, lD] at hr
  obtain ⟨h1 | hx, h2⟩ := hC.fn _ _ _ _ _ _ hk hr rfl
  case inr => exact ⟨.ext hok c g k ⟨a⟩ ⟨b⟩ rfl hc hg (by simpa [xC] using hx), h2⟩
  obtain ⟨he, v', H', hcall, rfl, rfl⟩ := h1.fn
  exact ⟨.call hok c g k ⟨a⟩ ⟨b⟩ rfl hc hg he (by simpa [xC] using hcall), h2⟩
 ·rename_i L a b hg
  obtain ⟨h1, h2⟩ := hC.rd _ _ _ _ _ hk hr
  exact ⟨.round hok c g L _ _ rfl hc hg h1, h2⟩
 ·exact absurd hr Rs.ar
end
set_option maxHeartbeats 1000000 in
theorem b0J {α : Type} (o : Oper) (K : LOp → α) : ∃ lo, vE P o lo ∧ xS P o K = K lo := by
 unfold xS
 rw [kH]
 by_cases hok : o.op.operands.toList.all iK = true
 case neg => rw [if_neg hok]; exact ⟨_, b6R o, rfl⟩
 rw [if_pos hok]
 have gen : ∃ lo, vE P o lo ∧ K (.gen o) = K lo := ⟨_, (b6H o).low hok, rfl⟩
 obtain ⟨dst, op, type, pos, after, guard⟩ := o
 unfold c2a
 cases op with
 | move x => simp only [kQ]; exact ⟨_, (c0U x).low hok, rfl⟩
 | assign x => simp only [kQ]; exact ⟨_, (c0D x).low hok, rfl⟩
 | pick c a b => simp only [kQ]; exact ⟨_, (b4D c a b).low hok, rfl⟩
 | binOp op t x y yt =>
   simp only [kQ, kH]
   split
   ·split
    ·rename_i g hg; exact ⟨_, (b8V hg t yt x y).low hok, rfl⟩
    ·exact gen
   ·exact gen
 | load t x =>
   simp only [kQ]
   split
   ·rename_i ht
    cases hn : iA P t with
    | none => exact gen
    | some n => rw [oM]; exact ⟨_, (b7o ht hn x).low hok, rfl⟩
   ·rename_i ht; exact ⟨_, (b7Q ht x).low hok, rfl⟩
   ·exact gen
 | store t x y =>
   simp only [kQ]
   cases hn : iA P t with
   | none => exact gen
   | some n => rw [oM]; exact ⟨_, (c0z hn x y).low hok, rfl⟩
 | fieldAddr s x k =>
   simp only [kQ]
   split
   ·rename_i fd hfd
    split
    ·exact gen
    ·rename_i n hn0 hn
     rw [jP]
     exact ⟨_, (b9R hfd hn (fun e => hn0 e) x).low hok, rfl⟩
    ·exact gen
   ·exact gen
 | indexAddr t x i =>
   simp only [kQ]
   split
   ·rename_i elem ht
    cases hs : iA P elem with
    | none => exact gen
    | some n => rw [oM]; exact ⟨_, (b6E ht hs x i).low hok, rfl⟩
   ·rename_i n elem ht
    cases hs : iA P elem with
    | none => exact gen
    | some m => rw [oM]; exact ⟨_, (b8z ht hs x i).low hok, rfl⟩
   ·exact gen
 | extract t i => simp only [kQ]; rw [jP]; exact ⟨_, (b6J i t).low hok, rfl⟩
 | call c =>
   simp only
   unfold b4P
   split
   ·rename_i k hc
    rw [lD, a3g]
    exact ⟨_, b2C hc hok, rfl⟩
   ·rename_i g _ hc
    rw [kQ, a3g]
    exact ⟨_, b2s hc hok, rfl⟩
   ·rename_i hc
    rw [kH]
    split
    ·rename_i h1
     simp only [cT, beq_iff_eq] at h1
     split
     ·rename_i elem ht; rw [kQ]; exact ⟨_, (b8f hc h1.1 h1.2 ht).low hok, rfl⟩
     ·rename_i ht; rw [kQ]; exact ⟨_, (b5E hc h1.1 h1.2 ht).low hok, rfl⟩
     ·exact gen
    ·exact gen
   ·rename_i hc
    rw [kH]
    split
    ·rename_i h1
     simp only [cT, beq_iff_eq] at h1
     split
     ·rename_i elem he
      cases hs : iA P elem with
      | none => exact gen
      | some size =>
        rw [oM]
        cases hb : nH P elem with
        | none => exact gen
        | some bytes =>
          rw [oM]
          split
          ·rename_i z hz
           rw [kH]
           split
           ·rename_i h2
            simp only [cT, beq_iff_eq, bne_iff_ne] at h2
            rw [jP, kQ, kQ]
            exact ⟨_, (b8b hc h1.1.1 h1.1.2 h1.2 he hs hb hz h2.1 h2.2).low hok, rfl⟩
           ·exact gen
          ·exact gen
     ·exact gen
    ·exact gen
   ·exact gen
 | _ => exact gen
def DOk (k : Nat) (dst : Option Tmp) (d : Option Pth) : Prop := (dst = none ∧ d = none) ∨ ∃ t, dst = some t ∧ t < k ∧ d = some (kL t)
inductive LowOps (P : Program) (k : Nat) (ops : Array Oper) : List Oper → LOps → Prop
 | nil : LowOps P k ops [] .nil
 | cons {o : Oper} {os : List Oper} {d : Option Pth} {lo : LOp} {r : LOps} (hd : DOk k o.dst d) (ho : vE P o lo) (hg : o.guard = none) (hr : LowOps P k ops os r) : LowOps P k ops (o :: os) (.cons d lo r)
 | gcons {o : Oper} {os : List Oper} {d : Option Pth} {lo : LOp} {r : LOps} {j t : Nat} {w : Bool} (hd : DOk k o.dst d) (ho : vE P o lo) (hg : o.guard = some (j, w)) (ht : (ops[j]?).bind (·.dst) = some t) (htk : t < k) (hr : LowOps P k ops os r) : LowOps P k ops (o :: os) (.gcons (kL t) w d lo r)
def GOk (ops : Array Oper) (o : Oper) (g : Option (Pth × Bool)) : Prop := (o.guard = none ∧ g = none) ∨ ∃ j w t, o.guard = some (j, w) ∧ (ops[j]?).bind (·.dst) = some t ∧ g = some (kL t, w)
theorem GOk.runs {ops : Array Oper} {o : Oper} {g : Option (Pth × Bool)} (h : GOk ops o g) {f : Fr} {l : List Value} (hf : FAg f l) (hw : Region.wanted o (iQ ops l) = true) : b5y f g = true := by
 rcases h with ⟨_, rfl⟩ | ⟨j, w, t, hg, ht, rfl⟩
 ·rfl
 ·simp only [Region.wanted, hg, iQ, ht] at hw
  show isB (nK (kL t) f) w = true
  rw [hf t, nT, cW]
  cases hl : l[t]? with
  | none => rw [hl] at hw; simp at hw
  | some v =>
    rw [hl] at hw
    cases v <;> simp at hw
    subst hw
    rename_i b
    cases b <;> rfl
inductive LowTab (P : Program) (ops : Array Oper) : List (Nat × Nat) → List (Nat × Option Nat × Option (Pth × Bool) × LOp) → Prop
 | nil : LowTab P ops [] []
 | cons {i m : Nat} {o : Oper} {lo : LOp} {tab : List (Nat × Nat)} {t : List (Nat × Option Nat × Option (Pth × Bool) × LOp)} {g : Option (Pth × Bool)} (ho : ops[i]? = some o) (hgd : GOk ops o g) (hl : vE P o lo) (hr : LowTab P ops tab t) :
    LowTab P ops ((i, m) :: tab) ((ops.size - 1 - i, if m < ops.size then some (ops.size - 1 - m) else none, g, lo) :: t)
inductive Low (P : Program) (k : Nat) : Code → LCode → Prop
 | bad (c : Code) : Low P k c .bad
 | skip : Low P k .skip .skip
 | label (t : Nat) : Low P k (.label t) .skip
 | reg {id : Nat} {ops : Array Oper} {d : Bool} {lo : LOps} (h : LowOps P k ops ops.toList lo) (hd : d = true → mO P ops = some []) : Low P k (.region id ops d) (.reg lo)
 | drw {id : Nat} {ops : Array Oper} {lo : LOps} {tab : List (Nat × Nat)} {t : List (Nat × Option Nat × Option (Pth × Bool) × LOp)} (h : LowOps P k ops ops.toList lo) (ht : mO P ops = some tab) (hl : LowTab P ops tab t) : Low P k (.region id ops true) (.drw lo t)
 | seq {a b : Code} {A B : LCode} (ha : Low P k a A) (hb : Low P k b B) : Low P k (.seq a b) (.seq A B)
 | cond {c : Operand} {x y : Code} {X Y : LCode} (hc : iK c = true) (hx : Low P k x X) (hy : Low P k y Y) : Low P k (.cond c x y) (.cond (iR c) X Y)
 | block {id : Nat} {b : Code} {B : LCode} (hb : Low P k b B) : Low P k (.block id b) (.block id B)
 | loop {b : Code} {B : LCode} (hb : Low P k b B) : Low P k (.loop b) (.loop B)
 | exit (id : Nat) : Low P k (.exit id) (.exit id)
 | ret : Low P k .ret .ret
 | range {g : Operand} {ps : Array Tmp} {assign body : Code} {A B : LCode} (hg : iK g = true) (hps : ∀ t ∈ ps.toList, t < k) (ha : Low P k assign A) (hb : Low P k body B) :
    Low P k (.rangeFunc g ps assign body) (.range (iR g) ((List.range k).map kL) (ps.toList.map kL) ps assign body A B)
section
variable {α : Type}
theorem b4e (k : Nat) (dst : Option Tmp) (no : α) (K : Option Pth → α) : (∃ d, DOk k dst d ∧ a5U k dst no K = K d) ∨ a5U k dst no K = no := by
 cases dst with
 | none => exact .inl ⟨none, .inl ⟨rfl, rfl⟩, rfl⟩
 | some t =>
   simp only [a5U, kH]
   split
   ·rename_i h
    rw [lD]
    rw [blt_eq] at h
    exact .inl ⟨_, .inr ⟨t, rfl, by simpa using h, rfl⟩, rfl⟩
   ·exact .inr rfl
theorem a2b (k : Nat) (ops : Array Oper) (l : List Oper) (K : LOps → α) (no : α) : (∃ L, LowOps P k ops l L ∧ uF P k ops l K no = K L) ∨ uF P k ops l K no = no := by
 induction l generalizing K with
 | nil => exact .inl ⟨_, .nil, rfl⟩
 | cons o l ih =>
   let K2 : Option Pth → LOp → α := fun d o' => match o.guard with
    | none => uF P k ops l (fun r => K (.cons d o' r)) no
    | some (j, w) => match (ops[j]?).bind (·.dst) with
      | some t => nI (Nat.blt t k) no (lH (kL t) fun p => zY w fun w => uF P k ops l (fun r => K (.gcons p w d o' r)) no)
      | none => no
   have e : uF P k ops (o :: l) K no = a5U k o.dst no fun d => xS P o fun o' => K2 d o' := rfl
   rw [e]
   rcases b4e k o.dst no (fun d => xS P o fun o' => K2 d o') with ⟨d, hd, h1⟩ | h1
   ·rw [h1]
    obtain ⟨lo, hlo, h2⟩ := b0J (P := P) o (fun o' => K2 d o')
    rw [h2]
    simp only [K2]
    split
    ·rename_i hg
     rcases ih (fun r => K (.cons d lo r)) with ⟨L, hL, h3⟩ | h3
     ·exact .inl ⟨_, .cons hd hlo hg hL, h3⟩
     ·exact .inr h3
    ·rename_i j w hg
     split
     ·rename_i t ht
      rw [kH]
      split
      ·rename_i htk
       rw [lD, uR]
       rw [blt_eq] at htk
       rcases ih (fun r => K (.gcons (kL t) w d lo r)) with ⟨L, hL, h3⟩ | h3
       ·exact .inl ⟨_, .gcons hd hlo hg ht (by simpa using htk) hL, h3⟩
       ·exact .inr h3
      ·exact .inr rfl
     ·exact .inr rfl
   ·exact .inr h1
theorem c1u (k : Nat) (ops : Array Oper) (o : Oper) (no : α) (K : Option (Pth × Bool) → α) : (∃ g, GOk ops o g ∧ loG k ops o.guard no K = K g) ∨ loG k ops o.guard no K = no := by
 cases hg : o.guard with
 | none => exact .inl ⟨none, .inl ⟨hg, rfl⟩, rfl⟩
 | some x =>
   obtain ⟨j, w⟩ := x
   unfold loG
   cases ht : (ops[j]?).bind (·.dst) with
   | none => exact .inr (by simp only [ht])
   | some t =>
     simp only [ht, kH]
     split
     ·refine .inl ⟨some (kL t, w), .inr ⟨j, w, t, hg, ht, rfl⟩, ?_⟩
      rw [lD, uR]
     ·exact .inr rfl
theorem b5n (k : Nat) (ops : Array Oper) (tab : List (Nat × Nat)) (K : List (Nat × Option Nat × Option (Pth × Bool) × LOp) → α) (no : α) : (∃ t, LowTab P ops tab t ∧ sZ P k ops ops.size tab K no = K t) ∨ sZ P k ops ops.size tab K no = no := by
 induction tab generalizing K with
 | nil => exact .inl ⟨_, .nil, rfl⟩
 | cons x tab ih =>
   obtain ⟨i, m⟩ := x
   cases ho : ops[i]? with
   | none =>
     refine .inr ?_
     show (match ops[i]? with
      | some o => _
      | none => no) = no
     rw [ho]
   | some o =>
     let K2 : Option (Pth × Bool) → LOp → α := fun g o' => jW (ops.size - 1 - i) fun i => nI (Nat.blt m ops.size) (sZ P k ops ops.size tab (fun l => K ((i, none, g, o') :: l)) no) (jW (ops.size - 1 - m) fun m => sZ P k ops ops.size tab (fun l => K ((i, some m, g, o') :: l)) no)
     have e : sZ P k ops ops.size ((i, m) :: tab) K no = loG k ops o.guard no fun g => xS P o fun o' => K2 g o' := by
      show (match ops[i]? with
       | some o => loG k ops o.guard no fun g => xS P o fun o' => K2 g o'
       | none => no) = _
      rw [ho]
     rw [e]
     rcases c1u k ops o no (fun g => xS P o fun o' => K2 g o') with ⟨g, hgd, h1⟩ | h1
     ·rw [h1]
      obtain ⟨lo, hlo, h2⟩ := b0J (P := P) o (fun o' => K2 g o')
      rw [h2]
      show (∃ t, _ ∧ jW (ops.size - 1 - i) (fun i => nI (Nat.blt m ops.size) (sZ P k ops ops.size tab (fun l => K ((i, none, g, lo) :: l)) no) (jW (ops.size - 1 - m) fun m => sZ P k ops ops.size tab (fun l => K ((i, some m, g, lo) :: l)) no)) = K t) ∨ jW (ops.size - 1 - i) (fun i => nI (Nat.blt m ops.size) (sZ P k ops ops.size tab (fun l => K ((i, none, g, lo) :: l)) no) (jW (ops.size - 1 - m) fun m => sZ P k ops ops.size tab (fun l => K ((i, some m, g, lo) :: l)) no)) = no
      rw [jP, kH, jP, blt_eq]
      by_cases hm : m < ops.size
      ·rw [if_pos (by simpa using hm)]
       rcases ih (fun l => K ((ops.size - 1 - i, some (ops.size - 1 - m), g, lo) :: l)) with ⟨t, ht, h3⟩ | h3
       ·have := LowTab.cons (m := m) ho hgd hlo ht
        rw [if_pos hm] at this
        exact .inl ⟨_, this, h3⟩
       ·exact .inr h3
      ·rw [if_neg (by simpa using hm)]
       rcases ih (fun l => K ((ops.size - 1 - i, none, g, lo) :: l)) with ⟨t, ht, h3⟩ | h3
       ·have := LowTab.cons (m := m) ho hgd hlo ht
        rw [if_neg hm] at this
        exact .inl ⟨_, this, h3⟩
       ·exact .inr h3
     ·exact .inr h1
theorem b1b (k : Nat) (l : List Tmp) (K : List Pth → α) (no : α) : ((∀ t ∈ l, t < k) ∧ wA k l K no = K (l.map kL)) ∨ wA k l K no = no := by
 induction l generalizing K with
 | nil => exact .inl ⟨by simp, rfl⟩
 | cons t l ih =>
   show _ ∨ nI (Nat.blt t k) no (lH (kL t) fun p => wA k l (fun l => K (p :: l)) no) = no
   have e : wA k (t :: l) K no = nI (Nat.blt t k) no (lH (kL t) fun p => wA k l (fun l => K (p :: l)) no) := rfl
   rw [e, kH, lD, blt_eq]
   by_cases h : t < k
   ·rw [if_pos (by simpa using h)]
    rcases ih (fun l => K (kL t :: l)) with ⟨h1, h2⟩ | h2
    ·exact .inl ⟨by simpa using ⟨h, h1⟩, h2⟩
    ·exact .inr h2
   ·rw [if_neg (by simpa using h)]; exact .inr rfl
theorem b1m (k : Nat) (c : Code) (K : LCode → α) : ∃ C, Low P k c C ∧ mS P k c K = K C := by
 induction c generalizing K with
 | skip => exact ⟨_, .skip, rfl⟩
 | region id ops d =>
   cases d with
   | false =>
     show ∃ C, _ ∧ uF P k ops ops.toList (fun l => K (.reg l)) (K .bad) = K C
     rcases a2b (P := P) k ops ops.toList (fun l => K (.reg l)) (K .bad) with ⟨L, hL, h⟩ | h
     ·exact ⟨_, .reg hL (fun h => by cases h), h⟩
     ·exact ⟨_, .bad _, h⟩
   | true =>
     show ∃ C, _ ∧ (match mO P ops with
      | some [] => uF P k ops ops.toList (fun l => K (.reg l)) (K .bad)
      | some tab => uF P k ops ops.toList (fun l => sZ P k ops ops.size tab (fun t => K (.drw l t)) (K .bad)) (K .bad)
      | none => K .bad) = K C
     split
     ·rename_i hd
      rcases a2b (P := P) k ops ops.toList (fun l => K (.reg l)) (K .bad) with ⟨L, hL, h⟩ | h
      ·exact ⟨_, .reg hL (fun _ => hd), h⟩
      ·exact ⟨_, .bad _, h⟩
     ·rename_i tab _ hd
      rcases a2b (P := P) k ops ops.toList (fun l => sZ P k ops ops.size tab (fun t => K (.drw l t)) (K .bad)) (K .bad) with ⟨L, hL, h⟩ | h
      ·rw [h]
       rcases b5n (P := P) k ops tab (fun t => K (.drw L t)) (K .bad) with ⟨t, ht, h2⟩ | h2
       ·exact ⟨_, .drw hL hd ht, h2⟩
       ·exact ⟨_, .bad _, h2⟩
      ·exact ⟨_, .bad _, h⟩
     ·exact ⟨_, .bad _, rfl⟩
 | seq a b iha ihb =>
   show ∃ C, _ ∧ mS P k a (fun a => mS P k b fun b => K (.seq a b)) = K C
   obtain ⟨A, hA, h1⟩ := iha (fun a => mS P k b fun b => K (.seq a b))
   obtain ⟨B, hB, h2⟩ := ihb (fun b => K (.seq A b))
   exact ⟨_, .seq hA hB, h1.trans h2⟩
 | cond c x y ihx ihy =>
   show ∃ C, _ ∧ nI (iK c) (K .bad) (lI c fun c => mS P k x fun x => mS P k y fun y => K (.cond c x y)) = K C
   rw [kH]
   split
   ·rename_i hc
    rw [kQ]
    obtain ⟨X, hX, h1⟩ := ihx (fun x => mS P k y fun y => K (.cond (iR c) x y))
    obtain ⟨Y, hY, h2⟩ := ihy (fun y => K (.cond (iR c) X y))
    exact ⟨_, .cond hc hX hY, h1.trans h2⟩
   ·exact ⟨_, .bad _, rfl⟩
 | block id b ih =>
   show ∃ C, _ ∧ jW id (fun id => mS P k b fun b => K (.block id b)) = K C
   rw [jP]
   obtain ⟨B, hB, h1⟩ := ih (fun b => K (.block id b))
   exact ⟨_, .block hB, h1⟩
 | loop b ih =>
   show ∃ C, _ ∧ mS P k b (fun b => K (.loop b)) = K C
   obtain ⟨B, hB, h1⟩ := ih (fun b => K (.loop b))
   exact ⟨_, .loop hB, h1⟩
 | rangeFunc g ps assign body iha ihb =>
   show ∃ C, _ ∧ nI (iK g) (K .bad) (lI g fun g' => b2d k fun pp => wA k ps.toList (fun q => mS P k assign fun a => mS P k body fun b => K (.range g' pp q ps assign body a b)) (K .bad)) = K C
   rw [kH]
   split
   ·rename_i hg
    rw [kQ, b0G]
    rcases b1b k ps.toList (fun q => mS P k assign fun a => mS P k body fun b => K (.range (iR g) ((List.range k).map kL) q ps assign body a b)) (K .bad) with ⟨hps, h⟩ | h
    ·obtain ⟨A, hA, h1⟩ := iha (fun a => mS P k body fun b => K (.range (iR g) ((List.range k).map kL) (ps.toList.map kL) ps assign body a b))
     obtain ⟨B, hB, h2⟩ := ihb (fun b => K (.range (iR g) ((List.range k).map kL) (ps.toList.map kL) ps assign body A b))
     exact ⟨_, .range hg hps hA hB, h.trans (h1.trans h2)⟩
    ·exact ⟨_, .bad _, h⟩
   ·exact ⟨_, .bad _, rfl⟩
 | exit id =>
   show ∃ C, _ ∧ jW id (fun id => K (.exit id)) = K C
   rw [jP]
   exact ⟨_, .exit id, rfl⟩
 | label t => exact ⟨_, .label t, rfl⟩
 | ret => exact ⟨_, .ret, rfl⟩
 | scope b _ => exact ⟨_, .bad _, rfl⟩
 | goto t => exact ⟨_, .bad _, rfl⟩
 | refuse w => exact ⟨_, .bad _, rfl⟩
end
theorem uW {α : Type} {k : Nat} {f : Fr} {l : List Value} (h : FRel k f l) {dst : Option Tmp} {d : Option Pth} (hd : DOk k dst d) (v : Value) (K : Fr → α) : ∃ f', uA d v f K = K f' ∧ FRel k f' (put l dst v) := by
 rcases hd with ⟨rfl, rfl⟩ | ⟨t, rfl, ht, rfl⟩
 ·exact ⟨f, rfl, h⟩
 ·exact ⟨b3l f t v, rR v (kL t) f K, h.put ht v⟩
theorem xO {ops : Array Oper} {l : List Value} {j t : Nat} (ht : (ops[j]?).bind (·.dst) = some t) (htl : t < l.length) (w : Bool) : (iQ ops l j == some w) = isB (get l t) w := by
 have hg : get l t = l[t] := by rw [nT]; simp [htl]
 unfold iQ
 rw [ht, hg]
 simp only [dg htl]
 cases hv : l[t] <;> simp [isB]
 rename_i b
 cases b <;> cases w <;> rfl
theorem b8i {k : Nat} {ops : Array Oper} {C : Calls'} {H0 : Heap} (hC : CallsOk P C H0) {os : List Oper} {lo : LOps} (hlo : LowOps P k ops os lo) : ∀ {i : Nat}, ops.toList.drop i = os → ∀ {f : Fr} {l : List Value} {H : Heap} {f1 : Fr} {H1 : Heap},
 FRel k f l → LK H0 H → yG P C lo f H = .ok f1 H1 → ∃ l1, FRel k f1 l1 ∧ OpsR P ops (List.range' i os.length) l H l1 H1 ∧ LK H H1 := by
 induction hlo with
 | nil =>
   intro i _ f l H f1 H1 hf _ h
   injection h with h1 h2
   subst h1 h2
   exact ⟨l, hf, .nil l H, .refl H⟩
 | @cons o os d lo r hd ho hg hr ih =>
   intro i hi f l H f1 H1 hf hk h
   have hio : ops[i]? = some o := by
    have : (ops.toList.drop i)[0]? = some o := by rw [hi]; rfl
    rw [dy] at this
    simpa using this
   have hi' : ops.toList.drop (i + 1) = os := by rw [← fh, hi]; rfl
   have hw : Region.wanted o (iQ ops l) = true := by simp [Region.wanted, hg]
   have h : b0n Rf.no d f (yG P C r) (opF P C lo f H) = .ok f1 H1 := h
   have key : ∀ v H2, (opF P C lo f H).Is v H2 → (uA d v f fun f => yG P C r f H2) = .ok f1 H1 → ∃ l1, FRel k f1 l1 ∧ OpsR P ops (List.range' i (o :: os).length) l H l1 H1 ∧ LK H H1 := by
    intro v H2 hop hrest
    obtain ⟨hs, hk2⟩ := ho C H0 f l H v H2 hC hk hf.2 hop
    obtain ⟨f', e, hf'⟩ := uW hf hd v (fun f => yG P C r f H2)
    rw [e] at hrest
    obtain ⟨l1, h1, h2, h3⟩ := ih hi' hf' (hk.trans hk2) hrest
    exact ⟨l1, h1, .step hio hw hs h2, hk2.trans h3⟩
   cases hop : opF P C lo f H with
   | no => rw [hop] at h; cases h
   | ok v H2 => rw [hop] at h; exact key v H2 (.inl hop) h
   | th v H2 =>
     rw [hop] at h
     have h : xR v (fun v => nC H2 fun H2 => uA d v f fun f => yG P C r f H2) = .ok f1 H1 := h
     rw [xV, lP] at h
     exact key v H2 (.inr hop) h
 | @gcons o os d lo r j t w hd ho hg ht htk hr ih =>
   intro i hi f l H f1 H1 hf hk h
   have hio : ops[i]? = some o := by
    have : (ops.toList.drop i)[0]? = some o := by rw [hi]; rfl
    rw [dy] at this
    simpa using this
   have hi' : ops.toList.drop (i + 1) = os := by rw [← fh, hi]; rfl
   have hwi : Region.wanted o (iQ ops l) = isB (nK (kL t) f) w := by
    simp only [Region.wanted, hg]
    rw [xO ht (by rw [hf.1]; exact htk) w, hf.2 t]
   have h : nI (isB (nK (kL t) f) w) (uA d undef f fun f => yG P C r f H) (b0n Rf.no d f (yG P C r) (opF P C lo f H)) = .ok f1 H1 := h
   rw [kH] at h
   split at h
   ·rename_i hb
    have key : ∀ v H2, (opF P C lo f H).Is v H2 → (uA d v f fun f => yG P C r f H2) = .ok f1 H1 → ∃ l1, FRel k f1 l1 ∧ OpsR P ops (List.range' i (o :: os).length) l H l1 H1 ∧ LK H H1 := by
     intro v H2 hop hrest
     obtain ⟨hs, hk2⟩ := ho C H0 f l H v H2 hC hk hf.2 hop
     obtain ⟨f', e, hf'⟩ := uW hf hd v (fun f => yG P C r f H2)
     rw [e] at hrest
     obtain ⟨l1, h1, h2, h3⟩ := ih hi' hf' (hk.trans hk2) hrest
     exact ⟨l1, h1, .step hio (by rw [hwi, hb]) hs h2, hk2.trans h3⟩
    cases hop : opF P C lo f H with
    | no => rw [hop] at h; cases h
    | ok v H2 => rw [hop] at h; exact key v H2 (.inl hop) h
    | th v H2 =>
      rw [hop] at h
      have h : xR v (fun v => nC H2 fun H2 => uA d v f fun f => yG P C r f H2) = .ok f1 H1 := h
      rw [xV, lP] at h
      exact key v H2 (.inr hop) h
   ·rename_i hb
    obtain ⟨f', e, hf'⟩ := uW hf hd undef (fun f => yG P C r f H)
    rw [e] at h
    obtain ⟨l1, h1, h2, h3⟩ := ih hi' hf' hk h
    exact ⟨l1, h1, .past hio (by rw [hwi]; simpa using hb) h2, h3⟩
structure Noted (P : Program) (k : Nat) (ops : Array Oper) (H : Heap) (i n : Nat) (T : Nat → List Value × Heap) (val : Nat → Value) (tr0 tr : List (Fr × Heap × Value)) : Prop where
 step : ∀ j, i ≤ j → j < i + n → vL P ops j (T j) (T (j + 1)) (val j)
 new : ∀ j, i ≤ j → j < i + n → ∃ g, tr[i + n - 1 - j]? = some (g, (T j).2, val j) ∧ FAg g (T j).1
 old : ∀ m, tr[n + m]? = tr0[m]?
 lk : ∀ j, i ≤ j → j ≤ i + n → LK H (T j).2
theorem b5b {k : Nat} {ops : Array Oper} {C : Calls'} {H0 : Heap} (hC : CallsOk P C H0) {os : List Oper} {lo : LOps} (hlo : LowOps P k ops os lo) : ∀ {i : Nat}, ops.toList.drop i = os → ∀ {tr0 tr : List (Fr × Heap × Value)} {f : Fr} {l : List Value} {H : Heap} {f1 : Fr} {H1 : Heap},
 FRel k f l → LK H0 H → qQ P C lo tr0 f H = .ok tr f1 H1 → ∃ T val l1, T i = (l, H) ∧ T (i + os.length) = (l1, H1) ∧ FRel k f1 l1 ∧ Noted P k ops H i os.length T val tr0 tr := by
 have more : ∀ {i n : Nat} {o : Oper} {tr0 tr : List (Fr × Heap × Value)} {f : Fr} {l : List Value} {H : Heap} {v : Value} {l2 : List Value} {H2 : Heap} {l1 : List Value} {H1 : Heap} {f1 : Fr}, FRel k f l → vL P ops i (l, H) (l2, H2) v → LK H H2 →
  (∃ T val l1, T (i + 1) = (l2, H2) ∧ T (i + 1 + n) = (l1, H1) ∧ FRel k f1 l1 ∧ Noted P k ops H2 (i + 1) n T val ((f, H, v) :: tr0) tr) →
  ∃ T val l1, T i = (l, H) ∧ T (i + (n + 1)) = (l1, H1) ∧ FRel k f1 l1 ∧ Noted P k ops H i (n + 1) T val tr0 tr := by
  intro i n o tr0 tr f l H v l2 H2 _ H1 f1 hf hst hk ⟨T, val, l1, h1, h2, h3, hN⟩
  refine ⟨fun j => if j ≤ i then (l, H) else T j, fun j => if j ≤ i then v else val j, l1, by simp, ?_, h3, ?_⟩
  ·show (if i + (n + 1) ≤ i then (l, H) else T (i + (n + 1))) = _
   rw [if_neg (by omega), ← h2]; congr 1; omega
  ·refine ⟨fun j hj hn => ?_, fun j hj hn => ?_, fun m => ?_, fun j hj hn => ?_⟩
   ·by_cases he : j = i
    ·subst he
     simp only [dc, if_true]
     rw [if_neg (by omega), h1]
     exact hst
    ·rw [if_neg (by omega), if_neg (by omega), if_neg (by omega)]
     exact hN.step j (by omega) (by omega)
   ·by_cases he : j = i
    ·subst he
     simp only [dc, if_true]
     refine ⟨f, ?_, hf.2⟩
     have := hN.old 0
     rw [show j + (n + 1) - 1 - j = n + 0 by omega, this]; rfl
    ·rw [if_neg (by omega), if_neg (by omega)]
     obtain ⟨g, hg, hag⟩ := hN.new j (by omega) (by omega)
     exact ⟨g, by rw [← hg]; congr 1; omega, hag⟩
   ·have := hN.old (m + 1)
    rw [show n + 1 + m = n + (m + 1) by omega, this]; rfl
   ·by_cases he : j = i
    ·subst he; simp only [dc, if_true]; exact .refl H
    ·rw [if_neg (by omega)]; exact hk.trans (hN.lk j (by omega) (by omega))
 induction hlo with
 | nil =>
   intro i _ tr0 tr f l H f1 H1 hf _ h
   injection h with h1 h2 h3
   subst h1 h2 h3
   exact ⟨fun _ => (l, H), fun _ => undef, l, rfl, rfl, hf, fun j _ h => absurd h (by simp; omega), fun j _ h => absurd h (by simp; omega), fun m => by simp, fun _ _ _ => .refl H⟩
 | @cons o os d lo r hd ho hg hr ih =>
   intro i hi tr0 tr f l H f1 H1 hf hk h
   have hio : ops[i]? = some o := by
    have : (ops.toList.drop i)[0]? = some o := by rw [hi]; rfl
    rw [dy] at this
    simpa using this
   have hi' : ops.toList.drop (i + 1) = os := by rw [← fh, hi]; rfl
   have hw : Region.wanted o (iQ ops l) = true := by simp [Region.wanted, hg]
   have h : b0P tr0 f H d (qQ P C r) (opF P C lo f H) = .ok tr f1 H1 := h
   have key : ∀ v H2, (opF P C lo f H).Is v H2 → (uA d v f fun f2 => qQ P C r ((f, H, v) :: tr0) f2 H2) = .ok tr f1 H1 → ∃ T val l1, T i = (l, H) ∧ T (i + (o :: os).length) = (l1, H1) ∧ FRel k f1 l1 ∧ Noted P k ops H i (o :: os).length T val tr0 tr := by
    intro v H2 hop hrest
    obtain ⟨hs, hk2⟩ := ho C H0 f l H v H2 hC hk hf.2 hop
    obtain ⟨f', e, hf'⟩ := uW hf hd v (fun f2 => qQ P C r ((f, H, v) :: tr0) f2 H2)
    rw [e] at hrest
    have := ih hi' hf' (hk.trans hk2) hrest
    exact more (o := o) (l1 := l) hf ⟨o, hio, rfl, .inl ⟨hw, hs⟩⟩ hk2 this
   cases hop : opF P C lo f H with
   | no => rw [hop] at h; cases h
   | ok v H2 => rw [hop] at h; exact key v H2 (.inl hop) h
   | th v H2 =>
     rw [hop] at h
     have h : xR v (fun v => nC H2 fun H2 => uA d v f fun f2 => qQ P C r ((f, H, v) :: tr0) f2 H2) = .ok tr f1 H1 := h
     rw [xV, lP] at h
     exact key v H2 (.inr hop) h
 | @gcons o os d lo r j t w hd ho hg ht htk hr ih =>
   intro i hi tr0 tr f l H f1 H1 hf hk h
   have hio : ops[i]? = some o := by
    have : (ops.toList.drop i)[0]? = some o := by rw [hi]; rfl
    rw [dy] at this
    simpa using this
   have hi' : ops.toList.drop (i + 1) = os := by rw [← fh, hi]; rfl
   have hwi : Region.wanted o (iQ ops l) = isB (nK (kL t) f) w := by
    simp only [Region.wanted, hg]
    rw [xO ht (by rw [hf.1]; exact htk) w, hf.2 t]
   have h : nI (isB (nK (kL t) f) w) (uA d undef f fun f2 => qQ P C r ((f, H, undef) :: tr0) f2 H) (b0P tr0 f H d (qQ P C r) (opF P C lo f H)) = .ok tr f1 H1 := h
   rw [kH] at h
   split at h
   ·rename_i hb
    have key : ∀ v H2, (opF P C lo f H).Is v H2 → (uA d v f fun f2 => qQ P C r ((f, H, v) :: tr0) f2 H2) = .ok tr f1 H1 → ∃ T val l1, T i = (l, H) ∧ T (i + (o :: os).length) = (l1, H1) ∧ FRel k f1 l1 ∧ Noted P k ops H i (o :: os).length T val tr0 tr := by
     intro v H2 hop hrest
     obtain ⟨hs, hk2⟩ := ho C H0 f l H v H2 hC hk hf.2 hop
     obtain ⟨f', e, hf'⟩ := uW hf hd v (fun f2 => qQ P C r ((f, H, v) :: tr0) f2 H2)
     rw [e] at hrest
     exact more (o := o) (l1 := l) hf ⟨o, hio, rfl, .inl ⟨by rw [hwi, hb], hs⟩⟩ hk2 (ih hi' hf' (hk.trans hk2) hrest)
    cases hop : opF P C lo f H with
    | no => rw [hop] at h; cases h
    | ok v H2 => rw [hop] at h; exact key v H2 (.inl hop) h
    | th v H2 =>
      rw [hop] at h
      have h : xR v (fun v => nC H2 fun H2 => uA d v f fun f2 => qQ P C r ((f, H, v) :: tr0) f2 H2) = .ok tr f1 H1 := h
      rw [xV, lP] at h
      exact key v H2 (.inr hop) h
   ·rename_i hb
    obtain ⟨f', e, hf'⟩ := uW hf hd undef (fun f2 => qQ P C r ((f, H, undef) :: tr0) f2 H)
    rw [e] at h
    exact more (o := o) (l1 := l) hf ⟨o, hio, rfl, .inr ⟨by rw [hwi]; simpa using hb, rfl, rfl⟩⟩ (.refl H) (ih hi' hf' hk h)
theorem b0x {α : Type} (p : α → Bool) (l : List α) : b3z p l = l.all p := by
 induction l with
 | nil => rfl
 | cons x l ih =>
   show nI (p x) false (b3z p l) = _
   rw [kH, ih, fc]
   cases p x <;> rfl
theorem b7k {v : Value} {r : Rs} (h : b8Z v r = true) : ∃ H, r.Is v H := by
 cases r with
 | no => cases h
 | ok w H => exact ⟨H, .inl (by rw [b3S (show veq w v = true from h)])⟩
 | th w H => exact ⟨H, .inr (by rw [b3S (show veq w v = true from h)])⟩
theorem LowTab.get {ops : Array Oper} {tab : List (Nat × Nat)} {t : List (Nat × Option Nat × Option (Pth × Bool) × LOp)} (h : LowTab P ops tab t) {i m : Nat} (hm : (i, m) ∈ tab) : ∃ o lo g, ops[i]? = some o ∧ GOk ops o g ∧ vE P o lo ∧ (ops.size - 1 - i, (if m < ops.size then some (ops.size - 1 - m) else none), g, lo) ∈ t := by
 induction h with
 | nil => cases hm
 | @cons i2 m2 o lo tab t g ho hgd hl hr ih =>
   rcases dP.1 hm with he | hm
   ·injection he with h1 h2
    subst h1 h2
    exact ⟨o, lo, g, ho, hgd, hl, by simp⟩
   ·obtain ⟨o', lo', g', h1, h0, h2, h3⟩ := ih hm
    exact ⟨o', lo', g', h1, h0, h2, eE _ h3⟩
theorem a8I {fl : Fl} {ops : Array Oper} {i m : Nat} (h : (i, m) ∈ lZ fl ops) {o : Oper} (ho : ops[i]? = some o) : nG o.op = true := by
 unfold lZ at h
 simp only [fb] at h
 obtain ⟨⟨x, j⟩, hx, h⟩ := h
 dsimp only at h
 split at h
 ·rename_i hr
  simp only [dx] at h
  obtain ⟨m', _, e⟩ := h
  injection e with e1 e2
  subst e1
  have := gf.1 hx
  have : ops[j]? = some x := by simpa using this
  rw [this] at ho
  injection ho with ho
  subst ho
  exact hr
 ·cases h
theorem b6M (jZ : P.follows .mixedOrders = true) {k id : Nat} {ops : Array Oper} {C : Calls'} {H : Heap} (hC : CallsOk P C H) {lo : LOps} {tab : List (Nat × Nat)} {t : List (Nat × Option Nat × Option (Pth × Bool) × LOp)} (hlo : LowOps P k ops ops.toList lo) (htab : mO P ops = some tab) (hl : LowTab P ops tab t)
 {f : Fr} {l : List Value} {e : Ex} {f1 : Fr} {H1 : Heap} (hf : FRel k f l) (h : b9o P C t (qQ P C lo [] f H) = .ok e f1 H1) : ∃ l1, e = .normal ∧ FRel k f1 l1 ∧ Sim P (.region id ops true) l H .normal l1 H1 ∧ LK H H1 := by
 cases hr : qQ P C lo [] f H with
 | no => rw [hr] at h; cases h
 | ok tr f2 H2 =>
   rw [hr] at h
   have h : nI (b3z (b3T P C tr H2) t) Rc.no (.ok .normal f2 H2) = .ok e f1 H1 := h
   rw [kH] at h
   split at h
   case isFalse => cases h
   rename_i hall
   injection h with h1 h2 h3
   subst h1 h2 h3
   obtain ⟨T, val, l1, hT0, hTn, hf1, hN⟩ := b5b hC hlo (i := 0) rfl hf (.refl H) hr
   rw [fm, fL] at hTn
   rw [fm] at hN
   have hlk : LK H H2 := by have := hN.lk ops.size (eJ _) (by omega); rwa [hTn] at this
   refine ⟨l1, rfl, hf1, ?_, hlk⟩
   have := Sim.draw jZ (id := id) htab (T := T) (val := val) ⟨fun j hj => hN.step j (eJ _) (by omega)⟩ ?_
   ·rw [hT0, hTn] at this; exact this
   ·intro i m o hm ho hw
    obtain ⟨o', lo', gd, ho', hgd, hlow, hmem⟩ := hl.get hm
    rw [ho] at ho'
    obtain rfl := cR ho'
    rw [b0x, dh] at hall
    have hrd := hall _ hmem
    have hi : i < ops.size := (cY.1 ho).1
    obtain ⟨g, hg, hag⟩ := hN.new i (eJ _) (by omega)
    have hg : tr[ops.size - 1 - i]? = some (g, (T i).2, val i) := by rw [← hg]; congr 1; omega
    have hread : nG o.op = true := by
     obtain ⟨fl, _, rfl⟩ := pP htab
     exact a8I hm ho
    have fin : ∀ H3, LK H H3 → b8Z (val i) (opF P C lo' g H3) = true → ∃ H4, opD P o (T i).1 H3 = some (val i, H4) := by
     intro H3 hk3 hq
     obtain ⟨H4, h4⟩ := b7k hq
     obtain ⟨hs, _⟩ := hlow C H g (T i).1 H3 (val i) H4 hC hk3 hag h4
     refine ⟨H4, hs.opD fun c fv hc hv => ?_⟩
     rw [hc] at hread
     simp [nG, hv] at hread
    unfold b3T at hrd
    simp only [xN, hg, hgd.runs hag hw] at hrd
    rw [kH, if_pos rfl] at hrd
    by_cases hms : m < ops.size
    ·rw [if_pos hms] at hrd
     obtain ⟨g2, hg2, _⟩ := hN.new m (eJ _) (by omega)
     have hg2 : tr[ops.size - 1 - m]? = some (g2, (T m).2, val m) := by rw [← hg2]; congr 1; omega
     simp only [hg2] at hrd
     exact fin _ (hN.lk m (eJ _) (by omega)) hrd
    ·rw [if_neg hms] at hrd
     have hle : m = ops.size := by
      obtain ⟨fl, _, rfl⟩ := pP htab
      have := a1Y hm
      omega
     subst hle
     have := fin H2 hlk hrd
     rw [hTn]; exact this
def tK (P : Program) : List ResultVar → List LRes → Prop
 | [], [] => True
 | r :: rs, l :: ls => (match r, l with
   | .tmp t, .t p => p = kL t
   | .cell a t, .c1 p => p = kL a ∧ jI P t = some false
   | .cell a t, .cn n p => p = kL a ∧ jI P t = some true ∧ iA P t = some n
   | _, _ => False) ∧ tK P rs ls
 | _, _ => False
theorem b4R {α : Type} (l : List ResultVar) (K : List LRes → α) (no : α) : (∃ r, tK P l r ∧ a0D P l K no = K r) ∨ a0D P l K no = no := by
 induction l generalizing K with
 | nil => exact .inl ⟨[], trivial, rfl⟩
 | cons r l ih =>
   cases r with
   | tmp t =>
     have e : a0D P (.tmp t :: l) K no = lH (kL t) fun p => a0D P l (fun l => K (.t p :: l)) no := rfl
     rw [e, lD]
     rcases ih (fun l => K (.t (kL t) :: l)) with ⟨q, h1, h2⟩ | h2
     ·exact .inl ⟨.t (kL t) :: q, ⟨rfl, h1⟩, h2⟩
     ·exact .inr h2
   | cell a t =>
     have e : a0D P (.cell a t :: l) K no = match jI P t with
      | some true => a2K (iA P t) no fun n => lH (kL a) fun p => a0D P l (fun l => K (.cn n p :: l)) no
      | some false => lH (kL a) fun p => a0D P l (fun l => K (.c1 p :: l)) no
      | none => no := rfl
     rw [e]
     split
     ·rename_i ha
      cases hn : iA P t with
      | none => exact .inr rfl
      | some n =>
        rw [oM, lD]
        rcases ih (fun l => K (.cn n (kL a) :: l)) with ⟨q, h1, h2⟩ | h2
        ·exact .inl ⟨.cn n (kL a) :: q, ⟨⟨rfl, ha, hn⟩, h1⟩, h2⟩
        ·exact .inr h2
     ·rename_i ha
      rw [lD]
      rcases ih (fun l => K (.c1 (kL a) :: l)) with ⟨q, h1, h2⟩ | h2
      ·exact .inl ⟨.c1 (kL a) :: q, ⟨⟨rfl, ha⟩, h1⟩, h2⟩
      ·exact .inr h2
     ·exact .inr rfl
theorem b0I {H H1 : Heap} {f : Fr} {l : List Value} (hf : FAg f l) {r : ResultVar} {q : LRes} {rs : List ResultVar} {qs : List LRes} (h : tK P (r :: rs) (q :: qs)) {v : Value} (hv : (a3Q H f q).Is v H1) : H1 = H ∧ a1a P l H r = some v ∧ tK P rs qs := by
 obtain ⟨h, hr⟩ := h
 cases r with
 | tmp t => cases q with
   | t p =>
     have h : p = kL t := h
     subst h
     have hv : (oB (nK (kL t) f) fun v => Rs.ok v H).Is v H1 := hv
     rw [mF] at hv
     obtain ⟨rfl, rfl⟩ := Rs.aJ hv
     exact ⟨rfl, by rw [hf t]; rfl, hr⟩
   | c1 p => exact h.elim
   | cn n p => exact h.elim
 | cell a t => cases q with
   | t p => exact h.elim
   | c1 p =>
     obtain ⟨rfl, ha⟩ := h
     obtain ⟨e, h1⟩ := b0O (P := P) (X := .t (kL a)) (w := get l a) ha (hf a) hv
     exact ⟨e, h1, hr⟩
   | cn n p =>
     obtain ⟨rfl, ha, hn⟩ := h
     obtain ⟨e, h1⟩ := b0h (P := P) (X := .t (kL a)) (w := get l a) ha hn (hf a) hv
     exact ⟨e, h1, hr⟩
theorem b7H {H : Heap} {f : Fr} {q : LRes} {v : Value} {H1 : Heap} : ¬ (a3Q H f q = .th v H1) := by
 intro h
 cases q with
 | t p =>
   have h : (oB (nK p f) fun v => Rs.ok v H) = .th v H1 := h
   rw [mF] at h; cases h
 | c1 p =>
   have h : b1o (.t p) f H = .th v H1 := h
   unfold b1o at h
   split at h
   ·unfold b7j at h
    split at h
    ·rw [kH, kH, kH] at h
     split at h
     ·split at h
      ·split at h
       ·rename_i cs _ _ _ _ _ _ _ _
        cases hn : a0E cs _ with
        | none => rw [hn] at h; cases h
        | some w => rw [hn] at h; have h : (oB w fun v => Rs.ok v H) = .th v H1 := h; rw [mF] at h; cases h
       ·cases h
      ·cases h
     ·cases h
    ·cases h
   ·unfold c1M at h
    split at h
    ·rw [kH] at h
     split at h
     ·rename_i cs _ _ _ _
      cases hn : a0E cs _ with
      | none => rw [hn] at h; cases h
      | some w => rw [hn] at h; have h : (oB w fun v => Rs.ok v H) = .th v H1 := h; rw [mF] at h; cases h
     ·cases h
    ·cases h
   ·cases h
 | cn n p =>
   have hh : b2P n (.t p) f H = .th v H1 := h
   unfold b2P at hh
   split at hh
   ·unfold b7y at hh
    split at hh
    ·rw [kH, kH, kH] at hh
     split at hh
     ·split at hh
      ·split at hh
       ·have key : ∀ {cs : List Value} {n : Nat} {pre : List Value}, ¬ (a2t cs n fun l => Rs.ok (.agg ⟨pre ++ l⟩) H) = .th v H1 := by
         intro cs
         induction cs with
         | nil => intro n pre h; cases n <;> cases h
         | cons c cs ih =>
           intro n pre h
           cases n with
           | zero => cases h
           | succ n =>
             have h : (a2t cs n fun l => Rs.ok (.agg ⟨pre ++ (c :: l)⟩) H) = .th v H1 := h
             have e : ∀ l : List Value, pre ++ (c :: l) = (pre ++ [c]) ++ l := by intro l; simp
             have h2 : (a2t cs n fun l => Rs.ok (.agg ⟨(pre ++ [c]) ++ l⟩) H) = .th v H1 := by
              rw [← h]; congr 1; funext l; rw [e l]
             exact ih h2
        exact key (pre := []) hh
       ·cases hh
      ·cases hh
     ·cases hh
    ·cases hh
   ·cases hh
theorem a7w {H H1 : Heap} {f : Fr} {l : List Value} (hf : FAg f l) {v : Value} : ∀ {rs : List ResultVar} {qs : List LRes} {K : List Value → Rs}, tK P rs qs → (b3B H f qs K).Is v H1 → ∃ vs, mX P l H rs = some vs ∧ (K vs).Is v H1
 | [], [], K, _, h => ⟨[], rfl, h⟩
 | [], _ :: _, _, h, _ => h.elim
 | _ :: _, [], _, h, _ => h.elim
 | r :: rs, q :: qs, K, hl, h => by
   have h : (Rs.rec (motive := fun _ => Rs) .no (fun v _ => b3B H f qs fun l => K (v :: l)) (fun _ _ => .no) (a3Q H f q)).Is v H1 := h
   cases hq : a3Q H f q with
   | no => rw [hq] at h; exact absurd h Rs.ar
   | th w H2 => exact absurd hq b7H
   | ok w H2 =>
     rw [hq] at h
     obtain ⟨e, h1, h2⟩ := b0I hf hl (.inl hq)
     obtain ⟨vs, h3, h4⟩ := a7w hf h2 h
     exact ⟨w :: vs, by simp [mX, h1, h3], h4⟩
theorem b4g {fn : Func} {H H1 : Heap} {f : Fr} {l : List Value} (hf : FAg f l) {qs : List LRes} (hl : tK P fn.results.toList qs) {v : Value} (h : (a5L qs f H).Is v H1) : H1 = H ∧ hK P fn l H = some v := by
 unfold a5L at h
 split at h
 ·rename_i q
  cases hr : fn.results.toList with
  | nil => rw [hr] at hl; exact hl.elim
  | cons r rs =>
    rw [hr] at hl
    obtain ⟨e, h1, h2⟩ := b0I hf hl h
    cases rs with
    | cons _ _ => exact h2.elim
    | nil => exact ⟨e, by simp [hK, hr, mX, h1]⟩
 ·rename_i hne
  obtain ⟨vs, h1, h2⟩ := a7w hf hl h
  obtain ⟨h3, h4⟩ := kV h2
  obtain ⟨rfl, rfl⟩ := Rs.aJ h4
  refine ⟨rfl, ?_⟩
  have hlen : ∀ {rs : List ResultVar} {qs : List LRes}, tK P rs qs → rs.length = qs.length := by
   intro rs
   induction rs with
   | nil => intro qs h; cases qs with | nil => rfl | cons => exact h.elim
   | cons r rs ih => intro qs h; cases qs with | nil => exact h.elim | cons q qs => simp [ih h.2]
  have hvl : ∀ {rs : List ResultVar} {vs : List Value}, mX P l H1 rs = some vs → vs.length = rs.length := by
   intro rs
   induction rs with
   | nil => intro vs h; injection h with h; subst h; rfl
   | cons r rs ih =>
     intro vs h
     simp only [mX, cU, cZ] at h
     obtain ⟨w, _, ws, h1, h2⟩ := h
     subst h2
     simp [ih h1]
  have hn1 : vs.length ≠ 1 := by
   rw [hvl h1, hlen hl]
   intro h1
   match qs, h1 with
   | [q], _ => exact hne q rfl
  unfold hK
  rw [h1, cS]
  rw [b0x] at h3
  have h3 : vs.all iU = true := by rw [← h3]; congr 1
  split
  ·exact absurd rfl hn1
  ·rw [if_pos h3]
structure FuncOk (P : Program) (f : FuncId) (g : LFunc) : Prop where
 ex : ∃ fn c, P.funcs[f]? = some fn ∧ fn.body = some c ∧ (fn.name == "runtime.NumGoroutine") = false ∧ g.ps = (List.range fn.ntmps).map kL ∧ Low P fn.ntmps c g.body ∧ tK P fn.results.toList g.res
def TOk (P : Program) (T : LT) : Prop := ∀ f g, a1k (kL f) T = some g → FuncOk P f g
def EOk (P : Program) (E : List LEnv) (H : Heap) : Prop := ∀ en ∈ E, en.L < H.length ∧ ∀ r, iM H en.L = some (.loop r) →
 ∃ k, en.ps = (List.range k).map kL ∧ r.tmps.size = k ∧ en.pp = r.params.toList.map kL ∧ (∀ t ∈ r.params.toList, t < k) ∧ Low P k r.assign en.a ∧ Low P k r.body en.b
theorem EOk.aa {E : List LEnv} {H H' : Heap} (h : EOk P E H) (hk : LK H H') : EOk P E H' := fun en hen => by
 obtain ⟨h1, h2⟩ := h en hen
 refine ⟨dB h1 hk.1, fun r' hr' => ?_⟩
 obtain ⟨r, hr, ea, eb, ep, et⟩ := hk.2 en.L r' h1 hr'
 obtain ⟨k, a, b, c, d, e, f⟩ := h2 r hr
 exact ⟨k, a, by rw [et]; exact b, by rw [ep]; exact c, by rw [ep]; exact d, by rw [ea]; exact e, by rw [eb]; exact f⟩
def a3d (P : Program) (ih : pM) : Prop := ∀ (E : List LEnv) (C : LCode) (k : Nat) (c : Code) (f : Fr) (l : List Value) (H : Heap) (e : Ex) (f1 : Fr) (H1 : Heap), Low P k c C → FRel k f l → EOk P E H → ih E C f H = .ok e f1 H1 →
 ∃ l1, FRel k f1 l1 ∧ Sim P c l H e l1 H1 ∧ LK H H1 ∧ ∀ b, c = .loop b → ∃ n, Rounds P b n l H e l1 H1
theorem yU {α : Type} {no : α} : ∀ {l : List Value} {i m : Nat} {f : Fr} {K : Fr → α}, (oL no l ((List.range' i m).map kL) f K = no) ∨ (l.length ≤ m ∧ ∃ f', oL no l ((List.range' i m).map kL) f K = K f' ∧ ∀ t, nK (kL t) f' = if i ≤ t ∧ t < i + l.length then get l (t - i) else nK (kL t) f)
 | [], i, m, f, K => .inr ⟨eJ _, f, rfl, fun t => by rw [if_neg (by simp only [eG]; omega)]⟩
 | v :: l, i, 0, f, K => .inl rfl
 | v :: l, i, m + 1, f, K => by
   have e : oL no (v :: l) ((List.range' i (m + 1)).map kL) f K = pD v (kL i) f fun f => oL no l ((List.range' (i + 1) m).map kL) f K := by
    rw [gu]; rfl
   rw [e, rR]
   rcases yU (l := l) (i := i + 1) (m := m) (f := b3l f i v) (K := K) with h | ⟨h1, f', h2, h3⟩
   ·exact .inl h
   ·refine .inr ⟨by simp; omega, f', h2, fun t => ?_⟩
    rw [h3 t, a3c]
    by_cases ht : t = i
    ·subst ht
     rw [if_neg (by omega), if_pos rfl, if_pos (by simp), Nat.sub_self]; rfl
    ·rw [if_neg ht]
     by_cases h4 : i + 1 ≤ t ∧ t < i + 1 + l.length
     ·rw [if_pos h4, if_pos (by simp; omega)]
      rw [show t - i = (t - (i + 1)) + 1 by omega]; rfl
     ·rw [if_neg h4, if_neg (by simp; omega)]
theorem vH {α : Type} {no : α} {k : Nat} : ∀ {args : List Value} {ps : List Tmp} {f : Fr} {l : List Value} {K : Fr → α}, FRel k f l → (∀ t ∈ ps, t < k) → args.length = ps.length →
 ∃ f', oL no args (ps.map kL) f K = K f' ∧ FRel k f' ((ps.zip args).foldl (fun t (p, v) => t.set p v) l)
 | [], [], f, l, K, hf, _, _ => ⟨f, rfl, hf⟩
 | v :: args, p :: ps, f, l, K, hf, hp, he => by
   have e : oL no (v :: args) ((p :: ps).map kL) f K = pD v (kL p) f fun f => oL no args (ps.map kL) f K := rfl
   rw [e, rR]
   exact vH (hf.set (hp p (by simp)) v) (fun t ht => hp t (by simp [ht])) (by simpa using he)
 | [], _ :: _, _, _, _, _, _, he => by simp at he
 | _ :: _, [], _, _, _, _, _, he => by simp at he
theorem a0a (l : List Value) (n t : Nat) : get (l ++ List.replicate n undef) t = get l t := by
 rw [nT, nT]
 simp only [cW]
 by_cases h : t < l.length
 ·rw [dY h]
 ·rw [ee (by omega), dS (l := l) (by omega), gF]
  split <;> rfl
theorem a0k {T : LT} (hT : TOk P T) {ih : pM} (hih : a3d P ih) {E : List LEnv} {p : Pth} {f : FuncId} {args : List Value} {H H1 : Heap} {v : Value} (hE : EOk P E H) (hp : p = kL f) (h : (mG T ih E p args H).Is v H1) :
 FnS P f args H (fun v' H' => v' = v ∧ H' = H1) ∧ LK H H1 := by
 unfold mG at h
 split at h
 case h_2 => exact absurd h Rs.ar
 rename_i g hg
 subst hp
 obtain ⟨fn, c, hfn, hb, hn, hps, hlow, hres⟩ := (hT f g hg).ex
 rw [hps] at h
 rw [fA] at h
 rcases yU (no := Rs.no) (l := args) (i := 0) (m := fn.ntmps) (f := .e) (K := fun f => b9K g.res (ih E g.body f H)) with h1 | ⟨h1, f0, h2, h3⟩
 ·rw [h1] at h; exact absurd h Rs.ar
 ·rw [h2] at h
  have hf0 : FRel fn.ntmps f0 (args ++ List.replicate (fn.ntmps - args.length) undef) := by
   refine ⟨by simp; omega, fun t => ?_⟩
   rw [h3 t, a0a]
   by_cases ht : t < args.length
   ·rw [if_pos (by omega)]; rfl
   ·rw [if_neg (by omega), tY, nT, cW, dS (by omega)]; try rfl
  cases hr : ih E g.body f0 H with
  | no => rw [hr] at h; exact absurd h Rs.ar
  | ok e f1 H2 =>
    rw [hr] at h
    obtain ⟨l1, hf1, hs, hk, _⟩ := hih E g.body fn.ntmps c f0 _ H e f1 H2 hlow hf0 hE hr
    have key : (e = .normal ∨ e = .ret) → (a5L g.res f1 H2).Is v H1 → FnS P f args H (fun v' H' => v' = v ∧ H' = H1) ∧ LK H H1 := by
     intro he hv
     obtain ⟨rfl, hv⟩ := b4g hf1.2 hres hv
     exact ⟨⟨fn, c, e, l1, H1, v, hfn, hb, hn, hs, he, hv, rfl, rfl⟩, hk⟩
    cases e with
    | normal => exact key (.inl rfl) h
    | ret => exact key (.inr rfl) h
    | exit id => exact absurd h Rs.ar
theorem b6n {T : LT} (hT : TOk P T) {ih : pM} (hih : a3d P ih) {E : List LEnv} {p : Pth} {f : FuncId} {args : List Value} {H H1 : Heap} {v : Value} (hE : EOk P E H) (hp : p = kL f) (h : (b4i P T ih E p f args H).Is v H1) :
 (FnS P f args H (fun v' H' => v' = v ∧ H' = H1) ∨ pL P f args H = some (v, H1)) ∧ LK H H1 := by
 unfold b4i at h
 cases hg : a1k p T with
 | some g =>
   rw [hg] at h
   obtain ⟨a, b⟩ := a0k (H1 := H1) (v := v) hT hih hE hp (by unfold mG; rw [hg]; exact h)
   exact ⟨.inl a, b⟩
 | none =>
   rw [hg] at h
   have h : (c0B P f args H).Is v H1 := h
   unfold c0B at h
   split at h
   ·rename_i v2 H2 hx
    obtain ⟨rfl, rfl⟩ := Rs.aO h
    exact ⟨.inr hx, a4C hx⟩
   ·exact absurd h Rs.ar
theorem a7I {E : List LEnv} {L : Nat} {en : LEnv} (h : b5Z E L = some en) : en ∈ E ∧ en.L = L := by
 induction E with
 | nil => cases h
 | cons e E ih =>
   have h : nI (Nat.beq e.L L) (b5Z E L) (some e) = some en := h
   rw [kH] at h
   split at h
   ·rename_i hh
    injection h with h
    subst h
    exact ⟨by simp, dK hh⟩
   ·obtain ⟨h1, h2⟩ := ih h
    exact ⟨eE _ h1, h2⟩
theorem a6B (e : Ex) : b9z e = qY e := by cases e <;> rfl
theorem b2o {ih : pM} (hih : a3d P ih) {E : List LEnv} {L : Nat} {args : List Value} {H H1 : Heap} {v : Value} (hE : EOk P E H) (h : (a8t ih E L args H).Is v H1) : wS P L args H v H1 ∧ LK H H1 := by
 unfold a8t at h
 split at h
 case h_2 => exact absurd h Rs.ar
 rename_i en hen
 obtain ⟨hmem, rfl⟩ := a7I hen
 split at h
 case h_2 => exact absurd h Rs.ar
 rename_i p fn tmps ps a b d hg
 obtain ⟨hlen, h⟩ := kV h
 rw [wX] at hlen
 have hlen : ps.size = args.length := by simpa only [decide_eq_true_eq] using hlen
 obtain ⟨k, hps, hsz, hpp, hpk, hla, hlb⟩ := (hE en hmem).2 _ hg
 have hsz : tmps.length = k := by simpa using hsz
 rw [hps, fA] at h
 rcases yU (no := Rs.no) (l := tmps) (i := 0) (m := k) (f := .e) (K := fun f => oL .no args en.pp f fun f => sJ ih E en (ih E en.a f H)) with h1 | ⟨h1, f0, h2, h3⟩
 ·rw [h1] at h; exact absurd h Rs.ar
 rw [h2] at h
 have hf0 : FRel k f0 tmps := by
  refine ⟨hsz, fun t => ?_⟩
  rw [h3 t]
  by_cases ht : t < tmps.length
  ·rw [if_pos (by omega)]; rfl
  ·rw [if_neg (by omega), tY, nT, cW, dS (by omega)]; try rfl
 rw [hpp] at h
 obtain ⟨f2, h4, hf2⟩ := vH (no := Rs.no) (args := args) (ps := ps.toList) (K := fun f => sJ ih E en (ih E en.a f H)) hf0 hpk (by simpa using hlen.symm)
 have h : (oL Rs.no args (List.map kL ps.toList) f0 fun f => sJ ih E en (ih E en.a f H)).Is v H1 := h
 rw [h4] at h
 cases hr1 : ih E en.a f2 H with
 | no => rw [hr1] at h; exact absurd h Rs.ar
 | ok e f3 H2 =>
   rw [hr1] at h
   obtain ⟨l3, hf3, hs1, hk1, _⟩ := hih E en.a k a f2 _ H e f3 H2 hla hf2 hE hr1
   cases e with
   | ret => exact absurd h Rs.ar
   | exit id => exact absurd h Rs.ar
   | normal =>
     have h : (yW ih E en f3 H2).Is v H1 := h
     unfold yW at h
     split at h
     case h_2 => exact absurd h Rs.ar
     rename_i p2 fn2 tmps2 ps2 a2 b2 d2 hg2
     rw [lP] at h
     obtain ⟨r0, hr0, ea, eb, ep, et⟩ := hk1.2 en.L _ (hE en hmem).1 hg2
     rw [hg] at hr0
     injection hr0 with hr0
     injection hr0 with hr0
     subst hr0
     have ea' : a2 = a := ea
     have eb' : b2 = b := eb
     have ep' : ps2 = ps := ep
     have et' : tmps2 = ⟨tmps⟩ := et
     clear ea eb ep et
     subst ea' eb' ep' et'
     have hk2 : LK H2 (hset H2 en.L (.loop ⟨.busy, p2, fn2, ⟨tmps⟩, ps2, a2, b2, d2⟩)) := .loop hg2 ⟨rfl, rfl, rfl, rfl⟩
     cases hr2 : ih E en.b f3 (hset H2 en.L (.loop ⟨.busy, p2, fn2, ⟨tmps⟩, ps2, a2, b2, d2⟩)) with
     | no => rw [hr2] at h; exact absurd h Rs.ar
     | ok e f4 H3 =>
       rw [hr2] at h
       obtain ⟨l4, _, hs2, hk3, _⟩ := hih E en.b k b2 f3 _ _ e f4 H3 hlb hf3 (hE.aa (hk1.trans hk2)) hr2
       have h : (a1d en.L e H3).Is v H1 := h
       unfold a1d at h
       split at h
       case h_2 => exact absurd h Rs.ar
       rename_i st3 p3 fn3 tmps3 ps3 a3 b3 d3 hg3
       have fin : ∀ r', H1 = hset H3 en.L (.loop r') → (r' = { (⟨st3, p3, fn3, tmps3, ps3, a3, b3, d3⟩ : Loop) with state := if (qY e).isNone then .ready else .done, pending := qY e }) → v = .bool (qY e).isNone → wS P en.L args H v H1 ∧ LK H H1 := by
        intro r' hH hr' hv
        refine ⟨?_, hk1.trans (hk2.trans (hk3.trans (by rw [hH]; exact .loop hg3 (by rw [hr']; exact ⟨rfl, rfl, rfl, rfl⟩))))⟩
        have hW := a0q (P := P) (args := args) (K := fun v' H' => v' = v ∧ H' = H1) hg hlen rfl
         ⟨.normal, l3, H2, hs1, rfl, _, hg2, rfl, e, l4, H3, hs2, _, hg3, hv.symm, by rw [hH, hr']⟩
        obtain ⟨v', H', h1, rfl, rfl⟩ := hW
        exact h1
       split at h
       ·rename_i hj
        obtain ⟨rfl, rfl⟩ := Rs.aO h
        rw [a6B] at hj
        exact fin _ rfl (by rw [hj]; rfl) (by rw [hj]; rfl)
       ·rename_i c hj
        obtain ⟨rfl, rfl⟩ := Rs.aO h
        rw [a6B] at hj
        exact fin _ rfl (by rw [hj]; rfl) (by rw [hj]; rfl)
theorem a3D {T : LT} (hT : TOk P T) {ih : pM} (hih : a3d P ih) {E : List LEnv} {H0 : Heap} (hE : EOk P E H0) : CallsOk P (yT P T ih E) H0 where
 fn p f args H v H1 hk h hp := b6n hT hih (hE.aa hk) hp h
 rd L args H v H1 hk h := b2o hih (hE.aa hk) h
theorem b9U {α : Type} {f : Fr} {l : List Value} (hf : FAg f l) (i m : Nat) (K : List Value → α) : frL f ((List.range' i m).map kL) K = K ((List.range' i m).map (get l)) := by
 induction m generalizing i K with
 | zero => rfl
 | succ m ih =>
   have e : frL f ((List.range' i (m + 1)).map kL) K = oB (nK (kL i) f) fun v => frL f ((List.range' (i + 1) m).map kL) fun l => K (v :: l) := by
    rw [gu]; rfl
   rw [e, mF, ih, hf i, gu]; rfl
theorem b7V {α : Type} {k : Nat} {f : Fr} {l : List Value} (hf : FRel k f l) (K : List Value → α) : frL f ((List.range k).map kL) K = K l := by
 rw [fA, b9U hf.2, ← fA]
 congr 1
 apply gm
 intro i
 rw [eo]
 by_cases hi : i < k
 ·rw [gy hi, dD, nT, cW]
  have : i < l.length := by rw [hf.1]; exact hi
  simp [dg this]
 ·rw [dS (by simp; omega), dS (by rw [hf.1]; omega)]; rfl
theorem b2J {T : LT} (hT : TOk P T) {ih : pM} (hih : a3d P ih) {E : List LEnv} {k : Nat} {g : Operand} {ps : Array Tmp} {assign body : Code} {A B : LCode} (hg : iK g = true) (hps : ∀ t ∈ ps.toList, t < k) (ha : Low P k assign A) (hb : Low P k body B)
 {x1 x2 : Fr → Heap → Rc} {f : Fr} {l : List Value} {H : Heap} {e : Ex} {f1 : Fr} {H1 : Heap} (hf : FRel k f l) (hE : EOk P E H) (h : a9Q T ih E (iR g) ((List.range k).map kL) (ps.toList.map kL) ps assign body A B x1 x2 f H = .ok e f1 H1) :
 f1 = f ∧ Sim P (.rangeFunc g ps assign body) l H e l H1 ∧ LK H H1 := by
 unfold a9Q at h
 rw [jK hf.2] at h
 split at h
 case h_2 => cases h
 rename_i j xa xb hgv
 rw [jP, b7V hf, lP, jP] at h
 unfold b0D at h
 rw [lD] at h
 generalize hH0 : H.cons (.loop ⟨.ready, none, 0, ⟨l⟩, ps, assign, body, 0⟩) = H0 at h
 have hl0 : (⟨.ready, none, 0, ⟨l⟩, ps, assign, body, 0⟩ : Loop) = b0C l ps assign body := rfl
 have hE0 : EOk P (⟨H.length, (List.range k).map kL, ps.toList.map kL, A, B⟩ :: E) H0 := by
  intro en hen
  rcases dP.1 hen with rfl | hen
  ·refine ⟨by rw [← hH0, length_cons]; exact Nat.lt_succ_self _, fun r hr => ?_⟩
   rw [← hH0, iJ] at hr
   injection hr with hr
   injection hr with hr
   subst hr
   exact ⟨k, rfl, by simpa using hf.1, rfl, hps, ha, hb⟩
  ·exact (hE.aa (by rw [← hH0]; exact .cons _ _)) en hen
 have key : ∀ v H2, (mG T ih (⟨H.length, (List.range k).map kL, ps.toList.map kL, A, B⟩ :: E) (kL j) (a4s xa (.func (.yield H.length) #[] #[] :: xb)) H0).Is v H2 → tL H.length f H2 = .ok e f1 H1 → f1 = f ∧ Sim P (.rangeFunc g ps assign body) l H e l H1 ∧ LK H H1 := by
  intro v H2 hc hr
  obtain ⟨hfn, hk⟩ := a0k hT hih hE0 rfl hc
  have hargs : a4s xa (.func (.yield H.length) #[] #[] :: xb) = xa ++ [.func (.yield H.length) #[] #[]] ++ xb := by rw [xC]; simp
  rw [hargs, ← hH0, hl0] at hfn
  have fin : ∀ (r : Loop) (H3 : Heap), iM H2 H.length = some (.loop r) → r.state ≠ .busy → H3 = hset H2 H.length (.loop { r with state := .exhausted }) → (r.pending = none → e = .normal) → (∀ c, r.pending = some c → (c = .ret ∧ e = .ret) ∨ ∃ id, c = .exit id ∧ e = .exit id) → f1 = f → H1 = H3 →
   f1 = f ∧ Sim P (.rangeFunc g ps assign body) l H e l H1 ∧ LK H H1 := by
   intro r H3 hrl hnb hH3 hp0 hp1 he1 he2
   have hw : Wp P (.rangeFunc g ps assign body) l H (fun e' l' H' => e' = e ∧ l' = l ∧ H' = H3) := by
    refine Wp.range (first := xa) (captured := xb) hg (by rw [hgv]) (hfn.mono ?_)
    rintro v' H' ⟨rfl, rfl⟩
    refine ⟨r, hrl, hnb, fun hp => ⟨(hp0 hp).symm, rfl, hH3.symm⟩, fun c hc => ?_⟩
    rcases hp1 c hc with ⟨rfl, he⟩ | ⟨id, rfl, he⟩
    ·exact Wp.ret ⟨he.symm, rfl, hH3.symm⟩
    ·exact Wp.exit ⟨he.symm, rfl, hH3.symm⟩
   obtain ⟨e', l', H', hs, rfl, rfl, rfl⟩ := hw
   refine ⟨he1, by rw [he2]; exact hs, ?_⟩
   rw [he2, hH3]
   have h1 : LK H H0 := by rw [← hH0]; exact .cons _ _
   exact h1.trans (hk.trans (.loop hrl ⟨rfl, rfl, rfl, rfl⟩))
  unfold tL at hr
  split at hr
  ·rename_i hg2
   rw [lP] at hr
   injection hr with h1 h2 h3
   exact fin _ _ hg2 (by simp) rfl (fun _ => h1.symm) (fun c hc => by cases hc) h2.symm h3.symm
  ·rename_i hg2
   rw [lP] at hr
   injection hr with h1 h2 h3
   exact fin _ _ hg2 (by simp) rfl (fun _ => h1.symm) (fun c hc => by cases hc) h2.symm h3.symm
  ·rename_i hg2
   rw [lP] at hr
   injection hr with h1 h2 h3
   exact fin _ _ hg2 (by simp) rfl (fun hc => by cases hc) (fun c hc => by injection hc with hc; subst hc; exact .inl ⟨rfl, h1.symm⟩) h2.symm h3.symm
  ·rename_i hg2
   rw [lP] at hr
   injection hr with h1 h2 h3
   exact fin _ _ hg2 (by simp) rfl (fun hc => by cases hc) (fun c hc => by injection hc with hc; subst hc; exact .inr ⟨_, rfl, h1.symm⟩) h2.symm h3.symm
  ·cases hr
 cases hc : mG T ih (⟨H.length, (List.range k).map kL, ps.toList.map kL, A, B⟩ :: E) (kL j) (a4s xa (.func (.yield H.length) #[] #[] :: xb)) H0 with
 | no => rw [hc] at h; cases h
 | ok v H2 => rw [hc] at h; exact key v H2 (.inl hc) h
 | th v H2 =>
   rw [hc] at h
   have h : nC H2 (fun H => tL _ f H) = .ok e f1 H1 := h
   rw [lP] at h
   exact key v H2 (.inr hc) h
theorem b9Z (jZ : P.follows .mixedOrders = true) {T : LT} (hT : TOk P T) : ∀ n, a3d P (exF P T n) := by
 intro n
 induction n with
 | zero => intro E C k c f l H e f1 H1 _ _ _ h; cases h
 | succ n ih =>
   intro E C k c f l H e f1 H1 hlow hf hE h
   have h : b0s P T (exF P T n) E C f H = .ok e f1 H1 := h
   have noloop : ∀ {c : Code}, (∀ b, c ≠ .loop b) → ∀ {l1 : List Value}, ∀ b, c = .loop b → ∃ n, Rounds P b n l H e l1 H1 := fun hne _ b hb => absurd hb (hne b)
   cases hlow with
   | bad => cases h
   | skip =>
     injection h with h1 h2 h3; subst h1 h2 h3
     exact ⟨l, hf, .skip l H, .refl H, noloop (by intro b h; cases h)⟩
   | label t =>
     injection h with h1 h2 h3; subst h1 h2 h3
     exact ⟨l, hf, .label t l H, .refl H, noloop (by intro b h; cases h)⟩
   | exit id =>
     injection h with h1 h2 h3; subst h1 h2 h3
     exact ⟨l, hf, .exit id l H, .refl H, noloop (by intro b h; cases h)⟩
   | ret =>
     injection h with h1 h2 h3; subst h1 h2 h3
     exact ⟨l, hf, .ret l H, .refl H, noloop (by intro b h; cases h)⟩
   | @reg id ops d lo hlo hd =>
     have h : c2M (yG P (yT P T (exF P T n) E) lo f H) = .ok e f1 H1 := h
     cases hr : yG P (yT P T (exF P T n) E) lo f H with
     | no => rw [hr] at h; cases h
     | ok f2 H2 =>
       rw [hr] at h
       injection h with h1 h2 h3; subst h1 h2 h3
       obtain ⟨l1, hf1, hops, hk⟩ := b8i (a3D hT ih hE) hlo (i := 0) rfl hf (.refl H) hr
       have hops : OpsR P ops (List.range ops.size) l H l1 H2 := by rw [fA]; simpa using hops
       refine ⟨l1, hf1, ?_, hk, noloop (by intro b h; cases h)⟩
       cases d with
       | false => exact .region hops
       | true => exact .bW jZ (hd rfl) hops
   | drw hlo ht hl =>
     obtain ⟨l1, rfl, hf1, hs, hk⟩ := b6M jZ (a3D hT ih hE) hlo ht hl hf h
     exact ⟨l1, hf1, hs, hk, noloop (by intro b h; cases h)⟩
   | @seq a b A B ha hb =>
     have h : b6U (exF P T n) E B (exF P T n E A f H) = .ok e f1 H1 := h
     cases hr : exF P T n E A f H with
     | no => rw [hr] at h; cases h
     | ok e2 f2 H2 =>
       rw [hr] at h
       obtain ⟨l2, hf2, hs, hk, _⟩ := ih E A k a f l H e2 f2 H2 ha hf hE hr
       cases e2 with
       | normal =>
         obtain ⟨l1, hf1, hs1, hk1, _⟩ := ih E B k b f2 l2 H2 e f1 H1 hb hf2 (hE.aa hk) h
         exact ⟨l1, hf1, .seq hs hs1, hk.trans hk1, noloop (by intro b h; cases h)⟩
       | ret =>
         injection h with h1 h2 h3; subst h1 h2 h3
         exact ⟨l2, hf2, .seq' hs (by intro h; cases h), hk, noloop (by intro b h; cases h)⟩
       | exit id =>
         injection h with h1 h2 h3; subst h1 h2 h3
         exact ⟨l2, hf2, .seq' hs (by intro h; cases h), hk, noloop (by intro b h; cases h)⟩
   | @cond c x y X Y hc hx hy =>
     have h : b4W (exF P T n) E (iR c) X Y (b0s P T (exF P T n) E X) (b0s P T (exF P T n) E Y) f H = .ok e f1 H1 := h
     unfold b4W at h
     rw [jK hf.2] at h
     split at h
     ·rename_i t ht
      cases t with
      | true =>
        obtain ⟨l1, hf1, hs, hk, _⟩ := ih E X k x f l H e f1 H1 hx hf hE h
        exact ⟨l1, hf1, .cond ht hc hs, hk, noloop (by intro b h; cases h)⟩
      | false =>
        obtain ⟨l1, hf1, hs, hk, _⟩ := ih E Y k y f l H e f1 H1 hy hf hE h
        exact ⟨l1, hf1, .cond ht hc hs, hk, noloop (by intro b h; cases h)⟩
     ·cases h
   | @block id b B hb =>
     have h : c3A id (exF P T n E B f H) = .ok e f1 H1 := h
     cases hr : exF P T n E B f H with
     | no => rw [hr] at h; cases h
     | ok e2 f2 H2 =>
       rw [hr] at h
       obtain ⟨l2, hf2, hs, hk, _⟩ := ih E B k b f l H e2 f2 H2 hb hf hE hr
       have hs' : Sim P (.block id b) l H (e2.out id) l2 H2 := .block hs
       cases e2 with
       | normal => injection h with h1 h2 h3; subst h1 h2 h3; exact ⟨l2, hf2, hs', hk, noloop (by intro b h; cases h)⟩
       | ret => injection h with h1 h2 h3; subst h1 h2 h3; exact ⟨l2, hf2, hs', hk, noloop (by intro b h; cases h)⟩
       | exit i =>
         have h : Rc.ok (Bool.rec (motive := fun _ => Ex) (.exit i) .normal (Nat.beq i id)) f2 H2 = .ok e f1 H1 := h
         injection h with h1 h2 h3; subst h2 h3
         have : (Ex.exit i).out id = e := by
          rw [← h1]
          by_cases hi : i = id
          ·subst hi; simp [Ex.out]
          ·have : Nat.beq i id = false := fK.2 fun e => hi (dK e)
           simp [Ex.out, hi, this]
         rw [this] at hs'
         exact ⟨l2, hf2, hs', hk, noloop (by intro b h; cases h)⟩
   | @loop b B hb =>
     have h : b6U (exF P T n) E (.loop B) (exF P T n E B f H) = .ok e f1 H1 := h
     cases hr : exF P T n E B f H with
     | no => rw [hr] at h; cases h
     | ok e2 f2 H2 =>
       rw [hr] at h
       obtain ⟨l2, hf2, hs, hk, _⟩ := ih E B k b f l H e2 f2 H2 hb hf hE hr
       have last : e2 ≠ .normal → e2 = e → f2 = f1 → H2 = H1 → ∃ l1, FRel k f1 l1 ∧ Sim P (.loop b) l H e l1 H1 ∧ LK H H1 ∧ ∀ b', Code.loop b = .loop b' → ∃ n, Rounds P b' n l H e l1 H1 := by
        intro hne h1 h2 h3
        subst h1 h2 h3
        have hr : Rounds P b 1 l H e2 l2 H2 := .last hs hne
        exact ⟨l2, hf2, .loop hr, hk, fun b' hb' => by injection hb' with hb'; subst hb'; exact ⟨1, hr⟩⟩
       cases e2 with
       | normal =>
         obtain ⟨l1, hf1, hs1, hk1, hro⟩ := ih E (.loop B) k (.loop b) f2 l2 H2 e f1 H1 (.loop hb) hf2 (hE.aa hk) h
         obtain ⟨m, hm⟩ := hro b rfl
         have hr : Rounds P b (m + 1) l H e l1 H1 := .more hs hm
         exact ⟨l1, hf1, .loop hr, hk.trans hk1, fun b' hb' => by injection hb' with hb'; subst hb'; exact ⟨_, hr⟩⟩
       | ret => injection h with h1 h2 h3; exact last (by intro h; cases h) h1 h2 h3
       | exit id => injection h with h1 h2 h3; exact last (by intro h; cases h) h1 h2 h3
   | range hg hps ha hb =>
     obtain ⟨rfl, hs, hk⟩ := b2J (x1 := fun _ _ => .no) (x2 := fun _ _ => .no) hT ih hg hps ha hb hf hE h
     exact ⟨l, hf, hs, hk, noloop (by intro b h; cases h)⟩
theorem wP {α : Type} (v : LFunc) (p : Pth) (f : LT) (K : LT → α) : rH v p f K = K (rH v p f fun f => f) := by
 induction p generalizing f α with
 | z => cases f <;> rfl
 | l p ih =>
   cases f with
   | e =>
     show rH v p .e (fun l => K (.n none l .e)) = K (rH v p .e fun l => .n none l .e)
     rw [ih, ih (K := fun l => LT.n none l .e)]
   | n w l r =>
     show rH v p l (fun l => K (.n w l r)) = K (rH v p l fun l => .n w l r)
     rw [ih, ih (K := fun l => LT.n w l r)]
 | r p ih =>
   cases f with
   | e =>
     show rH v p .e (fun l => K (.n none .e l)) = K (rH v p .e fun l => .n none .e l)
     rw [ih, ih (K := fun l => LT.n none .e l)]
   | n w l r =>
     show rH v p r (fun r => K (.n w l r)) = K (rH v p r fun r => .n w l r)
     rw [ih, ih (K := fun r => LT.n w l r)]
theorem wB (p : Pth) : a1k p .e = none := by cases p <;> rfl
theorem b2l (v : LFunc) (p q : Pth) (f : LT) {g : LFunc} (h : a1k q (rH v p f fun f => f) = some g) : (q = p ∧ g = v) ∨ a1k q f = some g := by
 induction p generalizing f q with
 | z =>
   cases q with
   | z => left; refine ⟨rfl, ?_⟩; cases f <;> (injection h with h; exact h.symm)
   | l q => right; cases f with
     | e => have h : a1k q .e = some g := h
            rw [wB] at h; cases h
     | n => exact h
   | r q => right; cases f with
     | e => have h : a1k q .e = some g := h
            rw [wB] at h; cases h
     | n => exact h
 | l p ih =>
   have h1 : ∀ f, rH v (.l p) f (fun f => f) = match f with | .e => .n none (rH v p .e fun f => f) .e | .n w l r => .n w (rH v p l fun f => f) r := fun f => by
    cases f with
    | e => exact wP v p .e fun l => LT.n none l .e
    | n w l r => exact wP v p l fun l => LT.n w l r
   rw [h1] at h
   cases q with
   | z => right; cases f with
     | e => exact h
     | n => exact h
   | r q => right; cases f with
     | e => have h : a1k q .e = some g := h
            rw [wB] at h; cases h
     | n => exact h
   | l q =>
     cases f with
     | e =>
       rcases ih q .e h with ⟨rfl, hq⟩ | h
       ·exact .inl ⟨rfl, hq⟩
       ·rw [wB] at h; cases h
     | n w l r =>
       rcases ih q l h with ⟨rfl, hq⟩ | h
       ·exact .inl ⟨rfl, hq⟩
       ·exact .inr h
 | r p ih =>
   have h1 : ∀ f, rH v (.r p) f (fun f => f) = match f with | .e => .n none .e (rH v p .e fun f => f) | .n w l r => .n w l (rH v p r fun f => f) := fun f => by
    cases f with
    | e => exact wP v p .e fun l => LT.n none .e l
    | n w l r => exact wP v p r fun r => LT.n w l r
   rw [h1] at h
   cases q with
   | z => right; cases f with
     | e => exact h
     | n => exact h
   | l q => right; cases f with
     | e => have h : a1k q .e = some g := h
            rw [wB] at h; cases h
     | n => exact h
   | r q =>
     cases f with
     | e =>
       rcases ih q .e h with ⟨rfl, hq⟩ | h
       ·exact .inl ⟨rfl, hq⟩
       ·rw [wB] at h; cases h
     | n w l r =>
       rcases ih q r h with ⟨rfl, hq⟩ | h
       ·exact .inl ⟨rfl, hq⟩
       ·exact .inr h
theorem b1V {α : Type} (f : FuncId) (no : α) (K : LFunc → α) : (∃ g, FuncOk P f g ∧ a1w P f no K = K g) ∨ a1w P f no K = no := by
 unfold a1w
 split
 ·rename_i fn hfn
  split
  ·rename_i c hb
   rw [kH]
   split
   ·exact .inr rfl
   ·rename_i hn
    rcases b4R (P := P) fn.results.toList (fun res => b2d fn.ntmps fun ps => mS P fn.ntmps c fun b => K ⟨ps, b, res⟩) no with ⟨res, hres, h1⟩ | h1
    ·rw [h1, b0G]
     obtain ⟨C, hC, h2⟩ := b1m (P := P) fn.ntmps c (fun b => K ⟨(List.range fn.ntmps).map kL, b, res⟩)
     exact .inl ⟨⟨_, C, res⟩, ⟨fn, c, hfn, hb, by simpa using hn, rfl, hC, hres⟩, h2⟩
    ·exact .inr h1
  ·exact .inr rfl
 ·exact .inr rfl
theorem b5k {α : Type} (fs : List FuncId) (T : LT) (hT : TOk P T) (K : LT → α) : ∃ T', TOk P T' ∧ sS P fs T K = K T' := by
 induction fs generalizing T with
 | nil => exact ⟨T, hT, rfl⟩
 | cons f fs ih =>
   have e : sS P (f :: fs) T K = a1w P f (sS P fs T K) fun g => lH (kL f) fun p => rH g p T fun T => sS P fs T K := rfl
   rw [e]
   rcases b1V (P := P) f (sS P fs T K) (fun g => lH (kL f) fun p => rH g p T fun T => sS P fs T K) with ⟨g, hg, h⟩ | h
   ·rw [h, lD, wP]
    refine ih _ fun f' g' h' => ?_
    rcases b2l g (kL f) (kL f') T h' with ⟨he, rfl⟩ | h'
    ·rw [b0g he]; exact hg
    ·exact hT f' g' h'
   ·rw [h]; exact ih T hT
end Go.Ds
namespace Go.Ds
open Go.Proofs Go.Proofs.Tryz
def t64 : List Nat := [0, 1, 56, 2, 57, 49, 28, 3, 61, 58, 42, 50, 38, 29, 17, 4, 62, 47, 59, 36, 45, 43, 51, 22, 53, 39, 33, 30, 24, 18, 12, 5, 63, 55, 48, 27, 60, 41, 37, 16, 46, 35, 44, 21, 52, 32, 23, 11, 54, 26, 40, 15, 34, 20, 31, 10, 25, 14, 19, 9, 13, 8, 7, 6]
def t32 : List Nat := [0, 1, 28, 2, 29, 14, 24, 3, 30, 22, 20, 15, 25, 17, 4, 8, 31, 27, 13, 23, 21, 19, 16, 7, 26, 12, 18, 6, 11, 5, 10, 9]
noncomputable def gH : Heap := ((((Heap.nil.cons (.cells (t64.map fun (n : Nat) => Value.int .u8 (.ofNat n)) 5 false 0 1)).cons (.cells [] 3 false 0 1)).cons (.cells ([1, 10, 100, 1000, 10000, 100000, 1000000, 10000000, 100000000, 1000000000, 10000000000, 100000000000, 1000000000000, 10000000000000, 100000000000000, 1000000000000000, 10000000000000000, 100000000000000000, 1000000000000000000, 10000000000000000000].map fun (n : Nat) => Value.int .u64 (.ofNat n)) 38 false 0 1)).cons (.cells (t32.map fun (n : Nat) => Value.int .u8 (.ofNat n)) 5 false 0 1))
theorem c3p : prog.follows .mixedOrders = true := by kernel_rfl
def b3a : Nat → Nat → List UInt8 → List UInt8
 | 0, _, acc => acc
 | f + 1, n, acc => if n < 10 then (48 + n).toUInt8 :: acc else b3a f (n / 10) ((48 + n % 10).toUInt8 :: acc)
def oO (n : Nat) : ByteArray := ⟨(b3a 100 n []).toArray⟩
theorem a4l {b : ByteArray} {n : Nat} (h : b.data.toList = b3a 100 n []) : b = oO n := by
 cases b with | mk d => cases d with | mk l => simp only at h; subst h; rfl
def b0R (r : Rs) (n : Nat) : Bool := match r with
 | .ok (.string b) _ => decide (b.data.toList = b3a 100 n [])
 | .th (.string b) _ => decide (b.data.toList = b3a 100 n [])
 | _ => false
def b7f (v : Value) (n : Nat) : Bool := match v with
 | .tuple vs => match vs.toList with
   | [.string b, .int .i64 m] => decide (m = 0) && decide (b.data.toList = b3a 100 n [])
   | _ => false
 | _ => false
def b6p (r : Rs) (n : Nat) : Bool := match r with
 | .ok v _ => b7f v n
 | .th v _ => b7f v n
 | _ => false
def b4J (r : Rs) (n : Int) : Bool := match r with
 | .ok (.int .i64 m) _ => decide (m = n)
 | .th (.int .i64 m) _ => decide (m = n)
 | _ => false
noncomputable def b9H (ps : List Nat) : Bool := sS prog [115, 99, 155, 132, 165, 181, 185, 186, 187, 188, 191, 192, 193, 194, 196] .e fun T => ps.all fun x => b0R (mG T (exF prog T 4000) [] (kL 99) [.int .i64 x] gH) x
def fsP : List Nat := [115, 179, 161, 163, 32, 98, 155, 178, 190, 54, 55, 128, 129, 130, 131, 135, 189, 195, 158, 159, 160, 162, 164, 166, 167, 176, 177, 180, 182, 185, 186, 187, 188, 191, 192, 193, 194, 196]
noncomputable def uC (ps : List Nat) : Bool := sS prog fsP .e fun T => ps.all fun x => b6p (mG T (exF prog T 4000) [] (kL 98) [.string (oO x), .int .i64 24] gH) (x ^ 24)
def fsM : List Nat := [115, 179, 161, 163, 32, 99, 100, 155, 132, 178, 190, 54, 55, 128, 129, 130, 131, 133, 135, 165, 189, 195, 158, 159, 160, 162, 164, 166, 167, 181, 176, 177, 180, 182, 185, 186, 187, 188, 191, 192, 193, 194, 196]
noncomputable def lL (ps : List (Nat × Nat)) : Bool := sS prog fsM .e fun T => ps.all fun x => b0R (mG T (exF prog T 4000) [] (kL 100) [.string (oO x.1), .string (oO x.2)] gH) (x.1 * x.2)
def rJ (t : Nat × Nat) : List (Nat × Nat) := (t.1 ^ 24, 2) :: (List.range t.2).map fun k => (2 * t.1 ^ 24 * 4 ^ k, 4)
def a5N (t : Nat × Nat × Nat) : List (Nat × Nat) := (List.range (t.2.2 + 1)).map fun k => (t.1 ^ 24, 2 * t.2.1 ^ 24 * 4 ^ k)
def b5p (a b : Nat) : Int := if a < b then -1 else if b < a then 1 else 0
noncomputable def tO (ps : List (Nat × Nat)) : Bool := sS prog [101, 134, 135, 136, 166, 167, 168, 182, 183] .e fun T => ps.all fun x => b4J (mG T (exF prog T 4000) [] (kL 101) [.string (oO x.1), .string (oO x.2)] gH) (b5p x.1 x.2)
end Go.Ds
namespace Go.Ds
open Go.RowKit Go.Proofs
section
variable {P : Program} {ρ : Rho} {H : Heap} {w : World}
theorem a3C {name : String} {g : Nat} {k : IntKind} {zs : List Int} (hg : P.globalNamed name = some g) (ht : Lib.TabIs P w name k zs) : ∃ t fr, w.heap[g]? = some (.cells (zs.map fun z => Value.int k z).toArray t fr) := by
 unfold Lib.TabIs World.var? at ht
 rw [hg, cS] at ht
 split at ht
 ·rename_i cs t fr hb
  obtain rfl := cR ht
  exact ⟨t, fr, hb⟩
 ·cases ht
theorem InW.cI (h : InW P ρ H w) {name : String} {g : Nat} {k : IntKind} {zs : List Int} {ty : TypeId} (hg : P.globalNamed name = some g) (ht : Lib.TabIs P w name k zs) (hgH : g = H.length) (hty : iA P ty = some 1) :
 InW P (ρ.put H.length (zs.map fun z => Value.int k z).length ⟨g, 0, zs.length, 1⟩) (H.cons (.cells (zs.map fun z => Value.int k z) ty false 0 1)) w := by
 obtain ⟨t, fr, hb⟩ := a3C hg ht
 refine (h.row ⟨g, 0, zs.length, 1⟩ hb (ty := ty) hty (by simp) (zs.map fun z => Value.int k z) 1 (fun _ => ⟨hgH, rfl⟩) (by simp) fun i c hi _ hc => ⟨c, ?_, ?_⟩).1
 ·have : (⟨g, 0, zs.length, 1⟩ : Place).at i = i := by simp [Place.at]
  rw [this]
  simpa using hc
 ·rw [eo] at hc
  obtain ⟨z, _, rfl⟩ := cZ.1 hc
  exact .c0 (.flat rfl)
end
theorem c2f : ∀ A b, iM gH A = some b → ∃ cs ty lo, b = .cells cs ty false lo 1 ∧ kC cs = true := by
 intro A b h
 unfold gH at h
 have hn : ∀ (H : Heap) (c : Blk), iM (H.cons c) A = some b → (A = H.length ∧ b = c) ∨ iM H A = some b := fun H c h => by
  by_cases he : A = H.length
  ·subst he; rw [iJ] at h; exact .inl ⟨rfl, (cR h).symm⟩
  ·have hA : A < (H.cons c).length := jE h
   rw [length_cons] at hA
   rw [jG _ (by omega)] at h
   exact .inr h
 rcases hn _ _ h with ⟨_, rfl⟩ | h
 ·exact ⟨_, _, _, rfl, by kernel_rfl⟩
 rcases hn _ _ h with ⟨_, rfl⟩ | h
 ·exact ⟨_, _, _, rfl, by kernel_rfl⟩
 rcases hn _ _ h with ⟨_, rfl⟩ | h
 ·exact ⟨_, _, _, rfl, by kernel_rfl⟩
 rcases hn _ _ h with ⟨_, rfl⟩ | h
 ·exact ⟨_, _, _, rfl, by kernel_rfl⟩
 ·have : A < 0 := jE h
  omega
theorem ExtW.glob {ρ ρ' : Rho} {H' : Heap} (h : ExtW ρ gH ρ' H') : Glob gH H' := ⟨h.len, fun A hA => h.old A hA, c2f⟩
def p10 : List Int := [1, 10, 100, 1000, 10000, 100000, 1000000, 10000000, 100000000, 1000000000, 10000000000, 100000000000, 1000000000000, 10000000000000, 100000000000000, 1000000000000000, 10000000000000000, 100000000000000000, 1000000000000000000, 10000000000000000000]
theorem g64 : Tryz.prog.globalNamed "math/bits.deBruijn64tab" = some 0 := by kernel_rfl
theorem oW : Tryz.prog.globalNamed "internal/strconv.uint64pow10" = some 2 := by kernel_rfl
theorem g32 : Tryz.prog.globalNamed "math/bits.deBruijn32tab" = some 3 := by kernel_rfl
theorem b7A {w : World} (h64 : Lib.TabIs Tryz.prog w "math/bits.deBruijn64tab" .u8 (t64.map Int.ofNat)) (h10 : Lib.TabIs Tryz.prog w "internal/strconv.uint64pow10" .u64 p10)
 (h32 : Lib.TabIs Tryz.prog w "math/bits.deBruijn32tab" .u8 (t32.map Int.ofNat)) (h1001 : ∃ cs t fr, w.heap[1]? = some (.cells cs t fr)) : ∃ ρ, InW Tryz.prog ρ gH w := by
 have a0 := (InW.none (P := Tryz.prog) w).cI g64 h64 (ty := 5) rfl (by kernel_rfl)
 obtain ⟨cs1, t1, fr1, hb1⟩ := h1001
 have a1 := (a0.row ⟨1, 0, cs1.size, 1⟩ hb1 (ty := 3) (by kernel_rfl) rfl [] 1 (fun _ => ⟨rfl, rfl⟩) (by simp) (fun i c hi => by simp at hi)).1
 have a2 := a1.cI oW h10 (ty := 38) rfl (by kernel_rfl)
 have a3 := a2.cI g32 h32 (ty := 5) rfl (by kernel_rfl)
 exact ⟨_, a3⟩
end Go.Ds
namespace Go.Ds
noncomputable section
variable {P : Program} {H0 : Base} {H : Heap} {os : List Ob} {κ β : Type} [DecidableEq κ] {enc : κ → Value} {f : β → Value} {t : TypeId} {z : Value}
structure MapK (P : Program) (t : TypeId) {κ : Type} [DecidableEq κ] (enc : κ → Value) (z : Value) : Prop where
 ex : ∃ kt et, yK P t = some (kt, et) ∧ iX P et = some z ∧ iY z = true ∧ (∀ b k, xH P b kt (enc k) = true) ∧
  (∀ k (es : List MapEntry) (ks : List κ), es.map (·.key) = ks.map enc → qW P kt (enc k) es = some (ks.findIdx? fun x => decide (x = k))) ∧ ∀ k, Instr.sameBits 10000 (enc k) (enc k) = true
def kcs (enc : κ → Value) (f : β → Value) (kvs : List (κ × β)) : List Value := kvs.flatMap fun p => [enc p.1, f p.2]
def a2l (kvs : List (κ × β)) (k : κ) : Option β := (kvs.find? fun p => decide (p.1 = k)).map (·.2)
def a5a (kvs : List (κ × β)) (k : κ) (v : β) : List (κ × β) := match kvs.findIdx? (fun p => decide (p.1 = k)) with
 | some j => kvs.set j (k, v)
 | none => kvs ++ [(k, v)]
theorem a3Y : ∀ (es : List MapEntry) (kvs : List (κ × β)), kcs enc f kvs = mcs es → es.map (·.key) = kvs.map (fun p => enc p.1) ∧ es.map (·.val) = kvs.map (fun p => f p.2)
 | [], [], _ => ⟨rfl, rfl⟩
 | [], p :: kvs, h => by simp [kcs, mcs] at h
 | e :: es, [], h => by simp [kcs, mcs] at h
 | e :: es, p :: kvs, h => by
   simp only [kcs, mcs, dG, gS, eV, fI] at h
   obtain ⟨h1, h2, h3⟩ := h
   obtain ⟨h4, h5⟩ := a3Y es kvs h3
   simp only [dU]
   exact ⟨by rw [h4, h1], by rw [h5, h2]⟩
theorem a8q : ∀ (es : List MapEntry) (kvs : List (κ × β)), es.map (·.key) = kvs.map (fun p => enc p.1) → es.map (·.val) = kvs.map (fun p => f p.2) → kcs enc f kvs = mcs es
 | [], [], _, _ => rfl
 | [], p :: kvs, h, _ => by simp at h
 | e :: es, [], h, _ => by simp at h
 | e :: es, p :: kvs, h, h' => by
   simp only [dU, fI] at h h'
   have := a8q es kvs h.2 h'.2
   simp only [kcs, mcs, dG] at this ⊢
   rw [this, h.1, h'.1]
theorem St.bX (hS : St P H0 H os) (i : Nat) {A : Nat} {cs : List Value} (ho : os[i]? = some ⟨.map (some A), 0, cs⟩) : ∃ es ck ver, iM H A = some (.map es ck ver) ∧ cs = mcs es ∧ Stamps es ck := by
 have := hS.own _ (dF ho)
 unfold OwnAt at this
 rw [if_pos rfl] at this
 rcases this with ⟨_, _, _, _, _, _, h⟩ | ⟨A', es, ck, ver, h1, h2, h3, h4⟩
 ·cases h
 ·simp only [Value.map.injEq, dw] at h3
  subst h3
  exact ⟨es, ck, ver, h1, h2, h4⟩
theorem b0L (kvs : List (κ × β)) (k : κ) : (∃ j x, (kvs.map (·.1)).findIdx? (fun x => decide (x = k)) = some j ∧ kvs[j]? = some x ∧ kvs.find? (fun p => decide (p.1 = k)) = some x) ∨ ((kvs.map (·.1)).findIdx? (fun x => decide (x = k)) = none ∧ kvs.find? (fun p => decide (p.1 = k)) = none) := by
 induction kvs with
 | nil => exact .inr ⟨rfl, rfl⟩
 | cons p kvs ih =>
   by_cases h : p.1 = k
   ·exact .inl ⟨0, p, by simp [eO, h], rfl, by simp [h]⟩
   ·rcases ih with ⟨j, x, h1, h2, h3⟩ | ⟨h1, h2⟩
    ·exact .inl ⟨j + 1, x, by simp [eO, h, h1], by simpa using h2, by simp [h, h3]⟩
    ·exact .inr ⟨by simp [eO, h, h1], by simp [h, h2]⟩
theorem St.cP (hS : St P H0 H os) (i : Nat) {A : Nat} {kvs : List (κ × β)} (ho : os[i]? = some ⟨.map (some A), 0, kcs enc f kvs⟩) (hk : MapK P t enc z) (hf : ∀ b, mN (f b) = true) (c : Bool) (k : κ) :
 oS P H t (.map (some A)) (enc k) c = some (pairV c (((a2l kvs k).map f).getD z) (a2l kvs k).isSome) := by
 obtain ⟨kt, et, h1, h2, h3, h4, h5, h6⟩ := hk.ex
 obtain ⟨es, ck, ver, h7, h8, _⟩ := hS.bX i ho
 obtain ⟨h9, h10⟩ := a3Y es kvs h8
 have hi := h5 k es (kvs.map (·.1)) (by rw [h9]; simp [gL])
 simp only [oS, h1, cS, a1O, h7, h4, if_true, hi, a2l]
 rcases b0L kvs k with ⟨j, x, e1, e2, e3⟩ | ⟨e1, e3⟩
 ·have hj : es[j]?.map (·.val) = some (f x.2) := by
   rw [← eo, h10, eo, e2]; rfl
  cases he : es[j]? with
  | none => rw [he] at hj; simp at hj
  | some e =>
    rw [he] at hj
    simp only [dD, dw] at hj
    simp only [e1, he, cS, hj, hf, if_true, e3, dD, eR, Option.isSome_some]
 ·simp only [e1, e3, Option.map_none, Option.getD_none, Option.isSome_none, h2, cS, h3, if_true]
def a5O (P : Program) (H : Heap) (t : TypeId) (x k : Value) (c : Bool) (K : Value → Prop) (_k : Keep K := ⟨⟩) : Prop := ∃ v, oS P H t x k c = some v ∧ K v
theorem a5G {t : TypeId} {x x' k k' : Value} {c : Bool} {K : Value → Prop} (h : x = x') (h2 : k = k') : a5O P H t x k c K = a5O P H t x' k' c K := by rw [h, h2]
attribute [congr] a5G
theorem a8e (d ty pos af g) (t : TypeId) (x k : Operand) (c : Bool) (l : List Value) (K : Value → Heap → Prop) :
 lQ P ⟨d, .lookup t x k c, ty, pos, af, g⟩ l H K = jD x l fun x => jD k l fun k => a5O P H t x k c fun v => K v H := by
 have h2 : jT ((oS P H t (ev l x) (ev l k) c).map fun v => (v, H)) K = ∃ v, oS P H t (ev l x) (ev l k) c = some v ∧ K v H := by
  cases oS P H t (ev l x) (ev l k) c <;> simp [jT]
 simp only [lQ, opD, jD, Op.operands, a5O, h2]
 simp [and_assoc]
theorem St.bM (hS : St P H0 H os) (i : Nat) {A : Nat} {kvs : List (κ × β)} (ho : os[i]? = some ⟨.map (some A), 0, kcs enc f kvs⟩) (hk : MapK P t enc z) (hf : ∀ b, mN (f b) = true) {c : Bool} {k : κ} {K : Value → Prop}
 (h : K (pairV c (((a2l kvs k).map f).getD z) (a2l kvs k).isSome)) : a5O P H t (.map (some A)) (enc k) c K := ⟨_, hS.cP i ho hk hf c k, h⟩
def a4o (P : Program) (H : Heap) (t : TypeId) (K : Value → Heap → Prop) (_k : Keep K := ⟨⟩) : Prop := ∃ v H1, oZ P H t none = some (v, H1) ∧ K v H1
theorem a6r (d ty pos af g) (t : TypeId) (l : List Value) (K : Value → Heap → Prop) : lQ P ⟨d, .makeMap t none, ty, pos, af, g⟩ l H K = a4o P H t K := by
 simp only [lQ, opD, Op.operands, a4o, mL]
 simp
theorem St.bS (hS : St P H0 H os) (hk : MapK P t enc z) {K : Value → Heap → Prop} (h : ∀ A H1, St P H0 H1 (os ++ [⟨.map (some A), 0, []⟩]) → K (.map (some A)) H1) : a4o P H t K := by
 obtain ⟨kt, et, h1, _⟩ := hk.ex
 refine ⟨.map (some H.length), H.cons (.map [] 0 0), by simp [oZ, h1], h _ _ (hS.add ?_ ?_ ?_ ?_)⟩
 ·unfold OwnAt
  rw [if_pos rfl]
  exact .inr ⟨_, [], 0, 0, iJ H _, rfl, rfl, .nil 0⟩
 ·simp [oR]
 ·exact fun B hB => jG _ hB
 ·intro B hB
  simp [kK] at hB
  omega
def b3p (P : Program) (H : Heap) (t : TypeId) (m k v : Value) (K : Heap → Prop) (_k : Keep K := ⟨⟩) : Prop := ∃ H1, a0M P H t m k v = some H1 ∧ K H1
theorem a8c {t : TypeId} {m m' k k' v v' : Value} {K : Heap → Prop} (h : m = m') (h2 : k = k') (h3 : v = v') : b3p P H t m k v K = b3p P H t m' k' v' K := by rw [h, h2, h3]
attribute [congr] a8c
theorem a2J (d ty pos af g) (t : TypeId) (m k v : Operand) (l : List Value) (K : Value → Heap → Prop) :
 lQ P ⟨d, .mapUpdate t m k v, ty, pos, af, g⟩ l H K = jD m l fun m => jD k l fun k => jD v l fun v => b3p P H t m k v fun H1 => K undef H1 := by
 have h2 : jT ((a0M P H t (ev l m) (ev l k) (ev l v)).map fun H => (undef, H)) K = ∃ H1, a0M P H t (ev l m) (ev l k) (ev l v) = some H1 ∧ K undef H1 := by
  cases a0M P H t (ev l m) (ev l k) (ev l v) <;> simp [jT]
 simp only [lQ, opD, jD, Op.operands, b3p, h2]
 simp [and_assoc]
theorem b0a (kvs : List (κ × β)) (k : κ) (v : β) : a5a kvs k v = match (kvs.map (·.1)).findIdx? (fun x => decide (x = k)) with | some j => kvs.set j (k, v) | none => kvs ++ [(k, v)] := by
 unfold a5a
 rw [List.findIdx?_map]
 rfl
theorem St.cd (hS : St P H0 H os) (i : Nat) {A : Nat} {kvs : List (κ × β)} (ho : os[i]? = some ⟨.map (some A), 0, kcs enc f kvs⟩) (hk : MapK P t enc z) {k : κ} {v : β} {K : Heap → Prop}
 (h : ∀ H1, St P H0 H1 (os.set i ⟨.map (some A), 0, kcs enc f (a5a kvs k v)⟩) → K H1) : b3p P H t (.map (some A)) (enc k) (f v) K := by
 obtain ⟨kt, et, h1, h2, h3, h4, h5, h6⟩ := hk.ex
 obtain ⟨es, ck, ver, h7, h8, hst⟩ := hS.bX i ho
 obtain ⟨h9, h10⟩ := a3Y es kvs h8
 have hi := h5 k es (kvs.map (·.1)) (by rw [h9]; simp [gL])
 have fin : ∀ es' ck', mcs es' = kcs enc f (a5a kvs k v) → Stamps es' ck' → St P H0 (hset H A (.map es' ck' (ver + 1))) (os.set i ⟨.map (some A), 0, kcs enc f (a5a kvs k v)⟩) := by
  intro es' ck' he hst'
  refine hS.put i ho ?_ ?_ ?_ ?_
  ·unfold OwnAt
   rw [if_pos rfl]
   exact .inr ⟨A, es', ck', _, iO _ (jE h7), he.symm, rfl, hst'⟩
  ·rw [jF]; exact dc _
  ·intro B hB hne
   exact qA fun hh => hne (by simp [kK, hh])
  ·exact fun B hB => .inl hB
 rcases b0L kvs k with ⟨j, x, e1, e2, _⟩ | ⟨e1, _⟩
 ·have hj : es[j]?.map (·.key) = some (enc x.1) := by
   rw [← eo, h9, eo, e2]; rfl
  have hx : x.1 = k := by
   have := List.findIdx?_eq_some_iff_getElem.1 e1
   obtain ⟨hlt, hd, _⟩ := this
   have hlt' : j < kvs.length := by simpa using hlt
   have : kvs[j] = x := by
    rw [dg hlt'] at e2
    exact cR e2
   simp [this] at hd
   exact hd
  cases he : es[j]? with
  | none => rw [he] at hj; simp at hj
  | some e =>
    rw [he] at hj
    simp only [dD, dw] at hj
    refine ⟨hset H A (.map (es.set j { e with key := enc k, val := f v }) ck (ver + 1)), ?_, h _ (fin _ _ ?_ (hst.set he _ rfl))⟩
    ·have hsb : Instr.sameBits 10000 e.key (enc k) = true := by rw [hj, hx]; exact h6 k
     simp only [a0M, h1, cS, h7, h4, if_true, hi, e1, he, hsb]
    ·symm
     rw [b0a, e1]
     refine a8q _ _ ?_ ?_
     ·rw [gM, gM, h9]
     ·rw [gM, gM, h10]
 ·refine ⟨hset H A (.map (es ++ [{ key := enc k, val := f v, born := ck }]) (ck + 1) (ver + 1)), ?_, h _ (fin _ _ ?_ (hst.push _ rfl))⟩
  ·simp only [a0M, h1, cS, h7, h4, if_true, hi, e1]
  ·symm
   rw [b0a, e1]
   refine a8q _ _ ?_ ?_
   ·rw [dL, dL, h9]; rfl
   ·rw [dL, dL, h10]; rfl
def b8x (P : Program) (H : Heap) (t : TypeId) (m k : Value) (K : Value → Heap → Prop) (_k : Keep K := ⟨⟩) : Prop := ∃ v H1, sE P H t m k = some (v, H1) ∧ K v H1
theorem a8A {t : TypeId} {m m' k k' : Value} {K : Value → Heap → Prop} (h : m = m') (h2 : k = k') : b8x P H t m k K = b8x P H t m' k' K := by rw [h, h2]
attribute [congr] a8A
def b0w (H : Heap) (m b v : Value) (K : Heap → Prop) (_k : Keep K := ⟨⟩) : Prop := ∃ H1, qV H m b v = some H1 ∧ K H1
theorem a6s {m m' b b' v v' : Value} {K : Heap → Prop} (h : m = m') (h2 : b = b') (h3 : v = v') : b0w H m b v K = b0w H m' b' v' K := by rw [h, h2, h3]
attribute [congr] a6s
theorem a4H (d ty pos af g) (t : TypeId) (m k : Operand) (l : List Value) (K : Value → Heap → Prop) :
 lQ P ⟨d, .mapEntry t m k, ty, pos, af, g⟩ l H K = jD m l fun m => jD k l fun k => b8x P H t m k K := by
 have h2 : jT (sE P H t (ev l m) (ev l k)) K = ∃ v H1, sE P H t (ev l m) (ev l k) = some (v, H1) ∧ K v H1 := mL ..
 simp only [lQ, opD, jD, Op.operands, b8x, h2]
 simp [and_assoc]
theorem a1o (d ty pos af g) (t : TypeId) (m b v : Operand) (l : List Value) (K : Value → Heap → Prop) :
 lQ P ⟨d, .entryStore t m b v, ty, pos, af, g⟩ l H K = jD m l fun m => jD b l fun b => jD v l fun v => b0w H m b v fun H1 => K undef H1 := by
 have h2 : jT ((qV H (ev l m) (ev l b) (ev l v)).map fun H => (undef, H)) K = ∃ H1, qV H (ev l m) (ev l b) (ev l v) = some H1 ∧ K undef H1 := by
  cases qV H (ev l m) (ev l b) (ev l v) <;> simp [jT]
 simp only [lQ, opD, jD, Op.operands, b0w, h2]
 simp [and_assoc]
theorem a1Z (kvs : List (κ × β)) (k k' : κ) (v : β) : a2l (a5a kvs k v) k' = if k' = k then some v else a2l kvs k' := by
 unfold a2l a5a
 induction kvs with
 | nil =>
   by_cases h : k' = k
   ·simp [h]
   ·simp [h, eQ h]
 | cons p kvs ih =>
   by_cases hp : p.1 = k
   ·simp only [eO, hp, decide_true, if_true, fY, List.find?_cons]
    by_cases h : k' = k
    ·simp [h]
    ·simp [h, eQ h]
   ·have hd : decide (p.1 = k) = false := by simp [hp]
    simp only [eO, hd, dM, if_false]
    by_cases hq : p.1 = k'
    ·have hne : ¬ k' = k := fun e => hp (hq.trans e)
     cases hh : kvs.findIdx? (fun p => decide (p.1 = k)) with
     | none => simp [hq, hne]
     | some j => simp [hq, hne]
    ·cases hh : kvs.findIdx? (fun p => decide (p.1 = k)) with
     | none =>
       rw [hh] at ih
       simpa [hq, List.find?_cons] using ih
     | some j =>
       rw [hh] at ih
       simpa [hq, List.find?_cons] using ih
end
end Go.Ds
namespace Go.Ds
noncomputable section
variable {P : Program} {H : Heap}
theorem kG {α : Type} (P : Program) (x : α) : iG P (pure x) = some x := rfl
theorem jL {t : TypeId} {d : TypeDesc} (h : P.underlying t = some d) : iG P (underlying t) = some d := by
 unfold underlying
 rw [iF]
 have : iG P program = some P := rfl
 rw [this, cS, h]
 rfl
def kX : Operand → Bool
 | .const _ => true
 | _ => false
def oD (c : Bool) (i : Nat) (v : Value) : Operand := if c then .const v else .tmp i
def kP (P : Program) (op : BinOp) (t t2 : TypeId) (cx cy : Bool) (x y : Value) : Option Value := (opD P ⟨none, .binOp op t (oD cx 0 x) (oD cy 1 y) t2, t, "", #[], none⟩ [x, y] .nil).map (·.1)
def kR (P : Program) (op : BinOp) (t t2 : TypeId) (cx cy : Bool) (x y : Value) (K : Value → Prop) (_k : Keep K := ⟨⟩) : Prop := match x, y with
 | .int k a, .int k' b => (match (if k = k' then mD op k a b else none) with | some v => K v | none => jM (kP P op t t2 cx cy (.int k a) (.int k' b)) K)
 | x, y => jM (kP P op t t2 cx cy x y) K
theorem a5J {op : BinOp} {t t2 : TypeId} {cx cy : Bool} {x x' y y' : Value} {K : Value → Prop} (h : x = x') (h2 : y = y') : kR P op t t2 cx cy x y K = kR P op t t2 cx cy x' y' K := by rw [h, h2]
attribute [congr] a5J
theorem a9A (x : Operand) (l m : List Value) : ev (ev l x :: m) (oD (kX x) 0 (ev l x)) = ev l x := by cases x <;> rfl
theorem a8G (x : Operand) (l m : List Value) (a : Value) : ev (a :: ev l x :: m) (oD (kX x) 1 (ev l x)) = ev l x := by cases x <;> rfl
theorem b5s (op : BinOp) (t : TypeId) (x y : Operand) (l : List Value) : eqGuard op t x y (ev l x) (ev l y) = eqGuard op t (oD (kX x) 0 (ev l x)) (oD (kX y) 1 (ev l y)) (ev l x) (ev l y) := by
 generalize hx : ev l x = vx
 generalize hy : ev l y = vy
 cases x <;> cases y <;> rfl
theorem b6D (d ty pos af g) (op : BinOp) (t : TypeId) (x y : Operand) (t2 : TypeId) (l : List Value) (H : Heap) :
 opD P ⟨d, .binOp op t x y t2, ty, pos, af, g⟩ l H = (kP P op t t2 (kX x) (kX y) (ev l x) (ev l y)).map fun v => (v, H) := by
 have hp : kE P ⟨d, .binOp op t x y t2, ty, pos, af, g⟩ l H = _ := mQ (P := P) ⟨d, .binOp op t x y t2, ty, pos, af, g⟩ ⟨none, .binOp op t (oD (kX x) 0 (ev l x)) (oD (kX y) 1 (ev l y)) t2, t, "", #[], none⟩ l [ev l x, ev l y] H
  (by simp only [Op.operands, dU, fX, a9A, a8G]) (by
    simp only [execOp]
    rw [a9A, a8G, ← b5s])
 simp only [opD, kP, hp, a9A, a8G]
 generalize kE P _ _ _ = r
 generalize ev l x = vx
 generalize ev l y = vy
 split
 all_goals first
  | (split <;> first | rfl | (split <;> first | rfl | (cases r <;> rfl)) | (cases r <;> rfl))
  | (cases r <;> rfl)
theorem b4r (d ty pos af g) (op : BinOp) (t : TypeId) (x y : Operand) (t2 : TypeId) (l : List Value) (K : Value → Heap → Prop) :
 lQ P ⟨d, .binOp op t x y t2, ty, pos, af, g⟩ l H K = jD x l fun x' => jD y l fun y' => kR P op t t2 (kX x) (kX y) x' y' fun v => K v H := by
 have h : jT (opD P ⟨d, .binOp op t x y t2, ty, pos, af, g⟩ l H) K = kR P op t t2 (kX x) (kX y) (ev l x) (ev l y) fun v => K v H := by
  have key : jT ((kP P op t t2 (kX x) (kX y) (ev l x) (ev l y)).map fun v => (v, H)) K = jM (kP P op t t2 (kX x) (kX y) (ev l x) (ev l y)) fun v => K v H := by
   cases kP P op t t2 (kX x) (kX y) (ev l x) (ev l y) <;> rfl
  rw [b6D, key]
  unfold kR
  split
  ·rename_i k a k' b hx hy
   split
   ·rename_i v hv
    split at hv
    ·rename_i hk
     subst hk
     have : kP P op t t2 (kX x) (kX y) (.int k a) (.int k b) = some v := by
      have h1 : ∀ m, ev ((.int k a : Value) :: m) (oD (kX x) 0 (.int k a)) = .int k a := fun m => by cases kX x <;> rfl
      have h2 : ∀ m c, ev (c :: (.int k b : Value) :: m) (oD (kX y) 1 (.int k b)) = .int k b := fun m c => by cases kX y <;> rfl
      cases op <;> simp only [mD] at hv <;> first | (cases hv; done) | (simp only [kP, opD, h1, h2, mD, if_true, hv]; rfl)
     rw [hx, hy, this]
     rfl
    ·cases hv
   ·rw [hx, hy]
  ·rfl
 simp only [lQ, h, jD, Op.operands]
 simp [and_assoc]
theorem lN (op : BinOp) (t t2 : TypeId) (cx cy : Bool) (k : IntKind) (a b : Int) {v : Value} (K : Value → Prop) (h : mD op k a b = some v) : kR P op t t2 cx cy (.int k a) (.int k b) K = oE v K := by
 simp [kR, h, oE]
section
theorem b1w (t t2 : TypeId) (cx cy : Bool) (k : IntKind) (a b : Int) (K : Value → Prop) : kR P .add t t2 cx cy (.int k a) (.int k b) K = oE (.int k (k.wrap (a + b))) K := lN _ _ _ _ _ _ _ _ _ (by simp [mD, b0M, tM])
theorem b2k (t t2 : TypeId) (cx cy : Bool) (k : IntKind) (a b : Int) (K : Value → Prop) : kR P .sub t t2 cx cy (.int k a) (.int k b) K = oE (.int k (k.wrap (a - b))) K := lN _ _ _ _ _ _ _ _ _ (by simp [mD, b0b, tM])
theorem b1y (t t2 : TypeId) (cx cy : Bool) (k : IntKind) (a b : Int) (K : Value → Prop) : kR P .mul t t2 cx cy (.int k a) (.int k b) K = oE (.int k (k.wrap (a * b))) K := lN _ _ _ _ _ _ _ _ _ (by simp [mD, tM])
theorem b2Q (t t2 : TypeId) (cx cy : Bool) (k : IntKind) (a b : Int) (K : Value → Prop) : kR P .eql t t2 cx cy (.int k a) (.int k b) K = oE (.bool (decide (a = b))) K := lN _ _ _ _ _ _ _ _ _ (by simp [mD, a2h]; rfl)
theorem b1x (t t2 : TypeId) (cx cy : Bool) (k : IntKind) (a b : Int) (K : Value → Prop) : kR P .neq t t2 cx cy (.int k a) (.int k b) K = oE (.bool (decide (¬ a = b))) K := lN _ _ _ _ _ _ _ _ _ (by simp [mD, a2h]; rfl)
theorem b2B (t t2 : TypeId) (cx cy : Bool) (k : IntKind) (a b : Int) (K : Value → Prop) : kR P .lss t t2 cx cy (.int k a) (.int k b) K = oE (.bool (decide (a < b))) K := lN _ _ _ _ _ _ _ _ _ (by simp [mD, zB])
theorem b1v (t t2 : TypeId) (cx cy : Bool) (k : IntKind) (a b : Int) (K : Value → Prop) : kR P .leq t t2 cx cy (.int k a) (.int k b) K = oE (.bool (decide (a ≤ b))) K := lN _ _ _ _ _ _ _ _ _ (by simp [mD, zB, ← Int.not_lt])
theorem b1Z (t t2 : TypeId) (cx cy : Bool) (k : IntKind) (a b : Int) (K : Value → Prop) : kR P .gtr t t2 cx cy (.int k a) (.int k b) K = oE (.bool (decide (b < a))) K := lN _ _ _ _ _ _ _ _ _ (by simp [mD, zB])
theorem b1I (t t2 : TypeId) (cx cy : Bool) (k : IntKind) (a b : Int) (K : Value → Prop) : kR P .geq t t2 cx cy (.int k a) (.int k b) K = oE (.bool (decide (b ≤ a))) K := lN _ _ _ _ _ _ _ _ _ (by simp [mD, zB, ← Int.not_lt])
theorem b2V (t t2 : TypeId) (cx cy : Bool) (k : IntKind) (a b : Int) (K : Value → Prop) (hb : b ≠ 0) : kR P .rem t t2 cx cy (.int k a) (.int k b) K = oE (.int k (a.tmod b)) K := lN _ _ _ _ _ _ _ _ _ (by
 have : (b == 0) = false := by simp [hb]
 simp [mD, a2h, this])
theorem b1q (t t2 : TypeId) (cx cy : Bool) (k : IntKind) (a b : Int) (K : Value → Prop) (hb : b ≠ 0) : kR P .quo t t2 cx cy (.int k a) (.int k b) K = oE (.int k (k.wrap (a.tdiv b))) K := lN _ _ _ _ _ _ _ _ _ (by
 have : (b == 0) = false := by simp [hb]
 simp [mD, a2h, tM, this])
end
theorem lG {op : BinOp} {t t2 : TypeId} {cx cy : Bool} {x y v : Value} (hx : flat x = true) (hy : flat y = true) (hg : iG P (eqGuard op t (oD cx 0 x) (oD cy 1 y) x y) = some ())
 (hv : iG P (binOp op t x y) = some v) (hf : flat v = true) (hs : ∀ a n c, x ≠ .slice (some a) n c) (hp : ∀ a, x ≠ .pointer (some a)) (hi : ∀ k a b, x = .int k a → y = .int k b → mD op k a b = none) : kP P op t t2 cx cy x y = some v := by
 have h1 : ∀ m, ev (x :: m) (oD cx 0 x) = x := fun m => by cases cx <;> rfl
 have h2 : ∀ m c, ev (c :: y :: m) (oD cy 1 y) = y := fun m c => by cases cy <;> rfl
 have hpl : kE P ⟨none, .binOp op t (oD cx 0 x) (oD cy 1 y) t2, t, "", #[], none⟩ [x, y] .nil = some (v, .nil) := by
  unfold kE
  rw [if_pos (by simp [Op.operands, h1, h2, hx, hy])]
  have : execOp (ev [x, y]) ⟨none, .binOp op t (oD cx 0 x) (oD cy 1 y) t2, t, "", #[], none⟩ = (do let v ← (do eqGuard op t (oD cx 0 x) (oD cy 1 y) x y; binOp op t x y); pure (.value v)) := by
   simp only [execOp, h1, h2]
  rw [this, iF, iF, hg, cS, hv, cS, kG]
  simp only [hf, if_true]
 simp only [kP, opD, h1, h2, hpl]
 split
 ·exact absurd rfl (hs _ _ _)
 ·exact absurd rfl (hs _ _ _)
 ·rename_i k a k' b
  split
  ·rename_i hk
   subst hk
   rw [hi _ _ _ rfl rfl]
   rfl
  ·rfl
 ·exact absurd rfl (hp _)
 ·exact absurd rfl (hp _)
 ·exact absurd rfl (hp _)
 ·exact absurd rfl (hp _)
 ·rfl
theorem pR {op : BinOp} {t : TypeId} {x y : Operand} {k k' : IntKind} {a b : Int} : iG P (eqGuard op t x y (.int k a) (.int k' b)) = some () := by
 unfold eqGuard
 split <;> rfl
section
theorem b5m (t t2 : TypeId) (cx cy : Bool) (a b : Int) {k k' : IntKind} (hb : 0 ≤ b) : kP P .shr t t2 cx cy (.int k a) (.int k' b) = some (.int k (a.fdiv (2 ^ (min b.toNat k.bits)))) :=
 lG rfl rfl pR (by simp only [binOp, Op.shift]; rw [if_neg (by omega)]; rfl) rfl (by simp) (by simp) (by intros; rfl)
theorem b4Z (t t2 : TypeId) (cx cy : Bool) (a b : Int) {k k' : IntKind} (hb : 0 ≤ b) : kP P .shl t t2 cx cy (.int k a) (.int k' b) = some (.int k (k.wrap (a * 2 ^ (min b.toNat k.bits)))) :=
 lG rfl rfl pR (by simp only [binOp, Op.shift]; rw [if_neg (by omega)]; rfl) rfl (by simp) (by simp) (by intros; rfl)
theorem b4G (t t2 : TypeId) (cx cy : Bool) (a b : Int) (k : IntKind) : kP P .and t t2 cx cy (.int k a) (.int k b) = some (.int k (k.wrap (BitVec.ofInt k.bits a &&& BitVec.ofInt k.bits b).toNat)) :=
 lG rfl rfl pR (by simp only [binOp]; rw [if_neg (by simp)]; rfl) rfl (by simp) (by simp) (by intros; rfl)
theorem b6G (t t2 : TypeId) (cx cy : Bool) (a b : Int) (k : IntKind) : kP P .or t t2 cx cy (.int k a) (.int k b) = some (.int k (k.wrap (BitVec.ofInt k.bits a ||| BitVec.ofInt k.bits b).toNat)) :=
 lG rfl rfl pR (by simp only [binOp]; rw [if_neg (by simp)]; rfl) rfl (by simp) (by simp) (by intros; rfl)
theorem b3H (t t2 : TypeId) (cx cy : Bool) (a b : Int) (k : IntKind) : kP P .xor t t2 cx cy (.int k a) (.int k b) = some (.int k (k.wrap (BitVec.ofInt k.bits a ^^^ BitVec.ofInt k.bits b).toNat)) :=
 lG rfl rfl pR (by simp only [binOp]; rw [if_neg (by simp)]; rfl) rfl (by simp) (by simp) (by intros; rfl)
theorem a5V (t t2 : TypeId) (cx cy : Bool) (a b : Int) (k : IntKind) : kP P .andNot t t2 cx cy (.int k a) (.int k b) = some (.int k (k.wrap (BitVec.ofInt k.bits a &&& ~~~ BitVec.ofInt k.bits b).toNat)) :=
 lG rfl rfl pR (by simp only [binOp]; rw [if_neg (by simp)]; rfl) rfl (by simp) (by simp) (by intros; rfl)
end
section
variable (a b : ByteArray)
theorem yZ {op : BinOp} {t : TypeId} {x y : Operand} : iG P (eqGuard op t x y (.string a) (.string b)) = some () := by
 unfold eqGuard
 split <;> rfl
theorem a0o (h : a.data.toList = b.data.toList) : a = b := by
 cases a; cases b
 simp only [ByteArray.mk.injEq]
 exact Array.toList_inj.1 h
theorem a1l : (a.toList == b.toList) = decide (a = b) := by
 rw [ByteArray.toList_eq, ByteArray.toList_eq, ec, beq_iff_eq, decide_eq_true_iff]
 exact ⟨a0o a b, fun h => by rw [h]⟩
theorem a7P (t t2 : TypeId) (cx cy : Bool) (a b : ByteArray) : kP P .eql t t2 cx cy (.string a) (.string b) = some (.bool (decide (a = b))) :=
 lG rfl rfl (yZ a b) (by rw [← a1l]; rfl) rfl (by simp) (by simp) (by intro _ _ _ h; cases h)
theorem a9J (t t2 : TypeId) (cx cy : Bool) (a b : ByteArray) : kP P .neq t t2 cx cy (.string a) (.string b) = some (.bool (decide (¬ a = b))) :=
 lG rfl rfl (yZ a b) (by
  have : decide (¬ a = b) = !(a.toList == b.toList) := by rw [a1l]; simp
  rw [this]; rfl) rfl (by simp) (by simp) (by intro _ _ _ h; cases h)
theorem a7u (t t2 : TypeId) (cx cy : Bool) (a b : ByteArray) (h : a.size + b.size < 9223372036854775808) : kP P .add t t2 cx cy (.string a) (.string b) = some (.string (a ++ b)) :=
 lG rfl rfl (yZ a b) (by
  simp only [binOp, Op.stringOp]
  rw [if_neg]
  ·rfl
  ·have : IntKind.i64.max = 9223372036854775807 := by decide
   rw [this]; omega) rfl (by simp) (by simp) (by intro _ _ _ h; cases h)
end
theorem b5M {t : TypeId} (s : ByteArray) (ht : oA P t = true) : a0b P H t (.string s) = some (.int .i64 s.size) := by
 unfold oA at ht
 unfold a0b
 split at ht
 ·rename_i h; rw [h]; simp [vU, goInt]
 ·cases ht
def oN (P : Program) (t : TypeId) (x i : Value) : Option Value := (opD P ⟨none, .index t (.const x) (.const i), t, "", #[], none⟩ [] .nil).map (·.1)
theorem b2q (d ty pos af g) (t : TypeId) (x i : Operand) (l : List Value) (K : Value → Heap → Prop) :
 lQ P ⟨d, .index t x i, ty, pos, af, g⟩ l H K = jD x l fun x => jD i l fun i => jM (oN P t x i) fun v => K v H := by
 have h : opD P ⟨d, .index t x i, ty, pos, af, g⟩ l H = (oN P t (ev l x) (ev l i)).map fun v => (v, H) := by
  have hp := mQ (P := P) ⟨d, .index t x i, ty, pos, af, g⟩ ⟨none, .index t (.const (ev l x)) (.const (ev l i)), t, "", #[], none⟩ l [] H rfl rfl
  simp only [opD, oN]
  exact hp
 have h2 : jT ((oN P t (ev l x) (ev l i)).map fun v => (v, H)) K = jM (oN P t (ev l x) (ev l i)) fun v => K v H := by cases oN P t (ev l x) (ev l i) <;> rfl
 simp only [lQ, h, jD, Op.operands, h2]
 simp [and_assoc]
def nU (s : ByteArray) (i : Nat) : Nat := (s.data.toList.getD i 0).toNat
theorem a9E {t : TypeId} (s : ByteArray) (k : IntKind) (i : Int) (ht : oA P t = true) (h0 : 0 ≤ i) (h1 : i < s.size) : oN P t (.string s) (.int k i) = some (.int .u8 (nU s i.toNat)) := by
 have hu : P.underlying t = some .string := by
  unfold oA at ht
  split at ht
  ·rename_i h; exact h
  ·cases ht
 have hr : iG P (Instr.index t (.string s) (.int k i)) = some (.int .u8 (nU s i.toNat)) := by
  unfold Instr.index
  rw [iF]
  have e1 : iG P (asIntOf (.int k i)) = some (k, i) := rfl
  rw [e1, cS]
  simp only [iF, jL hu, cS]
  rw [if_pos h0]
  have hlt : i.toNat < s.size := by omega
  have hb : s[i.toNat]? = some s[i.toNat] := by simp [getElem?_pos, hlt]
  simp only [hb]
  rw [kG]
  congr 3
  unfold nU
  rw [cW]
  have hl : i.toNat < s.data.toList.length := by simpa using hlt
  rw [dg hl]
  rfl
 have hpl : kE P ⟨none, .index t (.const (.string s)) (.const (.int k i)), t, "", #[], none⟩ [] .nil = some (.int .u8 (nU s i.toNat), .nil) := by
  unfold kE
  rw [if_pos (by rfl)]
  have : execOp (ev []) ⟨none, .index t (.const (.string s)) (.const (.int k i)), t, "", #[], none⟩ = (do let v ← Instr.index t (.string s) (.int k i); pure (.value v)) := rfl
  rw [this, iF, hr, cS, kG]
  rfl
 simp only [oN, opD, hpl]
 rfl
def a0P (P : Program) (t : TypeId) : Option IntKind := match P.underlying t with | some (.int k) => some k | _ => none
theorem a0f {t : TypeId} {k : IntKind} (h : a0P P t = some k) : P.underlying t = some (.int k) := by
 unfold a0P at h
 split at h
 ·rename_i h2; rw [h2]; injection h with h; rw [h]
 ·cases h
theorem b2S {s t : TypeId} {k k' : IntKind} (a : Int) (hs : a0P P s = some k) (ht : a0P P t = some k') : a2s P s t (.int k a) = some (.int k' (k'.wrap a)) := by
 have hr : iG P (convert s t (.int k a)) = some (.int k' (k'.wrap a)) := by
  unfold convert
  simp only [iF, jL (a0f hs), jL (a0f ht), cS]
  rfl
 have hpl : kE P ⟨none, .convert s t (.const (.int k a)), t, "", #[], none⟩ [] .nil = some (.int k' (k'.wrap a), .nil) := by
  unfold kE
  rw [if_pos (by rfl)]
  have : execOp (ev []) ⟨none, .convert s t (.const (.int k a)), t, "", #[], none⟩ = (do let v ← convert s t (.int k a); pure (.value v)) := rfl
  rw [this, iF, hr, cS, kG]
  rfl
 simp only [a2s, hpl]
 rfl
def a4I (P : Program) (d : Nat) (xs ys : Array Value) (fs : List Field) : Option Bool :=
 (iG P (forIn fs ((none, ()) : Option Bool × Unit) fun f _ =>
   if f.name ≠ "_" then do
    let a ← part f.type xs f.offset
    let b ← part f.type ys f.offset
    let c ← Op.equalIn d f.type a b
    if (!c) = true then pure (ForInStep.done (some false, ())) else pure (ForInStep.yield (none, ()))
   else pure (ForInStep.yield (none, ())))).bind fun x => iG P (match x.fst with | some r => pure r | none => pure true)
theorem a1R {d : Nat} {xs ys : Array Value} (g : Field → Bool) : ∀ (fs : List Field), (∀ f ∈ fs, f.name ≠ "_" ∧ iG P (part f.type xs f.offset >>= fun x => part f.type ys f.offset >>= fun y => Op.equalIn d f.type x y) = some (g f)) →
 a4I P d xs ys fs = some (fs.all g)
 | [], _ => rfl
 | f :: fs, hg => by
   obtain ⟨h1, h2⟩ := hg f (ef ..)
   have ih := a1R g fs fun f' h => hg f' (eE _ h)
   unfold a4I at ih ⊢
   rw [iF] at h2
   simp only [List.forIn_cons, h1, ne_eq, not_false_eq_true, if_true, iF]
   cases hx : iG P (part f.type xs f.offset) with
   | none => rw [hx] at h2; cases h2
   | some x =>
     rw [hx, cS, iF] at h2
     cases hy : iG P (part f.type ys f.offset) with
     | none => rw [hy] at h2; cases h2
     | some y =>
       rw [hy, cS] at h2
       simp only [cS, h2]
       cases hgf : g f with
       | false =>
         simp only [Bool.not_false, if_true, kG, cS, fc, hgf, fC]
       | true =>
         simp only [Bool.not_true, dM, if_false, kG, cS, fc, hgf, gB]
         exact ih
theorem b4m {d : Nat} {t : TypeId} {fs : List Field} {xs ys : Array Value} (hu : P.underlying t = some (.struct fs.toArray)) (hst : P.stoodInHeld t = false) (g : Field → Bool)
 (hg : ∀ f ∈ fs, f.name ≠ "_" ∧ iG P (part f.type xs f.offset >>= fun x => part f.type ys f.offset >>= fun y => Op.equalIn d f.type x y) = some (g f)) : iG P (Op.equalIn (d + 1) t (.agg xs) (.agg ys)) = some (fs.all g) := by
 rw [Op.equalIn, iF, jL hu, cS]
 have hp : iG P program = some P := rfl
 simp only [iF, hp, cS, hst, dM, if_false, List.forIn_toArray]
 refine Eq.trans ?_ (a1R g fs hg)
 unfold a4I
 congr 1
 funext x
 cases x.fst <;> rfl
theorem a3u {op : BinOp} {t : TypeId} (ht : P.eqGuardType P.depth t = false) {x y : Operand} {a b : Array Value} : iG P (eqGuard op t x y (.agg a) (.agg b)) = some () := by
 have hp : iG P program = some P := rfl
 unfold eqGuard
 cases op <;> simp [iF, hp, ht, kG]
theorem b4s {t t2 : TypeId} {cx cy : Bool} {xs ys : List Value} (b : Bool) (ht : P.eqGuardType P.depth t = false) (hx : xs.all iT = true) (hy : ys.all iT = true) (h : iG P (Op.equalIn (9999 + 1) t (.agg xs.toArray) (.agg ys.toArray)) = some b) :
 kP P .eql t t2 cx cy (.agg xs.toArray) (.agg ys.toArray) = some (.bool b) :=
 lG (by simp [flat, iY, kC, hx]) (by simp [flat, iY, kC, hy]) (a3u ht) (by
  have hmd : Op.maxDepth = 9999 + 1 := by decide
  simp only [binOp, iF, Op.equal]
  rw [hmd, h, cS, kG]) rfl (by simp) (by simp) (by intro _ _ _ h; cases h)
theorem b3U {t t2 : TypeId} {cx cy : Bool} {xs ys : List Value} (b : Bool) (ht : P.eqGuardType P.depth t = false) (hx : xs.all iT = true) (hy : ys.all iT = true) (h : iG P (Op.equalIn (9999 + 1) t (.agg xs.toArray) (.agg ys.toArray)) = some b) :
 kP P .neq t t2 cx cy (.agg xs.toArray) (.agg ys.toArray) = some (.bool (!b)) :=
 lG (by simp [flat, iY, kC, hx]) (by simp [flat, iY, kC, hy]) (a3u ht) (by
  have hmd : Op.maxDepth = 9999 + 1 := by decide
  simp only [binOp, iF, Op.equal]
  rw [hmd, h, cS, kG]) rfl (by simp) (by simp) (by intro _ _ _ h; cases h)
end
end Go.Ds
namespace Go.Ds
noncomputable section
variable {P : Program} {H : Heap}
theorem a1D (a b : ByteArray) : (a == b) = decide (b = a) := by
 obtain ⟨x⟩ := a
 obtain ⟨y⟩ := b
 rw [ec, decide_eq_true_iff]
 constructor
 ·intro h
  have e : x = y := by simpa using (show (x == y) = true from h)
  rw [e]
 ·intro h
  cases h
  show (x == x) = true
  simp
theorem a3z (o : Option Nat) (i : Nat) : o.map (i + 1 + ·) = (o.map (· + 1)).map (i + ·) := by
 cases o with
 | none => rfl
 | some j => simp only [dD]; congr 1; omega
theorem a0B (k : ByteArray) : ∀ (es : List MapEntry) (ks : List ByteArray) (i : Nat), es.map (·.key) = ks.map Value.string →
 (Instr.findNow .string (.string k) (es.map wH) i).map (·.map (·.1)) = some ((ks.findIdx? fun x => decide (x = k)).map (i + ·))
 | [], [], i, _ => rfl
 | [], _ :: _, _, h => by simp at h
 | _ :: _, [], _, h => by simp at h
 | e :: es, s :: ks, i, h => by
   simp only [dU, fI] at h
   have hs : Instr.sameNow .string (.string k) e.key = some (decide (s = k)) := by
    rw [h.1]
    show some (k == s) = _
    rw [a1D]
   simp only [dU, Instr.findNow, wH, hs, eO]
   by_cases hd : s = k
   ·simp [hd]
   ·simp only [hd, decide_false, dM, if_false]
    have := a0B k es ks (i + 1) h.2
    rw [a3z] at this
    exact this
theorem b0H {κ : Type} [DecidableEq κ] {enc : κ → Value} {kt : TypeId} (heq : ∀ a b, iG P (Op.equal kt (enc a) (enc b)) = some (decide (b = a))) (k : κ) : ∀ (es : List MapEntry) (ks : List κ) (i : Nat), es.map (·.key) = ks.map enc →
 (iG P (Instr.findAsking kt (enc k) (es.map wH) i)).map (·.map (·.1)) = some ((ks.findIdx? fun x => decide (x = k)).map (i + ·))
 | [], [], i, _ => rfl
 | [], _ :: _, _, h => by simp at h
 | _ :: _, [], _, h => by simp at h
 | e :: es, s :: ks, i, h => by
   simp only [dU, fI] at h
   simp only [dU, Instr.findAsking, wH, iF, eO]
   rw [h.1, heq, cS]
   by_cases hd : s = k
   ·simp [hd, kG]
   ·simp only [hd, decide_false, dM, if_false]
    have := b0H heq k es ks (i + 1) h.2
    rw [a3z] at this
    exact this
theorem MapK.str {t kt et : TypeId} {z : Value} (hm : yK P t = some (kt, et)) (hu : P.underlying kt = some .string) (hz : iX P et = some z) (hf : iY z = true) : MapK P t Value.string z where
 ex := by
  refine ⟨kt, et, hm, hz, hf, ?_, ?_, ?_⟩
  ·intro b k
   have : iG P (Instr.checkKey b 10000 kt (.string k)) = some () := by
    show iG P (Instr.checkKey b (9999 + 1) kt (.string k)) = some ()
    unfold Instr.checkKey
    rw [iF, jL hu, cS]
    rfl
   simp only [xH, this]
   rfl
  ·intro k es ks h
   have h1 := a0B k es ks 0 h
   unfold qW Instr.findKey
   rw [iF, jL hu, cS]
   cases hn : Instr.findNow .string (.string k) (es.map wH) 0 with
   | none => rw [hn] at h1; cases h1
   | some r =>
     rw [hn] at h1
     simp only [kG]
     simpa using h1
  ·intro k
   show (k == k) = true
   rw [a1D]
   simp
theorem MapK.struct {κ : Type} [DecidableEq κ] {enc : κ → Value} {t kt et : TypeId} {z : Value} {fs : Array Field} (hm : yK P t = some (kt, et)) (hu : P.underlying kt = some (.struct fs)) (hz : iX P et = some z) (hf : iY z = true)
 (hk : ∀ b k, xH P b kt (enc k) = true) (heq : ∀ a b, iG P (Op.equal kt (enc a) (enc b)) = some (decide (b = a))) (hsb : ∀ k, Instr.sameBits 10000 (enc k) (enc k) = true) : MapK P t enc z where
 ex := by
  refine ⟨kt, et, hm, hz, hf, hk, ?_, hsb⟩
  intro k es ks h
  have h1 := b0H heq k es ks 0 h
  unfold qW Instr.findKey
  rw [iF, jL hu, cS]
  have key : ∀ (l : List MapEntry), Instr.findNow (.struct fs) (enc k) l 0 = none ∨ l = [] := by
   intro l
   cases l with
   | nil => exact .inr rfl
   | cons e l => exact .inl rfl
  rcases key (es.map wH) with hn | hn
  ·rw [hn]
   simpa using h1
  ·rw [hn]
   have : es = [] := by simpa using hn
   subst this
   have : ks = [] := by cases ks with | nil => rfl | cons a ks => simp at h
   subst this
   rfl
end
end Go.Ds
namespace Go.Ds
noncomputable section
variable {P : Program} {H : Heap}
def a1n (o : Option (Nat × TypeId)) (P : Program) (H : Heap) (t : TypeId) (z : Value) (K : Value → Heap → Prop) (_k : Keep K := ⟨⟩) : Prop := match o with
 | none => tT (iY z) (a4Z P H t z K)
 | some _ => tT (iY z) (a8R P H t z K)
theorem a4R {o o' : Option (Nat × TypeId)} {t : TypeId} {z : Value} {K : Value → Heap → Prop} (h : o = o') : a1n o P H t z K = a1n o' P H t z K := by rw [h]
attribute [congr] a4R
theorem b5d {t : TypeId} (z : Value) (K : Value → Heap → Prop) : tS P H t (some z) K = a1n (jH P t) P H t z K := by
 cases h : jH P t with
 | none => exact a6g z K h
 | some n => exact a7R z K h
theorem a5Z {t : TypeId} (z : Value) (K : Value → Heap → Prop) : a1n none P H t z K = tT (iY z) (a4Z P H t z K) := rfl
theorem a5E {t : TypeId} (n : Nat × TypeId) (z : Value) (K : Value → Heap → Prop) : a1n (some n) P H t z K = tT (iY z) (a8R P H t z K) := rfl
theorem a6y {t : TypeId} {k : IntKind} (h : a0P P t = some k) : kT P t = false := by
 simp [kT, a0f h]
def a3p (ks kt : Option IntKind) (P : Program) (s t : TypeId) (H : Heap) (k : IntKind) (a : Int) (K : Value → Heap → Prop) (_k : Keep K := ⟨⟩) : Prop := match ks, kt with
 | some k0, some k' => if k0 = k then K (.int k' (k'.wrap a)) H else tA P s t H (.int k a) K
 | _, _ => tA P s t H (.int k a) K
theorem a5o {ks ks' kt kt' : Option IntKind} {s t : TypeId} {k : IntKind} {a : Int} {K : Value → Heap → Prop} (h : ks = ks') (h2 : kt = kt') : a3p ks kt P s t H k a K = a3p ks' kt' P s t H k a K := by rw [h, h2]
attribute [congr] a5o
theorem b6L {s t : TypeId} (k : IntKind) (a : Int) (K : Value → Heap → Prop) : tA P s t H (.int k a) K = a3p (a0P P s) (a0P P t) P s t H k a K := by
 unfold a3p
 split
 ·rename_i k0 k' hs ht
  split
  ·rename_i hk
   subst hk
   rw [b2F k0 a K (a6y ht), b2S a hs ht]
   rfl
  ·rfl
 ·rfl
theorem b2m {s t : TypeId} (k k' : IntKind) (a : Int) (K : Value → Heap → Prop) : a3p (some k) (some k') P s t H k a K = oE (.int k' (k'.wrap a)) fun v => K v H := by simp [a3p, oE]
def c1C (b : Bool) (P : Program) (H : Heap) (t : TypeId) (v : Value) : Option Value := match b with
 | true => (match v with | .string s => some (.int .i64 s.size) | _ => a0b P H t v)
 | false => a0b P H t v
theorem c0K (t : TypeId) (v : Value) : a8N none P H t v = c1C (oA P t) P H t v := by
 unfold c1C
 split
 ·rename_i h
  split
  ·exact b5M _ h
  ·rfl
 ·rfl
theorem b4d (t : TypeId) (s : ByteArray) : c1C true P H t (.string s) = some (.int .i64 s.size) := rfl
def a1y (b : Bool) (P : Program) (t : TypeId) (x i : Value) : Option Value := match b, x, i with
 | true, .string s, .int k i => if 0 ≤ i ∧ i < s.size then some (.int .u8 (nU s i.toNat)) else oN P t (.string s) (.int k i)
 | _, x, i => oN P t x i
theorem a6K (t : TypeId) (x i : Value) : oN P t x i = a1y (oA P t) P t x i := by
 unfold a1y
 split
 ·rename_i h
  split
  ·rename_i h2; exact a9E _ _ _ h h2.1 h2.2
  ·rfl
 ·rfl
theorem a8h (t : TypeId) (s : ByteArray) (k : IntKind) (i : Int) (h0 : 0 ≤ i) (h1 : i < s.size) : a1y true P t (.string s) (.int k i) = some (.int .u8 (nU s i.toNat)) := by
 simp [a1y, h0, h1]
theorem OC : (∀ k n, oneCell (.int k n) = true) ∧ (∀ b, oneCell (.bool b) = true) ∧ (∀ s, oneCell (.string s) = true) ∧ (∀ a, oneCell (.pointer a) = true) ∧ (∀ a n c, oneCell (.slice a n c) = true) ∧ (∀ r, oneCell (.map r) = true) ∧ (∀ f a b, oneCell (.func f a b) = true) ∧ oneCell .nilFunc = true :=
 ⟨fun _ _ => rfl, fun _ => rfl, fun _ => rfl, fun _ => rfl, fun _ _ _ => rfl, fun _ => rfl, fun _ _ _ => rfl, rfl⟩
theorem c2X (o : Option Bool) : (o.map Value.bool).getD (.bool false) = .bool (o.getD false) := by cases o <;> rfl
theorem c3L (k : IntKind) (o : Option Int) : (o.map (Value.int k)).getD (.int k 0) = .int k (o.getD 0) := by cases o <;> rfl
theorem b7i (v : Value) (b : Bool) : pairV false v b = v := rfl
theorem b7v (v : Value) (b : Bool) : pairV true v b = .tuple #[v, .bool b] := rfl
theorem b5l (t : Tmp) : kX (.tmp t) = false := rfl
theorem a7K (v : Value) : kX (.const v) = true := rfl
theorem b3t (s : ByteArray) : flat (.string s) = true := rfl
theorem b2c (s : ByteArray) : iY (.string s) = true := rfl
theorem a9N (s : ByteArray) : iT (.string s) = true := rfl
theorem a7y (s : ByteArray) : iU (.string s) = true := rfl
theorem b6d (k : IntKind) (n : Int) : oT (.int k n) = true := rfl
theorem b2R (b : Bool) : oT (.bool b) = true := rfl
theorem b3n (s : ByteArray) : oT (.string s) = true := rfl
theorem zV {c b : Bool} {p q : Prop} (h1 : c = true → rK (.bool true) b p q) (h2 : c = false → rK (.bool false) b p q) : rK (.bool c) b p q := by
 cases c
 ·exact h2 rfl
 ·exact h1 rfl
theorem St.pick {H0 : Base} {os os' : List Ob} (hS : St P H0 H os) (idx : List Nat) (hn : idx.Nodup) (h : idx.map (os[·]?) = os'.map some) : St P H0 H os' := by
 have hmem : ∀ o ∈ os', o ∈ os := by
  intro o ho
  have : some o ∈ idx.map (os[·]?) := by rw [h]; exact fS ho
  obtain ⟨i, _, hi⟩ := dx.1 this
  exact dF hi
 refine ⟨hS.len, hS.old, fun o ho => hS.own o (hmem o ho), fun o ho => hS.new o (hmem o ho), ?_⟩
 have hpw := dZ.1 hS.sep
 rw [dZ]
 intro i j hi hj hij
 have hl : idx.length = os'.length := by simpa using congrArg List.length h
 have key : ∀ i (hi : i < os'.length), ∃ hk : idx[i]'(by omega) < os.length, os[idx[i]'(by omega)] = os'[i] := by
  intro i hi
  have h1 : (idx.map (os[·]?))[i]? = (os'.map some)[i]? := by rw [h]
  rw [eo, eo, dg (by omega), dg hi] at h1
  simp only [dD, dw] at h1
  exact di.1 h1
 obtain ⟨h1, e1⟩ := key i hi
 obtain ⟨h2, e2⟩ := key j hj
 have hne : idx[i]'(by omega) ≠ idx[j]'(by omega) := by
  have := dZ.1 hn i j (by omega) (by omega) hij
  exact this
 rcases fG hne with hh | hh
 ·have := hpw _ _ h1 h2 hh
  rw [e1, e2] at this
  exact this
 ·have := hpw _ _ h2 h1 hh
  rw [e1, e2] at this
  intro B hb hb'
  exact this B hb' hb
theorem St.frame {H1 : Heap} {H0 : Base} {ls rest ls' : List Ob} (hS : St P H0 H (ls ++ rest)) (h1 : St P ⟨H, rA ls⟩ H1 ls') : St P H0 H1 (ls' ++ rest) := by
 have hls : St P H0 H ls := hS.sub (List.sublist_append_left ..)
 have h2 := hls.bz h1
 have hsep := fB.1 hS.sep
 have hkeep : ∀ o ∈ rest, ∀ B, kK o.v = some B → iM H1 B = iM H B := by
  intro o ho B hB
  have hlt := (hS.own o (gi _ ho)).lt hB
  exact h1.old B hlt fun ⟨x, hx, hxb⟩ => hsep.2.2 x hx o ho B hxb hB
 refine ⟨h2.len, h2.old, ?_, ?_, ?_⟩
 ·intro o ho
  rcases dE.1 ho with ho | ho
  ·exact h2.own o ho
  ·exact (hS.own o (gi _ ho)).aa (hkeep o ho)
 ·intro o ho B hB
  rcases dE.1 ho with ho | ho
  ·exact h2.new o ho B hB
  ·exact hS.new o (gi _ ho) B hB
 ·rw [fB]
  refine ⟨h2.sep, hsep.2.1, ?_⟩
  intro x hx y hy B hb hb'
  rcases h1.new x hx B hb with hh | ⟨z, hz, hzb⟩
  ·have := (hS.own y (gi _ hy)).lt hb'
   have hh : H.length ≤ B := hh
   omega
  ·exact hsep.2.2 z hz y hy B hzb hb'
theorem b8T (t : TypeId) (k : IntKind) (n : Int) : unV P .neg t (.int k n) = some (.int k (k.wrap (0 - n))) := rfl
theorem b2G (ops : Array Oper) (d : Option Tmp) (op : Op) (ty : TypeId) (pos : String) (af : Array Edge) (j : Nat) (b : Bool) (l : List Value) (H' : Heap) (v : Value) :
 rdW P ops (some ⟨d, op, ty, pos, af, some (j, b)⟩) (some (l, H', v)) H = uH (xP ops j) l b (lQ P ⟨d, op, ty, pos, af, some (j, b)⟩ l H fun v' _ => v' = v) True := by
 rw [← rX ops l d op ty pos af]
 unfold rdW
 split
 ·rename_i h1 h2
  cases h1; cases h2
  split
  ·rename_i h; simp [h]
  ·rename_i h; simp [h]
 ·rename_i h
  exact (h _ _ _ _ rfl rfl).elim
theorem b2r (t t2 : TypeId) (cx cy : Bool) (k : IntKind) (a b : Int) (K : Value → Prop) : kR P .and t t2 cx cy (.int k a) (.int k b) K = jM (kP P .and t t2 cx cy (.int k a) (.int k b)) K := by
 have h : (if k = k then mD .and k a b else none) = none := by split <;> rfl
 unfold kR; dsimp only
 rw [h]
theorem b4y (t t2 : TypeId) (cx cy : Bool) (k : IntKind) (a b : Int) (K : Value → Prop) : kR P .or t t2 cx cy (.int k a) (.int k b) K = jM (kP P .or t t2 cx cy (.int k a) (.int k b)) K := by
 have h : (if k = k then mD .or k a b else none) = none := by split <;> rfl
 unfold kR; dsimp only
 rw [h]
theorem b2e (t t2 : TypeId) (cx cy : Bool) (k : IntKind) (a b : Int) (K : Value → Prop) : kR P .xor t t2 cx cy (.int k a) (.int k b) K = jM (kP P .xor t t2 cx cy (.int k a) (.int k b)) K := by
 have h : (if k = k then mD .xor k a b else none) = none := by split <;> rfl
 unfold kR; dsimp only
 rw [h]
theorem a3W (t t2 : TypeId) (cx cy : Bool) (k : IntKind) (a b : Int) (K : Value → Prop) : kR P .andNot t t2 cx cy (.int k a) (.int k b) K = jM (kP P .andNot t t2 cx cy (.int k a) (.int k b)) K := by
 have h : (if k = k then mD .andNot k a b else none) = none := by split <;> rfl
 unfold kR; dsimp only
 rw [h]
theorem b2f (t t2 : TypeId) (cx cy : Bool) (k k' : IntKind) (a b : Int) (K : Value → Prop) : kR P .shl t t2 cx cy (.int k a) (.int k' b) K = jM (kP P .shl t t2 cx cy (.int k a) (.int k' b)) K := by
 have h : (if k = k' then mD .shl k a b else none) = none := by split <;> rfl
 unfold kR; dsimp only
 rw [h]
theorem b1E (t t2 : TypeId) (cx cy : Bool) (k k' : IntKind) (a b : Int) (K : Value → Prop) : kR P .shr t t2 cx cy (.int k a) (.int k' b) K = jM (kP P .shr t t2 cx cy (.int k a) (.int k' b)) K := by
 have h : (if k = k' then mD .shr k a b else none) = none := by split <;> rfl
 unfold kR; dsimp only
 rw [h]
theorem b1H (op : BinOp) (t t2 : TypeId) (cx cy : Bool) (a b : ByteArray) (K : Value → Prop) : kR P op t t2 cx cy (.string a) (.string b) K = jM (kP P op t t2 cx cy (.string a) (.string b)) K := rfl
theorem b1l (op : BinOp) (t t2 : TypeId) (cx cy : Bool) (a b : Array Value) (K : Value → Prop) : kR P op t t2 cx cy (.agg a) (.agg b) K = jM (kP P op t t2 cx cy (.agg a) (.agg b)) K := rfl
theorem b1h (op : BinOp) (t t2 : TypeId) (cx cy : Bool) (a b : Bool) (K : Value → Prop) : kR P op t t2 cx cy (.bool a) (.bool b) K = jM (kP P op t t2 cx cy (.bool a) (.bool b)) K := rfl
theorem b5c (n : Int) (h1 : -9223372036854775808 ≤ n) (h2 : n < 9223372036854775808) : IntKind.wrap .i64 n = n := by
 show (if (true && decide (n % 18446744073709551616 ≥ 9223372036854775808)) = true then n % 18446744073709551616 - 18446744073709551616 else n % 18446744073709551616) = n
 simp only [gB, decide_eq_true_eq]
 omega
theorem b7S (n : Int) (h1 : -128 ≤ n) (h2 : n < 128) : IntKind.wrap .i8 n = n := by
 show (if (true && decide (n % 256 ≥ 128)) = true then n % 256 - 256 else n % 256) = n
 simp only [gB, decide_eq_true_eq]
 omega
theorem pW (n : Int) (h1 : 0 ≤ n) (h2 : n < 18446744073709551616) : IntKind.wrap .u64 n = n := by
 show (if (false && decide (n % 18446744073709551616 ≥ 9223372036854775808)) = true then n % 18446744073709551616 - 18446744073709551616 else n % 18446744073709551616) = n
 simp only [fC]
 rw [if_neg (by simp)]
 omega
theorem b6g (n : Int) (h1 : 0 ≤ n) (h2 : n < 4294967296) : IntKind.wrap .u32 n = n := by
 show (if (false && decide (n % 4294967296 ≥ 2147483648)) = true then n % 4294967296 - 4294967296 else n % 4294967296) = n
 simp only [fC]
 rw [if_neg (by simp)]
 omega
theorem b3K (n : Int) (h1 : 0 ≤ n) (h2 : n < 65536) : IntKind.wrap .u16 n = n := by
 show (if (false && decide (n % 65536 ≥ 32768)) = true then n % 65536 - 65536 else n % 65536) = n
 simp only [fC]
 rw [if_neg (by simp)]
 omega
theorem b7g (n : Int) (h1 : 0 ≤ n) (h2 : n < 256) : IntKind.wrap .u8 n = n := by
 show (if (false && decide (n % 256 ≥ 128)) = true then n % 256 - 256 else n % 256) = n
 simp only [fC]
 rw [if_neg (by simp)]
 omega
end
end Go.Ds
namespace Go.Ds
noncomputable section
variable {P : Program}
def zW (P : Program) (t : TypeId) : List Field := match P.underlying t with | some (.struct fs) => fs.toList | _ => []
def eqC : Value → Value → Bool
 | .int _ a, .int _ b => a == b
 | .bool a, .bool b => a == b
 | .string a, .string b => decide (a = b)
 | _, _ => false
def okC (P : Program) (t : TypeId) (x y : Value) : Bool := match P.underlying t with
 | some (.int _) => (match x, y with | .int k _, .int k' _ => decide (k = k') | _, _ => false)
 | some .bool => (match x, y with | .bool _, .bool _ => true | _, _ => false)
 | some .string => (match x, y with | .string _, .string _ => true | _, _ => false)
 | _ => false
theorem eq1 {t : TypeId} {x y : Value} (d : Nat) (h : okC P t x y = true) : iG P (Op.equalIn (d + 1) t x y) = some (eqC x y) := by
 unfold okC at h
 split at h
 ·rename_i k0 hu
  split at h
  ·rename_i k a k' b
   have hk : k = k' := by simpa using h
   subst hk
   rw [Op.equalIn, iF, jL hu, cS]
   simp only [if_true]
   rfl
  ·cases h
 ·rename_i hu
  split at h
  ·rw [Op.equalIn, iF, jL hu, cS]; rfl
  ·cases h
 ·rename_i hu
  split at h
  ·rename_i a b
   rw [Op.equalIn, iF, jL hu, cS]
   show some (a == b) = some (decide (a = b))
   rw [a1D]
   congr 1
   simp [eq_comm]
  ·cases h
 ·cases h
theorem b9t {t : TypeId} {x y v : Value} {cs : Array Value} {off : Nat} (h : okC P t x y = true) (hc : cs[off]? = some v) : iG P (part t cs off) = some v := by
 have ha : iG P (isAgg t) = some false := by
  unfold isAgg
  unfold okC at h
  split at h
  ·rename_i hu; rw [iF, jL hu, cS]; rfl
  ·rename_i hu; rw [iF, jL hu, cS]; rfl
  ·rename_i hu; rw [iF, jL hu, cS]; rfl
  ·cases h
 unfold part
 rw [iF, ha, cS]
 simp only [dM, if_false, hc]
 rfl
theorem a1T {t : TypeId} {xs ys : List Value} (d : Nat) (hu : P.underlying t = some (.struct (zW P t).toArray)) (hst : P.stoodInHeld t = false)
 (hf : ((zW P t).map fun f => (f.name != "_", f.offset)) = (List.range xs.length).map fun j => (true, j)) (hy : ys.length = xs.length)
 (hok : ((zW P t).all fun f => okC P f.type (xs.getD f.offset undef) (ys.getD f.offset undef)) = true) :
 iG P (Op.equalIn (d + 2) t (.agg xs.toArray) (.agg ys.toArray)) = some ((List.range xs.length).all fun j => eqC (xs.getD j undef) (ys.getD j undef)) := by
 rw [dh] at hok
 have hmem : ∀ f ∈ zW P t, (f.name != "_") = true ∧ f.offset < xs.length := fun f hf' => by
  have : (f.name != "_", f.offset) ∈ (List.range xs.length).map fun j => (true, j) := by rw [← hf]; exact fS hf'
  obtain ⟨j, hj, he⟩ := dx.1 this
  simp only [gz] at he
  exact ⟨he.1.symm, by rw [← he.2]; exact dr.1 hj⟩
 rw [b4m hu hst (fun f => eqC (xs.getD f.offset undef) (ys.getD f.offset undef)) ?_]
 ·congr 1
  have h1 : (zW P t).all (fun f => eqC (xs.getD f.offset undef) (ys.getD f.offset undef)) = ((zW P t).map fun f => (f.name != "_", f.offset)).all fun p => eqC (xs.getD p.2 undef) (ys.getD p.2 undef) := by
   rw [List.all_map]; rfl
  rw [h1, hf, List.all_map]
  rfl
 ·intro f hf'
  obtain ⟨h1, h2⟩ := hmem f hf'
  refine ⟨by simpa using h1, ?_⟩
  have hx : xs.toArray[f.offset]? = some (xs.getD f.offset undef) := by
   rw [eT, cW, dg h2]; rfl
  have hy' : ys.toArray[f.offset]? = some (ys.getD f.offset undef) := by
   rw [eT, cW, dg (by omega)]; rfl
  rw [iF, b9t (hok f hf') hx, cS, iF, b9t (hok f hf') hy', cS]
  exact eq1 d (hok f hf')
theorem xJ {t t2 : TypeId} {cx cy : Bool} {xs ys : List Value} (hu : P.underlying t = some (.struct (zW P t).toArray)) (hst : P.stoodInHeld t = false) (hg : P.eqGuardType P.depth t = false)
 (hf : ((zW P t).map fun f => (f.name != "_", f.offset)) = (List.range xs.length).map fun j => (true, j)) (hy : ys.length = xs.length)
 (hok : ((zW P t).all fun f => okC P f.type (xs.getD f.offset undef) (ys.getD f.offset undef)) = true) (hx : xs.all iT = true) (hys : ys.all iT = true) :
 kP P .eql t t2 cx cy (.agg xs.toArray) (.agg ys.toArray) = some (.bool ((List.range xs.length).all fun j => eqC (xs.getD j undef) (ys.getD j undef))) ∧
 kP P .neq t t2 cx cy (.agg xs.toArray) (.agg ys.toArray) = some (.bool (!((List.range xs.length).all fun j => eqC (xs.getD j undef) (ys.getD j undef)))) :=
 ⟨b4s _ hg hx hys (a1T 9998 hu hst hf hy hok), b3U _ hg hx hys (a1T 9998 hu hst hf hy hok)⟩
theorem c1D {t : TypeId} {k : IntKind} (hu : P.underlying t = some (.struct (zW P t).toArray)) (hst : P.stoodInHeld t = false)
 (hf : ((zW P t).map fun f => (f.name != "_", f.offset)) = (List.range 2).map fun j => (true, j))
 (hok : ∀ a b c d : Int, ((zW P t).all fun f => okC P f.type ([Value.int k a, .int k b].getD f.offset undef) ([Value.int k c, .int k d].getD f.offset undef)) = true) (a b : Int × Int) :
 iG P (Op.equal t (.agg #[.int k a.1, .int k a.2]) (.agg #[.int k b.1, .int k b.2])) = some (decide (b = a)) := by
 have hmd : Op.maxDepth = 9998 + 2 := by decide
 unfold Op.equal
 rw [hmd, a1T (xs := [.int k a.1, .int k a.2]) (ys := [.int k b.1, .int k b.2]) 9998 hu hst hf rfl (hok _ _ _ _)]
 congr 1
 show ((a.1 == b.1) && ((a.2 == b.2) && true)) = _
 rw [ec]
 simp only [ff, cT, beq_iff_eq, decide_eq_true_eq, Prod.ext_iff]
 constructor
 ·rintro ⟨h1, h2⟩; exact ⟨h1.symm, h2.symm⟩
 ·rintro ⟨h1, h2⟩; exact ⟨h1.symm, h2.symm⟩
theorem c1a {k : IntKind} (a : Int × Int) : Instr.sameBits 10000 (.agg #[.int k a.1, .int k a.2]) (.agg #[.int k a.1, .int k a.2]) = true := by
 show ((2 : Nat) == 2 && ([(Value.int k a.1, Value.int k a.1), (Value.int k a.2, Value.int k a.2)]).all fun (x, y) => Instr.sameBits 9999 x y) = true
 have h : ∀ n, Instr.sameBits 9999 (.int k n) (.int k n) = true := fun n => by
  show (k == k && n == n) = true
  cases k <;> simp <;> rfl
 simp [h]
section
variable {H : Heap} {α : Type} {n : Nat} {cel : α → List Value} {v : Value} {xs : List α}
theorem Sl.aT (h : Sl n cel H v xs) (o : Oper) (l : List Value) (H' : Heap) (k : IntKind) (a : Int) (K : Value → Heap → Prop) (h0 : 0 < xs.length) (h1 : 0 ≤ a) (h2 : a ≤ xs.length) :
 oJ P o l H' (some n) v none (some (.int k a)) K = oE (mM v n 0 a.toNat) fun v => K v H' := by
 obtain ⟨m, rfl⟩ : ∃ m, n = m + 1 := ⟨n - 1, by have := h.pos; omega⟩
 exact h.rd.aT (iN h.hc xs) o l H' k a K h0 h1 h2
theorem Sl.aS (h : Sl n cel H v xs) (o : Oper) (l : List Value) (H' : Heap) (k : IntKind) (a : Int) (K : Value → Heap → Prop) (h0 : 0 < xs.length) (h1 : 0 ≤ a) (h2 : a ≤ xs.length) :
 oJ P o l H' (some n) v (some (.int k a)) none K = oE (mM v n a.toNat (xs.length - a).toNat) fun v => K v H' := by
 obtain ⟨m, rfl⟩ : ∃ m, n = m + 1 := ⟨n - 1, by have := h.pos; omega⟩
 rw [h.rd.aS (iN h.hc xs) o l H' k a K h0 h1 h2]
 congr 2
 omega
theorem Sl.sub (h : Sl n cel H v xs) (lo k : Nat) (hk : lo + k ≤ xs.length) (h0 : 0 < xs.length) : Sl n cel H (mM v n lo k) ((xs.drop lo).take k) := by
 refine ⟨?_, h.hc, h.pos⟩
 have hne : xs.flatMap cel ≠ [] := fun e => by
  have := iN h.hc xs
  rw [e, eG] at this
  have hp := gX h0 h.pos
  omega
 have := h.rd.sub lo k (by rw [iN h.hc, ← eZ]; exact dC _ hk) hne
 rw [sP h.hc, a2k h.hc] at this
 exact this
theorem Sl.cA (h : Sl n cel H v xs) (k : Nat) (hk : k ≤ xs.length) (h0 : 0 < xs.length) : Sl n cel H (mM v n 0 k) (xs.take k) := by
 simpa using h.sub 0 k (by omega) h0
theorem Sl.cB (h : Sl n cel H v xs) (lo : Nat) (hk : lo ≤ xs.length) (h0 : 0 < xs.length) : Sl n cel H (mM v n lo (xs.length - lo)) (xs.drop lo) := by
 have := h.sub lo (xs.length - lo) (by omega) h0
 rwa [List.take_of_length_le (by simp)] at this
end
def a7O (P : Program) (ts : Array TypeId) (ty : TypeId) (cx cy : Bool) (x y : Value) : Option Value := (kE P ⟨none, .call { callee := .builtin .max, args := #[oD cx 0 x, oD cy 1 y], argTypes := ts }, ty, "", #[], none⟩ [x, y] .nil).map (·.1)
theorem b7P (d : Option Tmp) (ty : TypeId) (pos : String) (af : Array Edge) (g : Option (Nat × Bool)) (ts : Array TypeId) (x y : Operand) (l : List Value) (H : Heap) (K : Value → Heap → Prop) :
 lQ P ⟨d, .call { callee := .builtin .max, args := #[x, y], argTypes := ts }, ty, pos, af, g⟩ l H K = jD x l fun x' => jD y l fun y' => jM (a7O P ts ty (kX x) (kX y) x' y') fun v => K v H := by
 have h : opD P ⟨d, .call { callee := .builtin .max, args := #[x, y], argTypes := ts }, ty, pos, af, g⟩ l H = (a7O P ts ty (kX x) (kX y) (ev l x) (ev l y)).map fun v => (v, H) :=
  mQ (P := P) ⟨d, .call { callee := .builtin .max, args := #[x, y], argTypes := ts }, ty, pos, af, g⟩ ⟨none, .call { callee := .builtin .max, args := #[oD (kX x) 0 (ev l x), oD (kX y) 1 (ev l y)], argTypes := ts }, ty, "", #[], none⟩ l [ev l x, ev l y] H
   (by cases x <;> cases y <;> rfl) (by cases x <;> cases y <;> kernel_rfl)
 have h2 : jT ((a7O P ts ty (kX x) (kX y) (ev l x) (ev l y)).map fun v => (v, H)) K = jM (a7O P ts ty (kX x) (kX y) (ev l x) (ev l y)) fun v => K v H := by cases a7O P ts ty (kX x) (kX y) (ev l x) (ev l y) <;> rfl
 simp only [lQ, h, jD, Op.operands, Call.operands, h2]
 simp [and_assoc]
theorem b4E (ts : Array TypeId) (ty : TypeId) (cx cy : Bool) (a b : Int) : a7O P ts ty cx cy (.int .i64 a) (.int .i64 b) = some (.int .i64 (max a b)) := by
 have h : a7O P ts ty cx cy (.int .i64 a) (.int .i64 b) = some (.int .i64 (if b > a then b else a)) := by cases cx <;> cases cy <;> kernel_rfl
 rw [h]
 congr 2
 split <;> omega
def a8D (P : Program) (ts : Array TypeId) (ty : TypeId) (cx cy : Bool) (x y : Value) : Option Value := (kE P ⟨none, .call { callee := .builtin .min, args := #[oD cx 0 x, oD cy 1 y], argTypes := ts }, ty, "", #[], none⟩ [x, y] .nil).map (·.1)
theorem b8q (d : Option Tmp) (ty : TypeId) (pos : String) (af : Array Edge) (g : Option (Nat × Bool)) (ts : Array TypeId) (x y : Operand) (l : List Value) (H : Heap) (K : Value → Heap → Prop) :
 lQ P ⟨d, .call { callee := .builtin .min, args := #[x, y], argTypes := ts }, ty, pos, af, g⟩ l H K = jD x l fun x' => jD y l fun y' => jM (a8D P ts ty (kX x) (kX y) x' y') fun v => K v H := by
 have h : opD P ⟨d, .call { callee := .builtin .min, args := #[x, y], argTypes := ts }, ty, pos, af, g⟩ l H = (a8D P ts ty (kX x) (kX y) (ev l x) (ev l y)).map fun v => (v, H) :=
  mQ (P := P) ⟨d, .call { callee := .builtin .min, args := #[x, y], argTypes := ts }, ty, pos, af, g⟩ ⟨none, .call { callee := .builtin .min, args := #[oD (kX x) 0 (ev l x), oD (kX y) 1 (ev l y)], argTypes := ts }, ty, "", #[], none⟩ l [ev l x, ev l y] H
   (by cases x <;> cases y <;> rfl) (by cases x <;> cases y <;> kernel_rfl)
 have h2 : jT ((a8D P ts ty (kX x) (kX y) (ev l x) (ev l y)).map fun v => (v, H)) K = jM (a8D P ts ty (kX x) (kX y) (ev l x) (ev l y)) fun v => K v H := by cases a8D P ts ty (kX x) (kX y) (ev l x) (ev l y) <;> rfl
 simp only [lQ, h, jD, Op.operands, Call.operands, h2]
 simp [and_assoc]
theorem b6w (ts : Array TypeId) (ty : TypeId) (cx cy : Bool) (a b : Int) : a8D P ts ty cx cy (.int .i64 a) (.int .i64 b) = some (.int .i64 (min a b)) := by
 have h : a8D P ts ty cx cy (.int .i64 a) (.int .i64 b) = some (.int .i64 (if b < a then b else a)) := by cases cx <;> cases cy <;> kernel_rfl
 rw [h]
 congr 2
 split <;> omega
section
variable {H : Heap}
def Var (H : Heap) (A n : Nat) (cs : List Value) : Prop := n = cs.length ∧ ∃ ty rw lo ver, iM H A = some (.cells cs ty rw lo ver) ∧ lo ≤ cs.length
theorem Var.aa {H' : Heap} {A n : Nat} {cs : List Value} (h : Var H A n cs) (hk : ∀ B, B < H.length → iM H' B = iM H B) : Var H' A n cs := by
 obtain ⟨h1, ty, rw, lo, ver, h2, h3⟩ := h
 exact ⟨h1, ty, rw, lo, ver, by rw [hk A (jE h2), h2], h3⟩
theorem Var.ld {A n : Nat} {cs : List Value} (h : Var H A n cs) (s : Option Nat) (off : Nat) : pB (some false) s H (ptr A off n) = cs[off]? := by
 obtain ⟨rfl, ty, rw, lo, ver, h1, h2⟩ := h
 simp only [pB, iZ, h1]
 by_cases h : off < cs.length
 ·rw [if_pos (by simp; omega)]
  simp only [cS]
  rw [dJ (by omega), dy]
  simp
 ·rw [if_neg (by simp; omega), dS (by omega)]
  rfl
theorem Var.ae {A n : Nat} {cs : List Value} (h : Var H A n cs) (m off : Nat) : pB (some true) (some m) H (ptr A off n) = if off + m ≤ cs.length then some (.agg ((cs.drop off).take m).toArray) else none := by
 obtain ⟨rfl, ty, rw, lo, ver, h1, h2⟩ := h
 simp only [pB, iZ, h1, cS]
 by_cases h : off + m ≤ cs.length
 ·rw [if_pos (by simp; omega), if_pos h]
  rfl
 ·rw [if_neg (by simp; omega), if_neg h]
  rfl
theorem St.var {P : Program} {H0 : Base} {os : List Ob} (hS : St P H0 H os) (i : Nat) {A n : Nat} {cs : List Value} (ho : os[i]? = some ⟨ptr A 0 n, 0, cs⟩) : Var H A n cs := by
 obtain ⟨h1, ty, lo, ver, h2, h3⟩ := hS.cell i ho
 exact ⟨h1, ty, true, lo, ver, h2, h3⟩
theorem St.va {H0 : Heap} {os : List Ob} (hS : St P H0 H os) {A n : Nat} {cs : List Value} (h : Var H0 A n cs) : Var H A n cs := h.aa hS.aa
end
theorem rT {P : Program} (t t2 : TypeId) (cx cy : Bool) (u x : UInt8) : kP P .add t t2 cx cy (.string ⟨#[u]⟩) (.string ⟨#[x]⟩) = some (.string ⟨#[u, x]⟩) := by
 rw [a7u _ _ _ _ _ _ (by show 1 + 1 < 9223372036854775808; decide)]
 rfl
theorem uO {P : Program} {H : Heap} {s t : TypeId} {v : Value} {n : Int} (h : RdAt H v 1 [.int .u8 n]) (hs : kT P s = true) (ht : oA P t = true) (hbt : kT P t = false) (h0 : 0 ≤ n) (h1 : n < 256) (K : Value → Heap → Prop) :
 tA P s t H v K = K (.string ⟨#[UInt8.ofNat n.toNat]⟩) H := by
 obtain ⟨m, rfl⟩ : ∃ m : Nat, n = Int.ofNat m := ⟨n.toNat, by simp [fF h0]⟩
 have hm : m < 256 := by have : (m : Int) < 256 := h1; omega
 rcases h with ⟨_, h⟩ | ⟨A, i, e, row, ty, rw, lo, ver, k, g1, g2, g3, g4, g5, g6, rfl⟩
 ·cases h
 have hk : k = 1 := by simp at g6; omega
 subst hk
 have hc : iZ H A i e 1 = some [.int .u8 (Int.ofNat m)] := by
  simp only [iZ, g1]
  rw [if_pos (by simp at g4 ⊢; omega)]
  exact congrArg some g5
 have hb : mY [.int .u8 (Int.ofNat m)] = some ⟨#[UInt8.ofNat m]⟩ := by simp [mY, a1Q, a0T, hm]
 have hd : opD P ⟨none, .convert s t (.const (.slice (some ⟨A, i, some e⟩) 1 1)), t, "", #[], none⟩ [] H = some (.string ⟨#[UInt8.ofNat m]⟩, H) := by
  have hf : flat (.slice (some ⟨A, i, some e⟩) 1 1) = false := rfl
  simp only [opD, ev, hf, hs, ht, hc, hb, fC, dM, if_false, Bool.and_self, if_true, cS, dD]
 unfold tA
 rw [hd]
 apply propext
 constructor
 ·rintro ⟨v, H1, h2, h3⟩
  injection (cR h2) with e1 e2
  subst e1 e2
  exact h3
 ·intro h3
  exact ⟨_, _, rfl, h3⟩
theorem a4a {P : Program} {t : TypeId} {n : Nat} {elem : TypeId} {size : Nat} (ha : P.underlying t = some (.array n elem)) (hs : iA P elem = some size) (A i e : Nat) (k : IntKind) (j : Int) (h0 : 0 ≤ j) (h1 : j < n) :
 vW (iP P t) P t (ptr A i e) (.int k j) = some (ptr A (i + j.toNat * size) e) := by
 have hn : iP P t = none := by simp [iP, iD, ha]
 rw [hn]
 simp only [vW, a1B, ha, ptr, hs, cS]
 rw [if_pos (by simp [h0, h1])]
end
end Go.Ds
namespace Go.Ds
section
variable {P : Program}
def c0Q (inv : List Nat) (e : Edge) : Edge := { e with on := inv.getD e.on 0 }
def xF (inv : List Nat) (o : Oper) : Oper := { o with after := o.after.map (c0Q inv), guard := o.guard.map fun g => (inv.getD g.1 0, g.2) }
def jU (π inv : List Nat) (ops : Array Oper) : Array Oper := (π.map fun i => xF inv (ops.getD i default)).toArray
def a8M (π inv : List Nat) (ops : Array Oper) : Bool :=
 decide (π.length = ops.size) && decide (inv.length = ops.size) && (List.range ops.size).all (fun i => decide (π.getD i 0 < ops.size) && decide (inv.getD i 0 < ops.size) && decide (inv.getD (π.getD i 0) 0 = i) && decide (π.getD (inv.getD i 0) 0 = i)) &&
 ops.toList.all fun o => o.after.toList.all (fun e => decide (e.on < ops.size)) && (match o.guard with | some g => decide (g.1 < ops.size) | none => true)
structure Perm (π inv : List Nat) (ops : Array Oper) : Prop where
 len : π.length = ops.size
 pi : ∀ i, i < ops.size → π.getD i 0 < ops.size
 iv : ∀ i, i < ops.size → inv.getD i 0 < ops.size
 ip : ∀ i, i < ops.size → inv.getD (π.getD i 0) 0 = i
 pv : ∀ i, i < ops.size → π.getD (inv.getD i 0) 0 = i
 edge : ∀ (i : Nat) (o : Oper), ops[i]? = some o → ∀ e ∈ o.after, e.on < ops.size
 guard : ∀ (i : Nat) (o : Oper) (g : Nat × Bool), ops[i]? = some o → o.guard = some g → g.1 < ops.size
theorem b8A {π inv : List Nat} {ops : Array Oper} (h : a8M π inv ops = true) : Perm π inv ops := by
 unfold a8M at h
 simp only [cT, decide_eq_true_eq, dh, dr] at h
 obtain ⟨⟨⟨h1, h2⟩, h3⟩, h4⟩ := h
 refine ⟨h1, fun i hi => (h3 i hi).1.1.1, fun i hi => (h3 i hi).1.1.2, fun i hi => (h3 i hi).1.2, fun i hi => (h3 i hi).2, fun i o ho e he => ?_, fun i o g ho hg => ?_⟩
 ·exact (h4 o (dF (i := i) (by simpa using ho))).1 e (by simpa using he)
 ·have := (h4 o (dF (i := i) (by simpa using ho))).2
  rw [hg] at this
  simpa using this
variable {π inv : List Nat} {ops : Array Oper}
theorem a5Q (p : Nat) : (jU π inv ops)[p]? = (π[p]?).map fun i => xF inv (ops.getD i default) := by
 simp [jU]
theorem pY (D : Perm π inv ops) {p i : Nat} {o : Oper} (hp : p < ops.size) (hi : π.getD p 0 = i) (ho : ops[i]? = some o) : (jU π inv ops)[p]? = some (xF inv o) := by
 rw [a5Q]
 have h1 : π[p]? = some i := by
  rw [cW] at hi
  rw [dg (by rw [D.len]; exact hp)] at hi ⊢
  simpa using hi
 rw [h1]
 simp only [dD]
 rw [dQ, ho]
 rfl
theorem pJ (D : Perm π inv ops) : (jU π inv ops).size = ops.size := by simp [jU, D.len]
theorem a4w (D : Perm π inv ops) (tmps : Array Value) {j : Nat} (hj : j < ops.size) : yielded (jU π inv ops) tmps (inv.getD j 0) = yielded ops tmps j := by
 have ho : ops[j]? = some ops[j] := cY.2 ⟨hj, rfl⟩
 unfold yielded
 rw [pY D (D.iv j hj) (D.pv j hj) ho, ho]
 rfl
theorem a6L (D : Perm π inv ops) (tmps : Array Value) {i : Nat} {o : Oper} (ho : ops[i]? = some o) : Region.wanted (xF inv o) (yielded (jU π inv ops) tmps) = Region.wanted o (yielded ops tmps) := by
 unfold Region.wanted
 have e : (xF inv o).guard = o.guard.map fun g => (inv.getD g.1 0, g.2) := rfl
 rw [e]
 cases hg : o.guard with
 | none => rfl
 | some g =>
   simp only [dD]
   rw [a4w D tmps (D.guard i o g ho hg)]
theorem b8N (ro : Option Nat) (ρ : Operand → Value) (o : Oper) : (xF inv o).semAt ro ρ = o.semAt ro ρ := by
 obtain ⟨dst, op, type, pos, after, guard⟩ := o
 rfl
theorem b2Z (w : World) (ρ : Operand → Value) (o : Oper) : (xF inv o).about P w ρ = o.about P w ρ := by
 obtain ⟨dst, op, type, pos, after, guard⟩ := o
 rfl
theorem b3M (F : Fence) (n : Nat) (o : Oper) (a : Act) (next : Act → World → Prop) (Q : Exit → Act → World → Prop) (r : Result Next) : (xF inv o).uponIn F n P a next Q r = o.uponIn F n P a next Q r := by
 obtain ⟨dst, op, type, pos, after, guard⟩ := o
 cases r with
 | ok x w => cases x <;> rfl
 | halt x w => cases x <;> rfl
theorem b1A (D : Perm π inv ops) (F : Fence) (n : Nat) (Q : Exit → Act → World → Prop) {i : Nat} (hi : i < ops.size) (K : Act → World → Prop) (a : Act) (w : World) :
 wpOpIn F n P (jU π inv ops) Q (inv.getD i 0) K a w = wpOpIn F n P ops Q i K a w := by
 have ho : ops[i]? = some ops[i] := cY.2 ⟨hi, rfl⟩
 unfold wpOpIn
 rw [pY D (D.iv i hi) (D.pv i hi) ho, ho]
 simp only [a6L D a.tmps ho, Oper.wpIn, b2Z, b3M, b8N]
 rfl
def c1I (inv : List Nat) (n : Nat) (listed listed' : Array Bool) : Prop := listed.size = n ∧ listed'.size = n ∧ ∀ i, i < n → listed.getD i false = listed'.getD (inv.getD i 0) false
theorem vZ (D : Perm π inv ops) {listed listed' : Array Bool} (hc : c1I inv ops.size listed listed') {i : Nat} (hi : i < ops.size) :
 i ∈ Region.ready .any ops listed ↔ inv.getD i 0 ∈ Region.ready .any (jU π inv ops) listed' := by
 have ho : ops[i]? = some ops[i] := cY.2 ⟨hi, rfl⟩
 have ho' := pY D (D.iv i hi) (D.pv i hi) ho
 have hsz := pJ D
 obtain ⟨c1, c2, c3⟩ := hc
 constructor
 ·intro h
  obtain ⟨o, h1, h2, h3⟩ := oP c1 h
  rw [ho] at h1
  obtain rfl := cR h1
  refine zT (by rw [hsz]; exact c2) ho' (by rw [← c3 i hi]; exact h2) ?_
  intro e he hb
  have he' : e ∈ (ops[i]).after.map (c0Q inv) := he
  obtain ⟨e0, he0, rfl⟩ := Array.mem_map.1 he'
  have := h3 e0 he0 hb
  show listed'.getD (inv.getD e0.on 0) false = true
  rw [← c3 _ (D.edge i _ ho e0 he0)]
  exact this
 ·intro h
  obtain ⟨o, h1, h2, h3⟩ := oP (by rw [hsz]; exact c2) h
  rw [ho'] at h1
  obtain rfl := cR h1
  refine zT c1 ho (by rw [c3 i hi]; exact h2) ?_
  intro e he hb
  have := h3 (c0Q inv e) (Array.mem_map.2 ⟨e, he, rfl⟩) hb
  rw [c3 _ (D.edge i _ ho e he)]
  exact this
theorem b3G (D : Perm π inv ops) (F : Fence) (k : Nat) {Q : Exit → Act → World → Prop} : ∀ (fuel : Nat) (listed listed' : Array Bool) (a : Act) (w : World), c1I inv ops.size listed listed' →
 wpAnyIn F k P .any (jU π inv ops) Q fuel listed' a w → wpAnyIn F k P .any ops Q fuel listed a w := by
 have hsz := pJ D
 have nil1 : ∀ {listed listed' : Array Bool}, c1I inv ops.size listed listed' → (Region.ready .any ops listed = [] ↔ Region.ready .any (jU π inv ops) listed' = []) := by
  intro listed listed' hc
  constructor
  ·intro h
   cases hr : Region.ready .any (jU π inv ops) listed' with
   | nil => rfl
   | cons p r =>
     exfalso
     have hp : p ∈ Region.ready .any (jU π inv ops) listed' := by rw [hr]; exact ef ..
     obtain ⟨o, h1, _, _⟩ := oP (by rw [hsz]; exact hc.2.1) hp
     have hpn : p < ops.size := by rw [← hsz]; exact (cY.1 h1).1
     have := (vZ D hc (D.pi p hpn)).2 (by rw [D.ip p hpn]; exact hp)
     rw [h] at this
     cases this
  ·intro h
   cases hr : Region.ready .any ops listed with
   | nil => rfl
   | cons i r =>
     exfalso
     have hi : i ∈ Region.ready .any ops listed := by rw [hr]; exact ef ..
     obtain ⟨o, h1, _, _⟩ := oP hc.1 hi
     have := (vZ D hc (cY.1 h1).1).1 hi
     rw [h] at this
     cases this
 intro fuel
 induction fuel with
 | zero =>
   intro listed listed' a w hc h
   exact ⟨(nil1 hc).2 h.1, h.2⟩
 | succ fuel ih =>
   intro listed listed' a w hc h
   refine ⟨fun hn => h.1 ((nil1 hc).1 hn), fun i hi => ?_⟩
   obtain ⟨o, h1, _, _⟩ := oP hc.1 hi
   have hin := (cY.1 h1).1
   have h2 := h.2 _ ((vZ D hc hin).1 hi)
   rw [b1A D F k Q hin] at h2
   refine wpOpIn_mono (fun a' w' h3 => ih _ _ a' w' ⟨by simpa using hc.1, by simpa using hc.2.1, fun j hj => ?_⟩ h3) h2
   have e1 := sB (listed := listed) (i := i) (by rw [hc.1]; exact hin) j
   have e2 := sB (listed := listed') (i := inv.getD i 0) (by rw [hc.2.1]; exact D.iv i hin) (inv.getD j 0)
   have e3 : (inv.getD j 0 = inv.getD i 0) ↔ j = i := ⟨fun h => by rw [← D.pv j hj, h, D.pv i hin], fun h => by rw [h]⟩
   rw [ec, e1, e2, e3, hc.2.2 j hj]
end
section
variable {P : Program} {H : Heap} {π inv : List Nat} {ops : Array Oper}
theorem Sim.cC (jZ : P.follows .mixedOrders = true) {id : Nat} (Dp : Perm π inv ops) {fl : Fl} (D : Draw P fl (jU π inv ops)) {T : Nat → List Value × Heap} {val : Nat → Value} (X : Text P (jU π inv ops) T val)
 (hread : ∀ i m o, (i, m) ∈ lZ fl (jU π inv ops) → (jU π inv ops)[i]? = some o → Region.wanted o (iQ (jU π inv ops) (T i).1) = true → ∃ H2, opD P o (T i).1 (T m).2 = some (val i, H2)) :
 Sim P (.region id ops true) (T 0).1 (T 0).2 .normal (T ops.size).1 (T ops.size).2 := by
 intro ro k B ρ w a hr hE hl hM hB
 have hsz := pJ Dp
 have := a3v D X hread ro k B hr hE hM
 rw [hsz] at this
 exact wpIn_region_any jZ (b3G Dp (fe ro) k ops.size _ _ a _ ⟨by simp, by simp, fun i hi => by
  have := Dp.iv i hi
  simp only [dQ, Array.getElem?_replicate, hi, this, if_true]⟩ this)
theorem a2P (D : Perm π inv ops) (l : List Value) {j : Nat} (hj : j < ops.size) : iQ (jU π inv ops) l (inv.getD j 0) = iQ ops l j := by
 have ho : ops[j]? = some ops[j] := cY.2 ⟨hj, rfl⟩
 unfold iQ
 rw [pY D (D.iv j hj) (D.pv j hj) ho, ho]
 rfl
theorem yD (D : Perm π inv ops) (l : List Value) {i : Nat} {o : Oper} (ho : ops[i]? = some o) : Region.wanted (xF inv o) (iQ (jU π inv ops) l) = Region.wanted o (iQ ops l) := by
 unfold Region.wanted
 have e : (xF inv o).guard = o.guard.map fun g => (inv.getD g.1 0, g.2) := rfl
 rw [e]
 cases hg : o.guard with
 | none => rfl
 | some g =>
   simp only [dD]
   rw [a2P D l (D.guard i o g ho hg)]
theorem b0l (o : Oper) (l : List Value) (K : Value → Heap → Prop) : lQ P (xF inv o) l H K = lQ P o l H K := by
 obtain ⟨dst, op, type, pos, after, guard⟩ := o
 rfl
theorem a2T (D : Perm π inv ops) : ∀ (os : List Oper) (tr : List (List Value × Heap × Value)) (l : List Value) (H : Heap) (K : List (List Value × Heap × Value) → List Value → Heap → Prop), (∀ o ∈ os, ∃ i : Nat, ops[i]? = some o) →
 mA P (jU π inv ops) (os.map (xF inv)) tr l H K = mA P ops os tr l H K
 | [], _, _, _, _, _ => rfl
 | o :: os, tr, l, H, K, h => by
   obtain ⟨i, ho⟩ := h o (by simp)
   have ih := fun tr l H => a2T D os tr l H K fun o ho => h o (by simp [ho])
   rw [dU, mA, mA, yD D l ho]
   have e : (xF inv o).dst = o.dst := rfl
   simp only [b0l, e, ih]
def c1i (o : Option Oper) (os : List Oper) : List Oper := match o with | some o => o :: os | none => os
def sel (os : List Oper) : List Nat → List Oper
 | [] => []
 | i :: π => c1i os[i]? (sel os π)
theorem b6C (os : List Oper) : sel os [] = [] := rfl
theorem a5p (os : List Oper) (i : Nat) (π : List Nat) : sel os (i :: π) = c1i os[i]? (sel os π) := rfl
theorem a2V (o : Oper) (os : List Oper) : c1i (some o) os = o :: os := rfl
theorem a8F (os : List Oper) : ∀ (π : List Nat), (∀ i ∈ π, i < os.length) → sel os π = π.map fun i => os.toArray.getD i default
 | [], _ => rfl
 | i :: π, h => by
   have hi := h i (by simp)
   rw [a5p, a8F os π fun j hj => h j (by simp [hj]), dg hi, a2V, dU]
   congr 1
   simp [dQ, hi]
def zU (P : Program) (os : List Oper) (tr : List (List Value × Heap × Value)) (H1 : Heap) (π : List Nat) : List (Nat × Nat) → Prop
 | [] => True
 | (p, m) :: r => rdW P os.toArray (os[π.getD p 0]?) tr[p]? (trH tr[m]? H1) ∧ zU P os tr H1 π r
theorem a9M (os : List Oper) (tr) (H1 : Heap) (π : List Nat) : zU P os tr H1 π [] = True := rfl
theorem a6F (os : List Oper) (tr) (H1 : Heap) (π : List Nat) (p m : Nat) (r : List (Nat × Nat)) : zU P os tr H1 π ((p, m) :: r) = (rdW P os.toArray (os[π.getD p 0]?) tr[p]? (trH tr[m]? H1) ∧ zU P os tr H1 π r) := rfl
theorem a1s {os : List Oper} {tr} {H1 : Heap} {π : List Nat} : ∀ {tab : List (Nat × Nat)}, zU P os tr H1 π tab → ∀ x ∈ tab, rdW P os.toArray (os[π.getD x.1 0]?) tr[x.1]? (trH tr[x.2]? H1)
 | [], _, x, hx => by cases hx
 | (i, m) :: r, h, x, hx => by
   rcases dP.1 hx with rfl | hx
   ·exact h.1
   ·exact a1s h.2 x hx
theorem Wp.cg (jZ : P.follows .mixedOrders = true) {id : Nat} {os : List Oper} {l : List Value} {Q : nA} (π inv : List Nat) (fl : Fl) (tab : List (Nat × Nat)) (hp : a8M π inv os.toArray = true)
 (htab : a1P P fl (jU π inv os.toArray) = some tab) (hn : uB (jU π inv os.toArray) tab = true)
 (h : mA P os.toArray (sel os π) [] l H fun tr l1 H1 => Q .normal l1 H1 ∧ zU P os tr H1 π tab) : Wp P (.region id os.toArray true) l H Q := by
 have Dp := b8A hp
 obtain ⟨D, htb⟩ := a2N htab
 have hsz := pJ Dp
 have hmem : ∀ i ∈ π, i < os.length := fun i hi => by
  obtain ⟨p, hpl, hpe⟩ := dO.1 hi
  have := Dp.pi p (by rw [← Dp.len]; exact hpl)
  rw [cW, dg hpl, eR, hpe] at this
  simpa using this
 have hsel : (sel os π).map (xF inv) = (jU π inv os.toArray).toList := by
  rw [a8F os π hmem]
  simp [jU]
 rw [← a2T Dp (sel os π) [] l H _ (fun o ho => by
  rw [a8F os π hmem, dx] at ho
  obtain ⟨i, hi, rfl⟩ := ho
  have := hmem i hi
  exact ⟨i, by simp [dQ, this]⟩), hsel] at h
 obtain ⟨T, val, l', H', ext, h0, h1, h2, h3, h4, h5, h6⟩ := tQ (jU π inv os.toArray).toList 0 rfl [] l H h
 have hlen : (jU π inv os.toArray).toList.length = os.toArray.size := by rw [fm, hsz]
 rw [hlen] at h1 h2 h3 h4
 have := Sim.cC jZ (id := id) Dp D (T := T) (val := val) ⟨fun k hk => by rw [hsz] at hk; simpa using h4 k hk⟩ fun i m o hm ho hw => by
  rw [← htb] at hm
  have hr := a1s h6 (i, m) hm
  have hi : i < os.toArray.size := by rw [← hsz]; exact (cY.1 ho).1
  have hpi := Dp.pi i hi
  have hoo : os.toArray[π.getD i 0]? = some (os.toArray[π.getD i 0]) := cY.2 ⟨hpi, rfl⟩
  have hat := pY (inv := inv) Dp hi rfl hoo
  rw [ho] at hat
  have hat := cR hat
  have hoo' : os[π.getD i 0]? = some (os.toArray[π.getD i 0]) := by rw [← hoo]; simp
  simp only [eV] at hr
  rw [hoo', h3 i hi] at hr
  unfold rdW at hr
  rw [hat, yD Dp _ hoo] at hw
  have hr := hr hw
  have hno : xE o = true := by
   unfold uB at hn
   have := dh.1 hn (i, m) hm
   simpa [ho] using this
  have hTm : trH ext[m]? H' = (T m).2 ∨ os.toArray.size < m := by
   unfold trH
   by_cases hm2 : m < os.toArray.size
   ·left; rw [h3 m hm2]
   ·by_cases hm3 : m = os.toArray.size
    ·left
     rw [dS (by omega), hm3, h1]
    ·right; omega
  rcases hTm with hTm | hTm
  ·rw [hTm, ← b0l (inv := inv), ← hat] at hr
   obtain ⟨v, H2, h7, h8⟩ := a9Z hno hr
   exact ⟨H2, by rw [h7, h8]⟩
  ·exfalso
   rw [htb] at hm
   have := a1Y hm
   rw [hsz] at this
   omega
 rw [h0, h1] at this
 exact ⟨_, _, _, this, h5⟩
end
def RA :=
 And.intro @b7w <| And.intro @b5g <| And.intro @b6Q <| And.intro @c0a <| And.intro @b9Q <| And.intro @b3E <| And.intro @b8c <| And.intro @c1P <| And.intro @b8O <| And.intro @b8C <| And.intro @b5t <| And.intro @a5n <| And.intro @b1F <| And.intro @b6v <| And.intro @b1j <| And.intro @a8m <| And.intro @a8w <| And.intro @a6P <| And.intro @b3J <| And.intro @a8j <| And.intro @b4K <| And.intro @b5A <| And.intro @b2U <| And.intro @b2O <| And.intro @b8a <| And.intro @b3c <| And.intro @a2q <| And.intro @a2I <| And.intro @a8K <| And.intro @b4f <| And.intro @b1a <| And.intro @b8Y <| And.intro @a2E <| And.intro @a2A <| And.intro @b4r <| And.intro @c0T <| And.intro @a5y <| And.intro @a6X <| And.intro @b2u <| And.intro @b4q <| And.intro @a4h <| And.intro @a9s <| And.intro @a8S <| And.intro @a9y <| And.intro @a8e <| And.intro @a6r <| And.intro @a2J <| And.intro @a4H <| And.intro @a1o <| And.intro @b2q <| And.intro @b7P <| And.intro @b8q <| And.intro @b5Y <| And.intro @a9a <| And.intro @b2A <| And.intro @b1Q <| And.intro @a8v <| And.intro @a8Z <| And.intro @a5r <| And.intro @a6C <| And.intro @b5I <| And.intro @b1f <| And.intro @a2S <| And.intro @a9i <| And.intro @a6k <| And.intro @a2C <| And.intro @a7x <| And.intro @a9g <| And.intro @a6V <| @b3F
def RB :=
 And.intro @b7h <| And.intro @a8B <| And.intro @a8Q <| And.intro @b0X <| And.intro @a8l <| And.intro @a5z <| And.intro @a6G <| And.intro @b5d <| And.intro @a5Z <| And.intro @a5E <| And.intro @b6L <| And.intro @b2m <| And.intro @a7D <| And.intro @b6N <| And.intro @b8d <| And.intro @b8h <| And.intro @b8M <| And.intro @a9u <| And.intro @a6u <| And.intro @b7c <| And.intro @c0K <| And.intro @b4d <| And.intro @a6K <| And.intro @a8h <| And.intro @b8r <| And.intro @b6P <| And.intro @b5P <| And.intro @b1w <| And.intro @b2k <| And.intro @b1y <| And.intro @b2Q <| And.intro @b1x <| And.intro @b2B <| And.intro @b1v <| And.intro @b1Z <| And.intro @b1I <| And.intro @b2V <| And.intro @b1q <| And.intro @b2r <| And.intro @b4y <| And.intro @b2e <| And.intro @a3W <| And.intro @b2f <| And.intro @b1E <| And.intro @b1H <| And.intro @b1l <| And.intro @b1h <| And.intro @b5m <| And.intro @b4Z <| And.intro @b4G <| And.intro @b6G <| And.intro @b3H <| And.intro @a5V <| And.intro @a7P <| And.intro @a9J <| And.intro @b8j <| And.intro @b4c <| And.intro @a5I <| And.intro @b3R <| And.intro @b5a <| And.intro @b0W <| And.intro @a9k <| And.intro @b3t <| And.intro @b1k <| And.intro @a8d <| And.intro @b2c <| And.intro @b6j <| And.intro @a9m <| And.intro @b1s <| And.intro @b1P <| And.intro @a7S <| And.intro @b2Y <| And.intro @a7L <| And.intro @b6C <| And.intro @a5p <| And.intro @a2V <| And.intro @a9M <| And.intro @a6F <| And.intro @b8e <| And.intro @b5u <| And.intro @b2G <| And.intro @b6f <| And.intro @b3y <| And.intro @b1t <| And.intro @b4w <| And.intro @b1D <| And.intro @a4X <| And.intro @a9l <| And.intro @a6z <| And.intro @a9p <| And.intro @a9N <| And.intro @b3k <| And.intro @b6d <| And.intro @b2R <| And.intro @b3n <| And.intro @a7o <| And.intro @a4n <| And.intro @a6q <| And.intro @a5X <| And.intro @a7y <| And.intro @c2X <| And.intro @c3L <| And.intro @b7i <| And.intro @b7v <| And.intro @b4E <| And.intro @b6w <| And.intro @b5l <| And.intro @a7K <| And.intro @b8T <| And.intro @b5c <| And.intro @b7S <| And.intro @pW <| And.intro @b6g <| And.intro @b3K <| @b7g
theorem RT :
 (∀ {α : Type} (l : List α), [] ++ l = l) ∧
 (∀ {α : Type} (l : List α), l ++ [] = l) ∧
 (∀ {α : Type} {a : α} {l m : List α}, a :: l ++ m = a :: (l ++ m)) ∧
 (∀ (cs : List Value) (i : Nat) (v : Value) (vs : List Value), iV cs i (v :: vs) = iV (cs.set i v) (i + 1) vs) ∧
 (∀ (cs : List Value) (i : Nat), iV cs i [] = cs) ∧
 (∀ {α : Type} {x : α} {xs : List α} {a : α}, (x :: xs).set 0 a = a :: xs) ∧
 (∀ {α : Type} {x : α} {xs : List α} {i : Nat} {a : α}, (x :: xs).set (i + 1) a = x :: xs.set i a) ∧
 (∀ (n : Nat), 0 + n = n) ∧
 (∀ (n : Nat), n * 1 = n) ∧
 (∀ (n : Nat), n + 0 = n) :=
 ⟨@List.nil_append, @List.append_nil, @List.cons_append, @pH, @tU, @List.set_cons_zero, @List.set_cons_succ, @Nat.zero_add, @Nat.mul_one, @Nat.add_zero⟩
end Go.Ds
namespace Go.Ds
open Go.Proofs Go.Proofs.Tryz
abbrev I (n : Int) : Value := .int .i64 n
theorem sR (H : Heap) : St prog H H [] := .refl ..
theorem jZ : prog.follows .mixedOrders = true := by kernel_rfl
theorem tS3 : iA prog 3 = some 1 := by kernel_rfl
theorem b7I : iA prog 26 = some 3 := by kernel_rfl
theorem c2L : iA prog 31 = some 1 := by kernel_rfl
theorem c3t : iA prog 32 = some 1 := by kernel_rfl
theorem b7J : iA prog 33 = some 1 := by kernel_rfl
theorem lX : iA prog 35 = some 4 := by kernel_rfl
theorem b9X : iA prog 38 = some 1 := by kernel_rfl
theorem qH : iA prog 40 = some 3 := by kernel_rfl
theorem c3V : iA prog 44 = some 3 := by kernel_rfl
theorem b1R : iA prog 49 = some 1 := by kernel_rfl
theorem mB : iA prog 61 = some 2 := by kernel_rfl
theorem zZ : iA prog 80 = some 2 := by kernel_rfl
theorem a0Q : iA prog 82 = some 6 := by kernel_rfl
theorem mT : iA prog 84 = some 2 := by kernel_rfl
theorem b6I : iA prog 89 = some 4 := by kernel_rfl
theorem c1z : iA prog 93 = some 9 := by kernel_rfl
theorem a0F : iA prog 96 = some 2 := by kernel_rfl
theorem c2o : iA prog 97 = some 1 := by kernel_rfl
theorem xZ : iA prog 99 = some 5 := by kernel_rfl
theorem vF : iA prog 100 = some 1 := by kernel_rfl
theorem oH : iA prog 102 = some 4 := by kernel_rfl
theorem b5e : iA prog 105 = some 4 := by kernel_rfl
theorem b0B : iA prog 107 = some 4 := by kernel_rfl
theorem vC : iA prog 109 = some 5 := by kernel_rfl
theorem nJ : iA prog 122 = some 2 := by kernel_rfl
theorem a0t : iA prog 134 = some 2 := by kernel_rfl
theorem a1e : iA prog 137 = some 3 := by kernel_rfl
theorem b0F : iA prog 149 = some 1 := by kernel_rfl
theorem b0A : iA prog 170 = some 3 := by kernel_rfl
theorem b5D : iA prog 211 = some 1 := by kernel_rfl
theorem c1k : iP prog 49 = some 1 := by kernel_rfl
theorem pE : kT prog 94 = true ∧ oA prog 9 = true ∧ kT prog 9 = false := ⟨by kernel_rfl, by kernel_rfl, by kernel_rfl⟩
theorem c5c (A i e : Nat) (k : IntKind) (j : Int) (h0 : 0 ≤ j) (h1 : j < 5) : vW (iP prog 27) prog 27 (ptr A i e) (.int k j) = some (ptr A (i + j.toNat * 1) e) := a4a (n := 5) (elem := 5) (size := 1) (by kernel_rfl) (by kernel_rfl) A i e k j h0 h1
theorem c4P (A i e : Nat) (k : IntKind) (j : Int) (h0 : 0 ≤ j) (h1 : j < 3) : vW (iP prog 44) prog 44 (ptr A i e) (.int k j) = some (ptr A (i + j.toNat * 1) e) := a4a (n := 3) (elem := 43) (size := 1) (by kernel_rfl) (by kernel_rfl) A i e k j h0 h1
theorem c3O (A i e : Nat) (k : IntKind) (j : Int) (h0 : 0 ≤ j) (h1 : j < 64) : vW (iP prog 273) prog 273 (ptr A i e) (.int k j) = some (ptr A (i + j.toNat * 1) e) := a4a (n := 64) (elem := 5) (size := 1) (by kernel_rfl) (by kernel_rfl) A i e k j h0 h1
theorem c0W : mI prog 31 = some (6, 80) := by kernel_rfl
theorem c2h : ((iD prog 31).bind (iX prog)).any iY = true := by kernel_rfl
theorem c1t : mI prog 32 = some (5, 64) := by kernel_rfl
theorem c3l : ((iD prog 32).bind (iX prog)).any iY = true := by kernel_rfl
theorem a9v : mI prog 33 = some (5, 48) := by kernel_rfl
theorem b7Z : ((iD prog 33).bind (iX prog)).any iY = true := by kernel_rfl
theorem c5z : mI prog 37 = some (1, 8) := by kernel_rfl
theorem c5s : ((iD prog 37).bind (iX prog)).any iY = true := by kernel_rfl
theorem b8D : mI prog 42 = some (1, 24) := by kernel_rfl
theorem b7M : ((iD prog 42).bind (iX prog)).any iY = true := by kernel_rfl
theorem a7v : mI prog 46 = some (2, 16) := by kernel_rfl
theorem b5w : ((iD prog 46).bind (iX prog)).any iY = true := by kernel_rfl
theorem uY : mI prog 49 = some (1, 8) := by kernel_rfl
theorem a0G : ((iD prog 49).bind (iX prog)).any iY = true := by kernel_rfl
theorem b7C : mI prog 94 = some (1, 1) := by kernel_rfl
theorem b8G : ((iD prog 94).bind (iX prog)).any iY = true := by kernel_rfl
theorem c0n : mI prog 97 = some (4, 56) := by kernel_rfl
theorem c4p : ((iD prog 97).bind (iX prog)).any iY = true := by kernel_rfl
theorem pG : mI prog 100 = some (3, 40) := by kernel_rfl
theorem vA : ((iD prog 100).bind (iX prog)).any iY = true := by kernel_rfl
theorem a6h : mI prog 115 = some (2, 16) := by kernel_rfl
theorem b9u : ((iD prog 115).bind (iX prog)).any iY = true := by kernel_rfl
theorem c2m : mI prog 125 = some (1, 16) := by kernel_rfl
theorem c2V : ((iD prog 125).bind (iX prog)).any iY = true := by kernel_rfl
theorem b9D : mI prog 126 = some (2, 16) := by kernel_rfl
theorem c4h : ((iD prog 126).bind (iX prog)).any iY = true := by kernel_rfl
theorem a3J : mI prog 135 = some (2, 16) := by kernel_rfl
theorem a3r : ((iD prog 135).bind (iX prog)).any iY = true := by kernel_rfl
theorem qO : mI prog 149 = some (2, 16) := by kernel_rfl
theorem a3e : ((iD prog 149).bind (iX prog)).any iY = true := by kernel_rfl
theorem b3I : mI prog 158 = some (3, 40) := by kernel_rfl
theorem b6q : ((iD prog 158).bind (iX prog)).any iY = true := by kernel_rfl
theorem b9E : mI prog 173 = some (2, 16) := by kernel_rfl
theorem b9v : ((iD prog 173).bind (iX prog)).any iY = true := by kernel_rfl
theorem c4u : b9L prog 49 = some (8, .int .i64 0) := by kernel_rfl
theorem c3H (t2 : TypeId) (cx cy : Bool) (a0 : Int) (a1 : Int) (b0 : Int) (b1 : Int) : kP prog .eql 61 t2 cx cy (.agg #[.int .i64 a0, .int .i64 a1]) (.agg #[.int .i64 b0, .int .i64 b1]) = some (.bool (decide (a0 = b0 ∧ a1 = b1))) ∧ kP prog .neq 61 t2 cx cy (.agg #[.int .i64 a0, .int .i64 a1]) (.agg #[.int .i64 b0, .int .i64 b1]) = some (.bool (decide (¬ (a0 = b0 ∧ a1 = b1)))) := by
 have h := xJ (P := prog) (t := 61) (t2 := t2) (cx := cx) (cy := cy) (xs := [.int .i64 a0, .int .i64 a1]) (ys := [.int .i64 b0, .int .i64 b1]) (by kernel_rfl) (by kernel_rfl) (by kernel_rfl) (by kernel_rfl) rfl (by kernel_rfl) rfl rfl
 have e : ((List.range [Value.int .i64 a0, .int .i64 a1].length).all fun j => eqC ([Value.int .i64 a0, .int .i64 a1].getD j undef) ([Value.int .i64 b0, .int .i64 b1].getD j undef)) = decide (a0 = b0 ∧ a1 = b1) := by
  show (eqC (Value.int .i64 a0) (.int .i64 b0) && (eqC (Value.int .i64 a1) (.int .i64 b1) && true)) = _
  rw [ec]
  simp [eqC]
 rw [e] at h
 exact ⟨h.1, by rw [h.2]; simp⟩
theorem c3z (t2 : TypeId) (cx cy : Bool) (a0 : Int) (a1 : Int) (b0 : Int) (b1 : Int) : kP prog .eql 61 t2 cx cy (.agg #[.int .i64 a0, .int .i64 a1]) (.agg #[.int .i64 b0, .int .i64 b1]) = some (.bool (decide (a0 = b0 ∧ a1 = b1))) := (c3H t2 cx cy a0 a1 b0 b1).1
theorem c2r (t2 : TypeId) (cx cy : Bool) (a0 : Int) (a1 : Int) (b0 : Int) (b1 : Int) : kP prog .neq 61 t2 cx cy (.agg #[.int .i64 a0, .int .i64 a1]) (.agg #[.int .i64 b0, .int .i64 b1]) = some (.bool (decide (¬ (a0 = b0 ∧ a1 = b1)))) := (c3H t2 cx cy a0 a1 b0 b1).2
theorem c4s (t2 : TypeId) (cx cy : Bool) (a0 : Int) (a1 : Int) (b0 : Int) (b1 : Int) : kP prog .eql 84 t2 cx cy (.agg #[.int .u64 a0, .int .u64 a1]) (.agg #[.int .u64 b0, .int .u64 b1]) = some (.bool (decide (a0 = b0 ∧ a1 = b1))) ∧ kP prog .neq 84 t2 cx cy (.agg #[.int .u64 a0, .int .u64 a1]) (.agg #[.int .u64 b0, .int .u64 b1]) = some (.bool (decide (¬ (a0 = b0 ∧ a1 = b1)))) := by
 have h := xJ (P := prog) (t := 84) (t2 := t2) (cx := cx) (cy := cy) (xs := [.int .u64 a0, .int .u64 a1]) (ys := [.int .u64 b0, .int .u64 b1]) (by kernel_rfl) (by kernel_rfl) (by kernel_rfl) (by kernel_rfl) rfl (by kernel_rfl) rfl rfl
 have e : ((List.range [Value.int .u64 a0, .int .u64 a1].length).all fun j => eqC ([Value.int .u64 a0, .int .u64 a1].getD j undef) ([Value.int .u64 b0, .int .u64 b1].getD j undef)) = decide (a0 = b0 ∧ a1 = b1) := by
  show (eqC (Value.int .u64 a0) (.int .u64 b0) && (eqC (Value.int .u64 a1) (.int .u64 b1) && true)) = _
  rw [ec]
  simp [eqC]
 rw [e] at h
 exact ⟨h.1, by rw [h.2]; simp⟩
theorem c3e (t2 : TypeId) (cx cy : Bool) (a0 : Int) (a1 : Int) (b0 : Int) (b1 : Int) : kP prog .eql 84 t2 cx cy (.agg #[.int .u64 a0, .int .u64 a1]) (.agg #[.int .u64 b0, .int .u64 b1]) = some (.bool (decide (a0 = b0 ∧ a1 = b1))) := (c4s t2 cx cy a0 a1 b0 b1).1
theorem c2U (t2 : TypeId) (cx cy : Bool) (a0 : Int) (a1 : Int) (b0 : Int) (b1 : Int) : kP prog .neq 84 t2 cx cy (.agg #[.int .u64 a0, .int .u64 a1]) (.agg #[.int .u64 b0, .int .u64 b1]) = some (.bool (decide (¬ (a0 = b0 ∧ a1 = b1)))) := (c4s t2 cx cy a0 a1 b0 b1).2
theorem b9l (t2 : TypeId) (cx cy : Bool) (a0 : Int) (a1 : Int) (b0 : Int) (b1 : Int) : kP prog .eql 122 t2 cx cy (.agg #[.int .i64 a0, .int .i64 a1]) (.agg #[.int .i64 b0, .int .i64 b1]) = some (.bool (decide (a0 = b0 ∧ a1 = b1))) ∧ kP prog .neq 122 t2 cx cy (.agg #[.int .i64 a0, .int .i64 a1]) (.agg #[.int .i64 b0, .int .i64 b1]) = some (.bool (decide (¬ (a0 = b0 ∧ a1 = b1)))) := by
 have h := xJ (P := prog) (t := 122) (t2 := t2) (cx := cx) (cy := cy) (xs := [.int .i64 a0, .int .i64 a1]) (ys := [.int .i64 b0, .int .i64 b1]) (by kernel_rfl) (by kernel_rfl) (by kernel_rfl) (by kernel_rfl) rfl (by kernel_rfl) rfl rfl
 have e : ((List.range [Value.int .i64 a0, .int .i64 a1].length).all fun j => eqC ([Value.int .i64 a0, .int .i64 a1].getD j undef) ([Value.int .i64 b0, .int .i64 b1].getD j undef)) = decide (a0 = b0 ∧ a1 = b1) := by
  show (eqC (Value.int .i64 a0) (.int .i64 b0) && (eqC (Value.int .i64 a1) (.int .i64 b1) && true)) = _
  rw [ec]
  simp [eqC]
 rw [e] at h
 exact ⟨h.1, by rw [h.2]; simp⟩
theorem c0l (t2 : TypeId) (cx cy : Bool) (a0 : Int) (a1 : Int) (b0 : Int) (b1 : Int) : kP prog .eql 122 t2 cx cy (.agg #[.int .i64 a0, .int .i64 a1]) (.agg #[.int .i64 b0, .int .i64 b1]) = some (.bool (decide (a0 = b0 ∧ a1 = b1))) := (b9l t2 cx cy a0 a1 b0 b1).1
theorem c0P (t2 : TypeId) (cx cy : Bool) (a0 : Int) (a1 : Int) (b0 : Int) (b1 : Int) : kP prog .neq 122 t2 cx cy (.agg #[.int .i64 a0, .int .i64 a1]) (.agg #[.int .i64 b0, .int .i64 b1]) = some (.bool (decide (¬ (a0 = b0 ∧ a1 = b1)))) := (b9l t2 cx cy a0 a1 b0 b1).2
theorem b9p (t2 : TypeId) (cx cy : Bool) (a0 : Int) (a1 : Int) (b0 : Int) (b1 : Int) : kP prog .eql 134 t2 cx cy (.agg #[.int .i64 a0, .int .i64 a1]) (.agg #[.int .i64 b0, .int .i64 b1]) = some (.bool (decide (a0 = b0 ∧ a1 = b1))) ∧ kP prog .neq 134 t2 cx cy (.agg #[.int .i64 a0, .int .i64 a1]) (.agg #[.int .i64 b0, .int .i64 b1]) = some (.bool (decide (¬ (a0 = b0 ∧ a1 = b1)))) := by
 have h := xJ (P := prog) (t := 134) (t2 := t2) (cx := cx) (cy := cy) (xs := [.int .i64 a0, .int .i64 a1]) (ys := [.int .i64 b0, .int .i64 b1]) (by kernel_rfl) (by kernel_rfl) (by kernel_rfl) (by kernel_rfl) rfl (by kernel_rfl) rfl rfl
 have e : ((List.range [Value.int .i64 a0, .int .i64 a1].length).all fun j => eqC ([Value.int .i64 a0, .int .i64 a1].getD j undef) ([Value.int .i64 b0, .int .i64 b1].getD j undef)) = decide (a0 = b0 ∧ a1 = b1) := by
  show (eqC (Value.int .i64 a0) (.int .i64 b0) && (eqC (Value.int .i64 a1) (.int .i64 b1) && true)) = _
  rw [ec]
  simp [eqC]
 rw [e] at h
 exact ⟨h.1, by rw [h.2]; simp⟩
theorem c1w (t2 : TypeId) (cx cy : Bool) (a0 : Int) (a1 : Int) (b0 : Int) (b1 : Int) : kP prog .eql 134 t2 cx cy (.agg #[.int .i64 a0, .int .i64 a1]) (.agg #[.int .i64 b0, .int .i64 b1]) = some (.bool (decide (a0 = b0 ∧ a1 = b1))) := (b9p t2 cx cy a0 a1 b0 b1).1
theorem c0g (t2 : TypeId) (cx cy : Bool) (a0 : Int) (a1 : Int) (b0 : Int) (b1 : Int) : kP prog .neq 134 t2 cx cy (.agg #[.int .i64 a0, .int .i64 a1]) (.agg #[.int .i64 b0, .int .i64 b1]) = some (.bool (decide (¬ (a0 = b0 ∧ a1 = b1)))) := (b9p t2 cx cy a0 a1 b0 b1).2
theorem c0I {a1 : ByteArray} : kF prog 35 [(0, .string a1)] = some (.agg #[.string a1, .slice none 0 0, .slice none 0 0, .slice none 0 0]) := by kernel_rfl
theorem a4E {a1 : ByteArray} {a2 : Value} {a3 : Value} {a4 : Value} (h2 : a2.cells = #[a2] ∧ oneCell a2 = true ∧ oT a2 = true) (h3 : a3.cells = #[a3] ∧ oneCell a3 = true ∧ oT a3 = true) (h4 : a4.cells = #[a4] ∧ oneCell a4 = true ∧ oT a4 = true) : kF prog 35 [(0, .string a1), (1, a2), (2, a3), (3, a4)] = some (.agg #[.string a1, a2, a3, a4]) := by cases a2 <;> cases a3 <;> cases a4 <;> first | (exfalso; simp [oneCell] at h2; done) | (exfalso; simp [oneCell] at h3; done) | (exfalso; simp [oneCell] at h4; done) | kernel_rfl
theorem b5j {a1 : Value} {a2 : Int} (h1 : a1.cells = #[a1] ∧ oneCell a1 = true ∧ oT a1 = true) : kF prog 40 [(0, a1), (1, .int .u64 a2)] = some (.agg #[a1, .int .u64 a2, .int .u64 0]) := by cases a1 <;> first | (exfalso; simp [oneCell] at h1; done) | kernel_rfl
theorem a8s {a1 : Int} {a2 : Int} {a3 : Int} : kF prog 44 [(0, .int .u16 a1), (1, .int .u16 a2), (2, .int .u16 a3)] = some (.agg #[.int .u16 a1, .int .u16 a2, .int .u16 a3]) := by kernel_rfl
theorem b9i : kF prog 61 [] = some (.agg #[.int .i64 0, .int .i64 0]) := by kernel_rfl
theorem b6e {a1 : Int} : kF prog 61 [(0, .int .i64 a1)] = some (.agg #[.int .i64 a1, .int .i64 0]) := by kernel_rfl
theorem wW {a1 : Int} {a2 : Int} : kF prog 61 [(0, .int .i64 a1), (1, .int .i64 a2)] = some (.agg #[.int .i64 a1, .int .i64 a2]) := by kernel_rfl
theorem c0k {a1 : Int} : kF prog 61 [(1, .int .i64 a1)] = some (.agg #[.int .i64 0, .int .i64 a1]) := by kernel_rfl
theorem xK {a1 : Int} {a2 : Int} : kF prog 80 [(0, .int .i64 a1), (1, .int .i64 a2)] = some (.agg #[.int .i64 a1, .int .i64 a2]) := by kernel_rfl
theorem a4p {a1 : ByteArray} {a2 : ByteArray} {a3 : Int} {a4 : Int} {a5 : Int} : kF prog 82 [(0, .string a1), (1, .string a2), (2, .agg #[.int .i64 a3, .int .i64 a4]), (3, .int .i64 a5)] = some (.agg #[.string a1, .string a2, .int .i64 a3, .int .i64 a4, .int .i64 a5, .slice none 0 0]) := by kernel_rfl
theorem a2g {a1 : ByteArray} {a2 : ByteArray} {a3 : Int} {a4 : Int} {a5 : Int} {a6 : Value} (h6 : a6.cells = #[a6] ∧ oneCell a6 = true ∧ oT a6 = true) : kF prog 82 [(0, .string a1), (1, .string a2), (2, .agg #[.int .i64 a3, .int .i64 a4]), (3, .int .i64 a5), (4, a6)] = some (.agg #[.string a1, .string a2, .int .i64 a3, .int .i64 a4, .int .i64 a5, a6]) := by cases a6 <;> first | (exfalso; simp [oneCell] at h6; done) | kernel_rfl
theorem b6c : kF prog 84 [] = some (.agg #[.int .u64 0, .int .u64 0]) := by kernel_rfl
theorem b3D {a1 : Int} {a2 : Int} : kF prog 84 [(0, .int .u64 a1), (1, .int .u64 a2)] = some (.agg #[.int .u64 a1, .int .u64 a2]) := by kernel_rfl
theorem a7c {a1 : Int} {a2 : Int} : kF prog 96 [(0, .int .i64 a1), (1, .int .i64 a2)] = some (.agg #[.int .i64 a1, .int .i64 a2]) := by kernel_rfl
theorem a9j {a1 : ByteArray} {a2 : Bool} {a3 : Int} {a4 : Int} : kF prog 99 [(0, .string a1), (1, .bool a2), (2, .agg #[.int .i64 a3, .int .i64 a4])] = some (.agg #[.string a1, .bool a2, .int .i64 a3, .int .i64 a4, .slice none 0 0]) := by kernel_rfl
theorem a1z {a1 : ByteArray} {a2 : Int} {a3 : Int} {a4 : Value} (h4 : a4.cells = #[a4] ∧ oneCell a4 = true ∧ oT a4 = true) : kF prog 99 [(0, .string a1), (2, .agg #[.int .i64 a2, .int .i64 a3]), (3, a4)] = some (.agg #[.string a1, .bool false, .int .i64 a2, .int .i64 a3, a4]) := by cases a4 <;> first | (exfalso; simp [oneCell] at h4; done) | kernel_rfl
theorem b2x {a1 : ByteArray} {a2 : Int} {a3 : Int} : kF prog 102 [(0, .string a1), (1, .agg #[.int .i64 a2, .int .i64 a3])] = some (.agg #[.string a1, .int .i64 a2, .int .i64 a3, .slice none 0 0]) := by kernel_rfl
theorem a7r {a1 : ByteArray} {a2 : Int} {a3 : Int} {a4 : Value} (h4 : a4.cells = #[a4] ∧ oneCell a4 = true ∧ oT a4 = true) : kF prog 102 [(0, .string a1), (1, .agg #[.int .i64 a2, .int .i64 a3]), (2, a4)] = some (.agg #[.string a1, .int .i64 a2, .int .i64 a3, a4]) := by cases a4 <;> first | (exfalso; simp [oneCell] at h4; done) | kernel_rfl
theorem a7m {a1 : ByteArray} {a2 : Int} {a3 : Int} : kF prog 109 [(0, .string a1), (1, .int .i64 a2), (2, .int .i64 a3)] = some (.agg #[.string a1, .int .i64 a2, .int .i64 a3, .int .i64 0, .bool false]) := by kernel_rfl
theorem a0H {a1 : ByteArray} {a2 : Int} {a3 : Int} {a4 : Int} {a5 : Bool} : kF prog 109 [(0, .string a1), (1, .int .i64 a2), (2, .int .i64 a3), (3, .int .i64 a4), (4, .bool a5)] = some (.agg #[.string a1, .int .i64 a2, .int .i64 a3, .int .i64 a4, .bool a5]) := by kernel_rfl
theorem b3w : kF prog 122 [] = some (.agg #[.int .i64 0, .int .i64 0]) := by kernel_rfl
theorem b2D {a1 : Int} {a2 : Int} : kF prog 122 [(0, .int .i64 a1), (1, .int .i64 a2)] = some (.agg #[.int .i64 a1, .int .i64 a2]) := by kernel_rfl
theorem pU {a1 : Int} {a2 : Int} : kF prog 134 [(0, .int .i64 a1), (1, .int .i64 a2)] = some (.agg #[.int .i64 a1, .int .i64 a2]) := by kernel_rfl
theorem c1J : kF prog 137 [] = some (.agg #[.int .i64 0, .int .i64 0, .slice none 0 0]) := by kernel_rfl
theorem lC {a1 : Int} {a2 : Int} {a3 : Value} (h3 : a3.cells = #[a3] ∧ oneCell a3 = true ∧ oT a3 = true) : kF prog 137 [(0, .int .i64 a1), (1, .int .i64 a2), (2, a3)] = some (.agg #[.int .i64 a1, .int .i64 a2, a3]) := by cases a3 <;> first | (exfalso; simp [oneCell] at h3; done) | kernel_rfl
theorem b1d {a1 : Value} {a2 : Int} {a3 : Int} (h1 : a1.cells = #[a1] ∧ oneCell a1 = true ∧ oT a1 = true) : kF prog 170 [(0, a1), (1, .agg #[.int .i64 a2, .int .i64 a3])] = some (.agg #[a1, .int .i64 a2, .int .i64 a3]) := by cases a1 <;> first | (exfalso; simp [oneCell] at h1; done) | kernel_rfl
theorem b2H {a1 : Int} {a2 : Int} : kF prog 249 [(0, .int .u64 a1), (1, .int .u64 a2)] = some (.agg #[.int .u64 a1, .int .u64 a2]) := by kernel_rfl
theorem tR4 (l : List Value) (H : Heap) : hK prog Tryz.f4 l H = some (get l 6) := rfl
theorem tR6 (l : List Value) (H : Heap) : hK prog Tryz.f6 l H = some (get l 0) := rfl
theorem tR7 (l : List Value) (H : Heap) : hK prog Tryz.f7 l H = some (get l 2) := rfl
theorem tR8 (l : List Value) (H : Heap) : hK prog Tryz.f8 l H = pB (jI prog 35) (iA prog 35) H (get l 2) := by
 show (Option.bind (Option.bind (lJ prog H 35 (get l 2)) fun v => some [v]) fun vs => _) = _
 rw [lF]
 cases pB _ _ H (get l 2) <;> rfl
theorem c5i (l : List Value) (H : Heap) : hK prog Tryz.f10 l H = some (get l 4) := rfl
theorem c3x (l : List Value) (H : Heap) : hK prog Tryz.f12 l H = if (iU (get l 6) && (iU (get l 7) && true)) = true then some (.tuple #[get l 6, get l 7]) else none := rfl
theorem c1o (l : List Value) (H : Heap) : hK prog Tryz.f13 l H = if (iU (get l 6) && (iU (get l 7) && (iU (get l 8) && true))) = true then some (.tuple #[get l 6, get l 7, get l 8]) else none := rfl
theorem c0f (l : List Value) (H : Heap) : hK prog Tryz.f15 l H = some (get l 4) := rfl
theorem b1U (l : List Value) (H : Heap) : hK prog Tryz.f16 l H = some (get l 4) := rfl
theorem b8L (l : List Value) (H : Heap) : hK prog Tryz.f17 l H = some (get l 4) := rfl
theorem c2T (l : List Value) (H : Heap) : hK prog Tryz.f18 l H = if (iU (get l 6) && (iU (get l 7) && true)) = true then some (.tuple #[get l 6, get l 7]) else none := rfl
theorem c2A (l : List Value) (H : Heap) : hK prog Tryz.f19 l H = if (iU (get l 6) && (iU (get l 7) && true)) = true then some (.tuple #[get l 6, get l 7]) else none := rfl
theorem c5K (l : List Value) (H : Heap) : hK prog Tryz.f20 l H = some (get l 2) := rfl
theorem c2J (l : List Value) (H : Heap) : hK prog Tryz.f21 l H = if (iU (get l 8) && (iU (get l 9) && true)) = true then some (.tuple #[get l 8, get l 9]) else none := rfl
theorem c3n (l : List Value) (H : Heap) : hK prog Tryz.f22 l H = if (iU (get l 6) && (iU (get l 7) && true)) = true then some (.tuple #[get l 6, get l 7]) else none := rfl
theorem c4i (l : List Value) (H : Heap) : hK prog Tryz.f24 l H = if (iU (get l 4) && (iU (get l 5) && true)) = true then some (.tuple #[get l 4, get l 5]) else none := rfl
theorem a2R (l : List Value) (H : Heap) : hK prog Tryz.f26 l H = some (get l 2) := rfl
theorem c5l (l : List Value) (H : Heap) : hK prog Tryz.f27 l H = pB (jI prog 35) (iA prog 35) H (get l 0) := by
 show (Option.bind (Option.bind (lJ prog H 35 (get l 0)) fun v => some [v]) fun vs => _) = _
 rw [lF]
 cases pB _ _ H (get l 0) <;> rfl
theorem c4T (l : List Value) (H : Heap) : hK prog Tryz.f28 l H = some (get l 4) := rfl
theorem c5p (l : List Value) (H : Heap) : hK prog Tryz.f29 l H = (pB (jI prog 84) (iA prog 84) H (get l 2)).bind fun v => if (iU v && (iU (get l 3) && true)) = true then some (.tuple #[v, get l 3]) else none := by
 show (Option.bind (Option.bind (lJ prog H 84 (get l 2)) fun v => some [v, get l 3]) fun vs => _) = _
 rw [lF]
 cases pB _ _ H (get l 2) <;> rfl
theorem c5r (l : List Value) (H : Heap) : hK prog Tryz.f30 l H = pB (jI prog 82) (iA prog 82) H (get l 4) := by
 show (Option.bind (Option.bind (lJ prog H 82 (get l 4)) fun v => some [v]) fun vs => _) = _
 rw [lF]
 cases pB _ _ H (get l 4) <;> rfl
theorem a7W (l : List Value) (H : Heap) : hK prog Tryz.f31 l H = pB (jI prog 102) (iA prog 102) H (get l 8) := by
 show (Option.bind (Option.bind (lJ prog H 102 (get l 8)) fun v => some [v]) fun vs => _) = _
 rw [lF]
 cases pB _ _ H (get l 8) <;> rfl
theorem b5x (l : List Value) (H : Heap) : hK prog Tryz.f33 l H = some (get l 6) := rfl
theorem c5O (l : List Value) (H : Heap) : hK prog Tryz.f36 l H = (pB (jI prog 84) (iA prog 84) H (get l 2)).bind fun v => if (iU v && (iU (get l 3) && true)) = true then some (.tuple #[v, get l 3]) else none := by
 show (Option.bind (Option.bind (lJ prog H 84 (get l 2)) fun v => some [v, get l 3]) fun vs => _) = _
 rw [lF]
 cases pB _ _ H (get l 2) <;> rfl
theorem c5L (l : List Value) (H : Heap) : hK prog Tryz.f37 l H = some (get l 4) := rfl
theorem c3f (l : List Value) (H : Heap) : hK prog Tryz.f38 l H = if (iU (get l 6) && (iU (get l 7) && true)) = true then some (.tuple #[get l 6, get l 7]) else none := rfl
theorem c4E (l : List Value) (H : Heap) : hK prog Tryz.f39 l H = some (get l 4) := rfl
theorem c1x (l : List Value) (H : Heap) : hK prog Tryz.f40 l H = if (iU (get l 8) && (iU (get l 9) && true)) = true then some (.tuple #[get l 8, get l 9]) else none := rfl
theorem c3v (l : List Value) (H : Heap) : hK prog Tryz.f41 l H = if (iU (get l 6) && (iU (get l 7) && true)) = true then some (.tuple #[get l 6, get l 7]) else none := rfl
theorem b2E (l : List Value) (H : Heap) : hK prog Tryz.f42 l H = some (get l 2) := rfl
theorem a9d (l : List Value) (H : Heap) : hK prog Tryz.f43 l H = some (get l 2) := rfl
theorem c3X (l : List Value) (H : Heap) : hK prog Tryz.f44 l H = some (get l 4) := rfl
theorem b4L (l : List Value) (H : Heap) : hK prog Tryz.f45 l H = some (get l 4) := rfl
theorem zR (l : List Value) (H : Heap) : hK prog Tryz.f46 l H = some (get l 4) := rfl
theorem c5Q (l : List Value) (H : Heap) : hK prog Tryz.f47 l H = some (get l 6) := rfl
theorem c5I (l : List Value) (H : Heap) : hK prog Tryz.f48 l H = pB (jI prog 82) (iA prog 82) H (get l 2) := by
 show (Option.bind (Option.bind (lJ prog H 82 (get l 2)) fun v => some [v]) fun vs => _) = _
 rw [lF]
 cases pB _ _ H (get l 2) <;> rfl
theorem c5a (l : List Value) (H : Heap) : hK prog Tryz.f49 l H = some (get l 2) := rfl
theorem c4l (l : List Value) (H : Heap) : hK prog Tryz.f50 l H = pB (jI prog 84) (iA prog 84) H (get l 4) := by
 show (Option.bind (Option.bind (lJ prog H 84 (get l 4)) fun v => some [v]) fun vs => _) = _
 rw [lF]
 cases pB _ _ H (get l 4) <;> rfl
theorem c4W (l : List Value) (H : Heap) : hK prog Tryz.f51 l H = pB (jI prog 80) (iA prog 80) H (get l 2) := by
 show (Option.bind (Option.bind (lJ prog H 80 (get l 2)) fun v => some [v]) fun vs => _) = _
 rw [lF]
 cases pB _ _ H (get l 2) <;> rfl
theorem c5o (l : List Value) (H : Heap) : hK prog Tryz.f52 l H = pB (jI prog 80) (iA prog 80) H (get l 2) := by
 show (Option.bind (Option.bind (lJ prog H 80 (get l 2)) fun v => some [v]) fun vs => _) = _
 rw [lF]
 cases pB _ _ H (get l 2) <;> rfl
theorem c4K (l : List Value) (H : Heap) : hK prog Tryz.f53 l H = if (iU (get l 4) && (iU (get l 5) && true)) = true then some (.tuple #[get l 4, get l 5]) else none := rfl
theorem c0r (l : List Value) (H : Heap) : hK prog Tryz.f60 l H = some (get l 2) := rfl
theorem b7D (l : List Value) (H : Heap) : hK prog Tryz.f61 l H = some (get l 2) := rfl
theorem c5H (l : List Value) (H : Heap) : hK prog Tryz.f62 l H = pB (jI prog 84) (iA prog 84) H (get l 4) := by
 show (Option.bind (Option.bind (lJ prog H 84 (get l 4)) fun v => some [v]) fun vs => _) = _
 rw [lF]
 cases pB _ _ H (get l 4) <;> rfl
theorem c3m (l : List Value) (H : Heap) : hK prog Tryz.f63 l H = some (get l 6) := rfl
theorem c5x (l : List Value) (H : Heap) : hK prog Tryz.f64 l H = some (get l 6) := rfl
theorem c4G (l : List Value) (H : Heap) : hK prog Tryz.f65 l H = some (get l 2) := rfl
theorem b4v (l : List Value) (H : Heap) : hK prog Tryz.f66 l H = some (get l 4) := rfl
theorem c5E (l : List Value) (H : Heap) : hK prog Tryz.f67 l H = some (get l 4) := rfl
theorem c3P (l : List Value) (H : Heap) : hK prog Tryz.f68 l H = some (get l 2) := rfl
theorem c2k (l : List Value) (H : Heap) : hK prog Tryz.f69 l H = some (get l 6) := rfl
theorem b3v (l : List Value) (H : Heap) : hK prog Tryz.f70 l H = some (get l 2) := rfl
theorem b5H (l : List Value) (H : Heap) : hK prog Tryz.f71 l H = some (get l 2) := rfl
theorem c3Y (l : List Value) (H : Heap) : hK prog Tryz.f72 l H = some (get l 2) := rfl
theorem c3I (l : List Value) (H : Heap) : hK prog Tryz.f73 l H = some (get l 2) := rfl
theorem a0L (l : List Value) (H : Heap) : hK prog Tryz.f74 l H = some (get l 4) := rfl
theorem c5h (l : List Value) (H : Heap) : hK prog Tryz.f75 l H = some (get l 4) := rfl
theorem c5D (l : List Value) (H : Heap) : hK prog Tryz.f76 l H = some (get l 3) := rfl
theorem c3y (l : List Value) (H : Heap) : hK prog Tryz.f77 l H = some (get l 4) := rfl
theorem c4Q (l : List Value) (H : Heap) : hK prog Tryz.f78 l H = some (get l 4) := rfl
theorem c1r (l : List Value) (H : Heap) : hK prog Tryz.f86 l H = some (get l 4) := rfl
theorem c5j (l : List Value) (H : Heap) : hK prog Tryz.f87 l H = some (get l 6) := rfl
theorem c4O (l : List Value) (H : Heap) : hK prog Tryz.f88 l H = some (get l 6) := rfl
theorem c4Y (l : List Value) (H : Heap) : hK prog Tryz.f89 l H = some (get l 2) := rfl
theorem c3c (l : List Value) (H : Heap) : hK prog Tryz.f90 l H = if (iU (get l 6) && (iU (get l 7) && true)) = true then some (.tuple #[get l 6, get l 7]) else none := rfl
theorem c5u (l : List Value) (H : Heap) : hK prog Tryz.f91 l H = some (get l 4) := rfl
theorem b2z (l : List Value) (H : Heap) : hK prog Tryz.f92 l H = some (get l 2) := rfl
theorem c5G (l : List Value) (H : Heap) : hK prog Tryz.f93 l H = some (get l 4) := rfl
theorem c3o (l : List Value) (H : Heap) : hK prog Tryz.f94 l H = some (get l 2) := rfl
theorem c1A (l : List Value) (H : Heap) : hK prog Tryz.f95 l H = some (get l 2) := rfl
theorem a8L (l : List Value) (H : Heap) : hK prog Tryz.f96 l H = some (get l 4) := rfl
theorem c2d (l : List Value) (H : Heap) : hK prog Tryz.f97 l H = some (get l 4) := rfl
theorem c3i (l : List Value) (H : Heap) : hK prog Tryz.f116 l H = some (get l 6) := rfl
theorem b9k (l : List Value) (H : Heap) : hK prog Tryz.f117 l H = some (.tuple #[]) := rfl
theorem c3q (l : List Value) (H : Heap) : hK prog Tryz.f118 l H = some (get l 4) := rfl
theorem b6r (l : List Value) (H : Heap) : hK prog Tryz.f119 l H = some (get l 2) := rfl
theorem c3N (l : List Value) (H : Heap) : hK prog Tryz.f120 l H = some (get l 2) := rfl
theorem c2p (l : List Value) (H : Heap) : hK prog Tryz.f121 l H = some (get l 2) := rfl
theorem b9j (l : List Value) (H : Heap) : hK prog Tryz.f122 l H = some (get l 2) := rfl
theorem b6u (l : List Value) (H : Heap) : hK prog Tryz.f123 l H = some (get l 4) := rfl
theorem c2F (l : List Value) (H : Heap) : hK prog Tryz.f124 l H = some (get l 4) := rfl
theorem b9B (l : List Value) (H : Heap) : hK prog Tryz.f125 l H = some (get l 2) := rfl
theorem b9I (l : List Value) (H : Heap) : hK prog Tryz.f126 l H = some (get l 4) := rfl
theorem c3w (l : List Value) (H : Heap) : hK prog Tryz.f127 l H = some (get l 4) := rfl
theorem b9C (l : List Value) (H : Heap) : hK prog Tryz.f150 l H = pB (jI prog 137) (iA prog 137) H (get l 4) := by
 show (Option.bind (Option.bind (lJ prog H 137 (get l 4)) fun v => some [v]) fun vs => _) = _
 rw [lF]
 cases pB _ _ H (get l 4) <;> rfl
theorem a9V (l : List Value) (H : Heap) : hK prog Tryz.f151 l H = (pB (jI prog 122) (iA prog 122) H (get l 6)).bind fun v => if (iU v && (iU (get l 7) && true)) = true then some (.tuple #[v, get l 7]) else none := by
 show (Option.bind (Option.bind (lJ prog H 122 (get l 6)) fun v => some [v, get l 7]) fun vs => _) = _
 rw [lF]
 cases pB _ _ H (get l 6) <;> rfl
theorem c3U (l : List Value) (H : Heap) : hK prog Tryz.f152 l H = some (get l 2) := rfl
theorem c2s (l : List Value) (H : Heap) : hK prog Tryz.f153 l H = some (get l 4) := rfl
theorem c2W (l : List Value) (H : Heap) : hK prog Tryz.f154 l H = some (.tuple #[]) := rfl
theorem c3s (l : List Value) (H : Heap) : hK prog Tryz.f155 l H = some (get l 2) := rfl
theorem c3h (l : List Value) (H : Heap) : hK prog Tryz.f156 l H = some (get l 2) := rfl
theorem b9G (l : List Value) (H : Heap) : hK prog Tryz.f157 l H = some (get l 4) := rfl
theorem b9h (l : List Value) (H : Heap) : hK prog Tryz.f173 l H = some (get l 4) := rfl
theorem b9y (l : List Value) (H : Heap) : hK prog Tryz.f174 l H = some (get l 3) := rfl
theorem c4m (l : List Value) (H : Heap) : hK prog Tryz.f175 l H = some (get l 4) := rfl
theorem a5u : MapK prog 128 Value.string (.bool false) := MapK.str (kt := 9) (et := 4) (by kernel_rfl) (by kernel_rfl) (by kernel_rfl) rfl
theorem a6d : MapK prog 211 (fun p : Int × Int => .agg #[I p.1, I p.2]) (.bool false) := MapK.struct (kt := 61) (et := 4) (fs := (zW prog 61).toArray) (by kernel_rfl) (by kernel_rfl) (by kernel_rfl) rfl (fun b k => by cases b <;> kernel_rfl) (fun a b => c1D (by kernel_rfl) (by kernel_rfl) (by kernel_rfl) (fun _ _ _ _ => by kernel_rfl) a b) (fun k => c1a k)
theorem tt0 : jI prog 3 = some false ∧ jI prog 4 = some false ∧ iA prog 4 = some 1 ∧ jI prog 5 = some false ∧ iA prog 5 = some 1 ∧ jI prog 9 = some false ∧ iA prog 9 = some 1 ∧ jI prog 22 = some false ∧ iA prog 22 = some 1 ∧ jI prog 23 = some false ∧ iA prog 23 = some 1 ∧ jI prog 24 = some false ∧ iA prog 24 = some 1 ∧ jI prog 26 = some true ∧ jI prog 31 = some false ∧ jI prog 32 = some false ∧ jI prog 33 = some false ∧ jI prog 35 = some true ∧ jI prog 37 = some false ∧ iA prog 37 = some 1 ∧ jI prog 38 = some false ∧ jI prog 40 = some true ∧ jI prog 43 = some false ∧ iA prog 43 = some 1 ∧ jI prog 44 = some true ∧ jI prog 46 = some false ∧ iA prog 46 = some 1 ∧ jI prog 49 = some false ∧ jI prog 61 = some true ∧ jI prog 80 = some true ∧ jI prog 82 = some true ∧ jI prog 84 = some true ∧ jI prog 87 = some false ∧ iA prog 87 = some 1 ∧ jI prog 89 = some true ∧ jI prog 91 = some false ∧ iA prog 91 = some 1 ∧ jI prog 93 = some true ∧ jI prog 96 = some true ∧ jI prog 97 = some false := by and_intros <;> kernel_rfl
theorem tt1 : jI prog 99 = some true ∧ jI prog 100 = some false ∧ jI prog 102 = some true ∧ jI prog 105 = some true ∧ jI prog 107 = some true ∧ jI prog 109 = some true ∧ jI prog 122 = some true ∧ jI prog 134 = some true ∧ jI prog 135 = some false ∧ iA prog 135 = some 1 ∧ jI prog 137 = some true ∧ jI prog 149 = some false ∧ jI prog 170 = some true ∧ jI prog 211 = some false ∧ iP prog 22 = some 9 ∧ iP prog 23 = some 4 ∧ iP prog 24 = some 4 ∧ iP prog 31 = some 6 ∧ iP prog 32 = some 5 ∧ iP prog 33 = some 5 ∧ iP prog 37 = some 1 ∧ iP prog 42 = some 1 ∧ iP prog 46 = some 2 ∧ iP prog 87 = some 4 ∧ iP prog 94 = some 1 ∧ iP prog 97 = some 4 ∧ iP prog 100 = some 3 ∧ iP prog 115 = some 2 ∧ iP prog 125 = some 1 ∧ iP prog 126 = some 2 ∧ iP prog 135 = some 2 ∧ iP prog 149 = some 2 ∧ iP prog 158 = some 3 ∧ iP prog 173 = some 2 ∧ kY prog 31 = true ∧ kY prog 32 = true ∧ kY prog 33 = true ∧ kY prog 37 = true ∧ kY prog 42 = true ∧ kY prog 46 = true := by and_intros <;> kernel_rfl
theorem tt2 : kY prog 49 = true ∧ kY prog 94 = true ∧ kY prog 97 = true ∧ kY prog 100 = true ∧ kY prog 115 = true ∧ kY prog 125 = true ∧ kY prog 126 = true ∧ kY prog 135 = true ∧ kY prog 149 = true ∧ kY prog 158 = true ∧ kY prog 173 = true ∧ iP prog 9 = none ∧ oA prog 9 = true ∧ iS prog 26 0 = some 0 ∧ iS prog 26 1 = some 1 ∧ iS prog 26 2 = some 2 ∧ iS prog 35 0 = some 0 ∧ iS prog 35 1 = some 1 ∧ iS prog 35 2 = some 2 ∧ iS prog 35 3 = some 3 ∧ iS prog 40 0 = some 0 ∧ iS prog 40 1 = some 1 ∧ iS prog 40 2 = some 2 ∧ iS prog 61 0 = some 0 ∧ iS prog 61 1 = some 1 ∧ iS prog 80 0 = some 0 ∧ iS prog 80 1 = some 1 ∧ iS prog 82 0 = some 0 ∧ iS prog 82 1 = some 1 ∧ iS prog 82 2 = some 2 ∧ iS prog 82 3 = some 4 ∧ iS prog 82 4 = some 5 ∧ iS prog 84 0 = some 0 ∧ iS prog 84 1 = some 1 ∧ iS prog 89 0 = some 0 ∧ iS prog 89 1 = some 1 ∧ iS prog 89 2 = some 2 ∧ iS prog 89 3 = some 3 ∧ iS prog 93 0 = some 0 ∧ iS prog 93 1 = some 1 := by and_intros <;> kernel_rfl
theorem tt3 : iS prog 93 2 = some 2 ∧ iS prog 93 3 = some 3 ∧ iS prog 93 4 = some 4 ∧ iS prog 96 0 = some 0 ∧ iS prog 96 1 = some 1 ∧ iS prog 99 0 = some 0 ∧ iS prog 99 2 = some 2 ∧ iS prog 99 3 = some 4 ∧ iS prog 102 0 = some 0 ∧ iS prog 102 1 = some 1 ∧ iS prog 102 2 = some 3 ∧ iS prog 105 0 = some 0 ∧ iS prog 105 1 = some 1 ∧ iS prog 105 2 = some 2 ∧ iS prog 105 3 = some 3 ∧ iS prog 107 0 = some 0 ∧ iS prog 107 1 = some 1 ∧ iS prog 107 2 = some 2 ∧ iS prog 107 3 = some 3 ∧ iS prog 109 0 = some 0 ∧ iS prog 109 1 = some 1 ∧ iS prog 109 2 = some 2 ∧ iS prog 109 3 = some 3 ∧ iS prog 109 4 = some 4 ∧ iS prog 122 0 = some 0 ∧ iS prog 122 1 = some 1 ∧ iS prog 134 0 = some 0 ∧ iS prog 134 1 = some 1 ∧ iS prog 137 0 = some 0 ∧ iS prog 137 1 = some 1 ∧ iS prog 137 2 = some 2 ∧ iS prog 170 0 = some 0 ∧ iS prog 170 1 = some 1 ∧ iX prog 35 = some (.agg #[.string ⟨#[]⟩, .slice none 0 0, .slice none 0 0, .slice none 0 0]) ∧ jH prog 35 = none ∧ iX prog 40 = some (.agg #[.slice none 0 0, .int .u64 0, .int .u64 0]) ∧ jH prog 40 = none ∧ iX prog 61 = some (.agg #[.int .i64 0, .int .i64 0]) ∧ jH prog 61 = none ∧ iX prog 80 = some (.agg #[.int .i64 0, .int .i64 0]) := by and_intros <;> kernel_rfl
theorem tt4 : jH prog 80 = none ∧ iX prog 82 = some (.agg #[.string ⟨#[]⟩, .string ⟨#[]⟩, .int .i64 0, .int .i64 0, .int .i64 0, .slice none 0 0]) ∧ jH prog 82 = none ∧ iX prog 84 = some (.agg #[.int .u64 0, .int .u64 0]) ∧ jH prog 84 = none ∧ iX prog 89 = some (.agg #[.int .u8 0, .int .u8 0, .bool false, .slice none 0 0]) ∧ jH prog 89 = none ∧ iX prog 96 = some (.agg #[.int .i64 0, .int .i64 0]) ∧ jH prog 96 = none ∧ iX prog 99 = some (.agg #[.string ⟨#[]⟩, .bool false, .int .i64 0, .int .i64 0, .slice none 0 0]) ∧ jH prog 99 = none ∧ iX prog 102 = some (.agg #[.string ⟨#[]⟩, .int .i64 0, .int .i64 0, .slice none 0 0]) ∧ jH prog 102 = none ∧ iX prog 107 = some (.agg #[.int .u8 0, .int .u8 0, .int .i8 0, .bool false]) ∧ jH prog 107 = none ∧ iX prog 109 = some (.agg #[.string ⟨#[]⟩, .int .i64 0, .int .i64 0, .int .i64 0, .bool false]) ∧ jH prog 109 = none ∧ iX prog 122 = some (.agg #[.int .i64 0, .int .i64 0]) ∧ jH prog 122 = none ∧ iX prog 134 = some (.agg #[.int .i64 0, .int .i64 0]) ∧ jH prog 134 = none ∧ iX prog 137 = some (.agg #[.int .i64 0, .int .i64 0, .slice none 0 0]) ∧ jH prog 137 = none ∧ iX prog 149 = some (.slice none 0 0) ∧ jH prog 149 = none ∧ iX prog 211 = some (.map none) ∧ jH prog 211 = none ∧ a0P prog 3 = some .i64 ∧ a0P prog 5 = some .u8 ∧ a0P prog 38 = some .u64 ∧ a0P prog 91 = some .i8 ∧ a0P prog 110 = some .u64 := by and_intros <;> kernel_rfl
def TS := (And.intro (And.intro (And.intro (And.intro (And.intro @tt0 @tt1) (And.intro @tt2 (And.intro @tt3 @tt4))) (And.intro (And.intro @tS3 (And.intro @b7I @c2L)) (And.intro @c3t (And.intro @b7J @lX)))) (And.intro (And.intro (And.intro @b9X (And.intro @qH @c3V)) (And.intro @b1R (And.intro @mB @zZ))) (And.intro (And.intro @a0Q (And.intro @mT @b6I)) (And.intro @c1z (And.intro @a0F @c2o))))) (And.intro (And.intro (And.intro (And.intro @xZ (And.intro @vF @oH)) (And.intro @b5e (And.intro @b0B @vC))) (And.intro (And.intro @nJ (And.intro @a0t @a1e)) (And.intro @b0F (And.intro @b0A @b5D)))) (And.intro (And.intro (And.intro @c1k (And.intro @c5c @c4P)) (And.intro @c3O (And.intro @c3z @c2r))) (And.intro (And.intro @c3e (And.intro @c2U @c0l)) (And.intro @c0P (And.intro @c1w @c0g))))))
def RZ := And.intro @RB (And.intro @RC @TS)
end Go.Ds
namespace Go.Ds
open Go.Proofs
variable {P : Program} {H : Heap}
structure Drw where
 rank : Int
 shift : Int
 deriving DecidableEq, Inhabited
structure Seg where
 lo : Int
 hi : Int
 dv : Value
 draws : List Drw
 deriving Inhabited
structure Stp where
 name : ByteArray
 num : Int
 den : Int
 gv : Value
 segs : List Seg
 deriving Inhabited
structure Dvn where
 name : ByteArray
 pedal : Bool
 lo : Int
 hi : Int
 sv : Value
 stops : List Stp
 deriving Inhabited
structure Rk where
 name : ByteArray
 tone : ByteArray
 num : Int
 den : Int
 first : Int
 wv : Value
 wind : List Int
 deriving Inhabited
structure Cpl where
 name : ByteArray
 src : Int
 dst : Int
 shift : Int
 thr : Bool
 deriving Inhabited
structure Org where
 name : ByteArray
 rv : Value
 ranks : List Rk
 dv : Value
 dvs : List Dvn
 cv : Value
 cpls : List Cpl
 deriving Inhabited
def Drw.cells (d : Drw) : List Value := [I d.rank, I d.shift]
def Seg.cells (s : Seg) : List Value := [I s.lo, I s.hi, s.dv]
def Stp.cells (s : Stp) : List Value := [.string s.name, I s.num, I s.den, s.gv]
def Dvn.cells (d : Dvn) : List Value := [.string d.name, .bool d.pedal, I d.lo, I d.hi, d.sv]
def Rk.cells (r : Rk) : List Value := [.string r.name, .string r.tone, I r.num, I r.den, I r.first, r.wv]
def Cpl.cells (c : Cpl) : List Value := [.string c.name, I c.src, I c.dst, I c.shift, .bool c.thr]
def Org.cells (o : Org) : List Value := [.string o.name, o.rv, o.dv, o.cv]
def Seg.In (H : Heap) (s : Seg) : Prop := Sl 2 Drw.cells H s.dv s.draws ∧ s.draws.length < 1000000000
def Stp.In (H : Heap) (s : Stp) : Prop := Sl 3 Seg.cells H s.gv s.segs ∧ (∀ g ∈ s.segs, g.In H) ∧ s.segs.length < 1000000000
def Dvn.In (H : Heap) (d : Dvn) : Prop := Sl 4 Stp.cells H d.sv d.stops ∧ (∀ s ∈ d.stops, s.In H) ∧ d.stops.length < 1000000000
def Rk.In (H : Heap) (r : Rk) : Prop := Sl 1 (one I) H r.wv r.wind ∧ r.wind.length < 1000000000
def Org.In (H : Heap) (o : Org) : Prop := Sl 6 Rk.cells H o.rv o.ranks ∧ (∀ r ∈ o.ranks, r.In H) ∧ Sl 5 Dvn.cells H o.dv o.dvs ∧ (∀ d ∈ o.dvs, d.In H) ∧ Sl 5 Cpl.cells H o.cv o.cpls ∧ o.ranks.length < 1000000000 ∧ o.dvs.length < 1000000000 ∧ o.cpls.length < 1000000000
section
variable {H0 : Heap} {os : List Ob}
theorem Seg.In.aa {s : Seg} (h : s.In H0) (hS : St P H0 H os) : s.In H := ⟨hS.sl h.1, h.2⟩
theorem Stp.In.aa {s : Stp} (h : s.In H0) (hS : St P H0 H os) : s.In H := ⟨hS.sl h.1, fun g hg => (h.2.1 g hg).aa hS, h.2.2⟩
theorem Dvn.In.aa {d : Dvn} (h : d.In H0) (hS : St P H0 H os) : d.In H := ⟨hS.sl h.1, fun g hg => (h.2.1 g hg).aa hS, h.2.2⟩
theorem Rk.In.aa {r : Rk} (h : r.In H0) (hS : St P H0 H os) : r.In H := ⟨hS.sl h.1, h.2⟩
theorem Org.In.aa {o : Org} (h : o.In H0) (hS : St P H0 H os) : o.In H := ⟨hS.sl h.1, fun r hr => (h.2.1 r hr).aa hS, hS.sl h.2.2.1, fun d hd => (h.2.2.2.1 d hd).aa hS, hS.sl h.2.2.2.2.1, h.2.2.2.2.2⟩
end
def c1W (n : Int) : Prop := -9223372036854775808 ≤ n ∧ n < 9223372036854775808
end Go.Ds
