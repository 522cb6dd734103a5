/-
  A part of the proof of SoundRegistrations.
-/
import Derived.Test.YtmhekfhdnednjaaGreatDoorVA
import Derived.Test.YtmhekfhdnednjaaGreatDoorVB
import Derived.Test.YtmhekfhdnednjaaGreatDoorProg
import Derived.KernelRfl
import Derived.Lib.LaidTab
import Derived.Stop.LaidErr
import Derived.Laws.Strings
set_option linter.unusedVariables false
set_option linter.unusedSimpArgs false
set_option linter.defProp false
set_option linter.unusedSectionVars false
namespace Go.Ds
noncomputable section
inductive Pth where
 | z
 | l (p : Pth)
 | r (p : Pth)
inductive Fr where
 | e
 | n (v : Value) (l r : Fr)
def a2V : Nat → Nat → Pth := fun f => Nat.rec (motive := fun _ => Nat → Pth) (fun _ => .z) (fun _ ih k => Nat.rec (motive := fun _ => Pth) .z (fun k _ => Bool.rec (motive := fun _ => Pth) (.r (ih (Nat.div k 2))) (.l (ih (Nat.div k 2))) (Nat.beq (Nat.mod k 2) 0)) k) f
def jX (k : Nat) : Pth := a2V k k
def mN (p : Pth) : Fr → Value := Pth.rec (motive := fun _ => Fr → Value)
 (fun f => Fr.rec (motive := fun _ => Value) undef (fun v _ _ _ _ => v) f)
 (fun _ ih f => Fr.rec (motive := fun _ => Value) undef (fun _ l _ _ _ => ih l) f)
 (fun _ ih f => Fr.rec (motive := fun _ => Value) undef (fun _ _ r _ _ => ih r) f) p
def oC {α : Type} (v : Value) (p : Pth) : Fr → (Fr → α) → α := Pth.rec (motive := fun _ => Fr → (Fr → α) → α)
 (fun f K => Fr.rec (motive := fun _ => α) (K (.n v .e .e)) (fun _ l r _ _ => K (.n v l r)) f)
 (fun _ ih f K => Fr.rec (motive := fun _ => α) (ih .e fun l => K (.n undef l .e)) (fun w l r _ _ => ih l fun l => K (.n w l r)) f)
 (fun _ ih f K => Fr.rec (motive := fun _ => α) (ih .e fun r => K (.n undef .e r)) (fun w l r _ _ => ih r fun r => K (.n w l r)) f) p
def kP {α : Type} (p : Pth) : (Pth → α) → α := Pth.rec (motive := fun _ => (Pth → α) → α) (fun K => K .z) (fun _ ih K => ih fun p => K (.l p)) (fun _ ih K => ih fun p => K (.r p)) p
inductive LArg where
 | t (p : Pth)
 | c (v : Value)
def lI (f : Fr) (x : LArg) : Value := LArg.rec (motive := fun _ => Value) (fun p => mN p f) (fun v => v) x
inductive Rs where
 | no
 | ok (v : Value) (H : Heap)
 | th (v : Value) (H : Heap)
def mT {α : Type} (v : Value) (K : Value → α) : α :=
 match v with
 | .bool b => K (.bool b)
 | .int k n => K (.int k n)
 | .string s => K (.string s)
 | .pointer a => K (.pointer a)
 | .slice a n c => K (.slice a n c)
 | .map r => K (.map r)
 | .func fn a b => K (.func fn a b)
 | .agg cs => K (.agg cs)
 | .tuple vs => K (.tuple vs)
 | v => K v
inductive LOp where
 | bad
 | mv (x : LArg)
 | pick (c a b : LArg)
 | bin (g : IntKind → Int → Int → Option Value) (x y : LArg)
 | not (x : LArg)
 | ld1 (x : LArg)
 | ldn (n : Nat) (x : LArg)
 | st (n : Nat) (x y : LArg)
 | fa (off : Nat) (x : LArg)
 | ixs (size : Nat) (x i : LArg)
 | ixa (n size : Nat) (x i : LArg)
 | ext (i : Nat) (x : LArg)
 | f1 (off : Nat) (x : LArg)
 | fn (off n : Nat) (x : LArg)
 | len (x : LArg)
 | slen (x : LArg)
 | app (elem size bytes : Nat) (x y : LArg)
 | alloc (t : TypeId) (cs : List Value)
 | callF (f : FuncId) (p : Pth) (args : List LArg)
 | callV (g : LArg) (args : List LArg)
 | gen (o : Oper)
inductive LOps where
 | nil
 | cons (d : Option Pth) (o : LOp) (rest : LOps)
 | gcons (p : Pth) (w : Bool) (d : Option Pth) (o : LOp) (rest : LOps)
inductive LCode where
 | bad
 | skip
 | reg (ops : LOps)
 | drw (ops : LOps) (tab : List (Nat × Option Nat × Option (Pth × Bool) × LOp))
 | seq (a b : LCode)
 | cond (c : LArg) (x y : LCode)
 | block (id : Nat) (b : LCode)
 | loop (b : LCode)
 | exit (id : Nat)
 | ret
 | range (g : LArg) (ps : List Pth) (pp : List Pth) (params : Array Tmp) (assign body : Code) (a b : LCode)
inductive LRes where
 | t (p : Pth)
 | c1 (p : Pth)
 | cn (n : Nat) (p : Pth)
structure LFunc where
 ps : List Pth
 body : LCode
 res : List LRes
inductive LT where
 | e
 | n (g : Option LFunc) (l r : LT)
def a0R (p : Pth) : LT → Option LFunc := Pth.rec (motive := fun _ => LT → Option LFunc)
 (fun f => LT.rec (motive := fun _ => Option LFunc) none (fun v _ _ _ _ => v) f)
 (fun _ ih f => LT.rec (motive := fun _ => Option LFunc) none (fun _ l _ _ _ => ih l) f)
 (fun _ ih f => LT.rec (motive := fun _ => Option LFunc) none (fun _ _ r _ _ => ih r) f) p
def qC {α : Type} (v : LFunc) (p : Pth) : LT → (LT → α) → α := Pth.rec (motive := fun _ => LT → (LT → α) → α)
 (fun f K => LT.rec (motive := fun _ => α) (K (.n (some v) .e .e)) (fun _ l r _ _ => K (.n (some v) l r)) f)
 (fun _ ih f K => LT.rec (motive := fun _ => α) (ih .e fun l => K (.n none l .e)) (fun w l r _ _ => ih l fun l => K (.n w l r)) f)
 (fun _ ih f K => LT.rec (motive := fun _ => α) (ih .e fun r => K (.n none .e r)) (fun w l r _ _ => ih r fun r => K (.n w l r)) f) p
structure LEnv where
 L : Nat
 ps : List Pth
 pp : List Pth
 a : LCode
 b : LCode
def b5e (P : Program) (o : Oper) (ρ : Operand → Value) (H : Heap) : Option (Value × Heap) :=
 if o.op.operands.toList.all (fun x => flat (ρ x)) then
  match gU P (execOp ρ o) with
  | some (.value v) => if flat v then some (v, H) else none
  | _ => none
 else none
def b9H (P : Program) (o : Oper) (ρ : Operand → Value) (H : Heap) : Option (Value × Heap) :=
 let keep (v : Option Value) : Option (Value × Heap) := v.map fun v => (v, H)
 let plain : Option (Value × Heap) := b5e P o ρ H
 match o.op with
 | .move x | .assign x => some (ρ x, H)
 | .pick c a b => match ρ c with | .bool t => some (if t then ρ a else ρ b, H) | _ => none
 | .alloc t => (iI P t).bind fun z => if iJ z then pG P H t z else none
 | .box t x => uV P H t (ρ x)
 | .build t parts =>
   let ps := parts.toList.map fun (i, x) => (i, ρ x)
   if (iI P t).any iJ && ps.all (fun x => x.2.cells.toList.all oneCell) then
    (P.built t ps).map fun cs => (.agg cs, H)
   else none
 | .buildSlice t len parts =>
   (gR P t).bind fun elem => (gP P elem).bind fun size => (iI P elem).bind fun z =>
   let ps := parts.toList.map fun (i, x) => (i, ρ x)
   if len == 0 && ps.isEmpty && size != 0 then some (.slice (some ⟨H.length, 0, some 0⟩) 0 size, qD H elem []) else
   if iJ z && ps.all (fun x => x.2.cells.toList.all oneCell) && len * size ≤ 2 ^ 24 && len * size != 0 && z.cells.size == size then
    (Instr.fill (fun i => some (i * size, size)) ((Array.range (len * size)).map (z.cells[· % z.cells.size]!)) ps).map fun cs =>
      (.slice (some ⟨H.length, 0, some cs.toList.length⟩) len size, qD H elem cs.toList)
   else none
 | .makeSlice t n c =>
   (gR P t).bind fun elem => (gP P elem).bind fun size => (mY P elem).bind fun bytes => (iI P elem).bind fun z =>
   match ρ n, ρ c with
   | .int .i64 a, .int .i64 b =>
     if iJ z && decide (a ≤ b) && 0 ≤ a && b * (bytes + 1) ≤ (nG : Int) && size != 0 && z.cells.size == size then
      let cs := if size = 1 then List.replicate b.toNat (z.cells[0]!) else (madeCells z.cells (b.toNat * size)).toList
      some (.slice (some ⟨H.length, 0, some cs.length⟩) a.toNat size, qD H elem cs)
     else none
   | _, _ => none
 | .load t a => keep (kU P H t (ρ a))
 | .store t a x => (oZ P H t (ρ a) (ρ x)).map fun H => (undef, H)
 | .nilCheck x => match ρ x with
   | .pointer (some a) => some (.pointer (some a), H)
   | .func (.func f) a b => some (.func (.func f) a b, H)
   | _ => none
 | .fieldAddr s x f => match ρ x with
   | .pointer (some ⟨A, i, some e⟩) => (mU P s f).bind fun fd => (gP P fd.type).bind fun n => if n == 0 then none else some (.pointer (some ⟨A, i + fd.offset, some e⟩), H)
   | _ => none
 | .indexAddr t x ix => match P.underlying t, ρ x, ρ ix with
   | some (.slice elem), .slice (some ⟨A, i, some e⟩) n _, .int _ j => (gP P elem).bind fun size =>
     if 0 ≤ j && j < n then some (.pointer (some ⟨A, i + j.toNat * size, some e⟩), H) else none
   | some (.array n elem), .pointer (some ⟨A, i, some e⟩), .int _ j => (gP P elem).bind fun size =>
     if 0 ≤ j && j < n then some (.pointer (some ⟨A, i + j.toNat * size, some e⟩), H) else none
   | some (.array n elem), .pointer (some ⟨A, i, none⟩), .int _ j => (gP P elem).bind fun size =>
     if 0 ≤ j && j < n then some (.pointer (some ⟨A, i + j.toNat * size, none⟩), H) else none
   | _, _, _ => none
 | .slice t x lo hi none => if flat (ρ x) then plain else match iT P t with
   | some (n, elem) => keep (a3p P H n elem (ρ x) (lo.map ρ) (hi.map ρ))
   | none => keep (vB P t (ρ x) (lo.map ρ) (hi.map ρ))
 | .field t x f => if flat (ρ x) then plain else
   match ρ x with
   | .agg cs => (mU P t f).bind fun fd => match iZ P fd.type with
     | some true => (gP P fd.type).map fun n => (.agg (cs.extract fd.offset (fd.offset + n)), H)
     | some false => (cs[fd.offset]?).map fun v => (v, H)
     | none => none
   | _ => none
 | .extract t i => match ρ t with
   | .tuple vs => (vs[i]?).map fun v => (v, H)
   | _ => none
 | .makeFunc fn first captured => match fn with
   | .func f => if (first ++ captured).toList.all (fun x => nX (ρ x)) then some (.func (.func f) (first.map ρ) (captured.map ρ), H) else none
   | _ => none
 | .binOp op t x y _ => match op, ρ x, ρ y with
   | .eql, .slice (some _) _ _, .slice none 0 0 => if ((P.underlying t).map tC) == some true then some (.bool false, H) else none
   | .neq, .slice (some _) _ _, .slice none 0 0 => if ((P.underlying t).map tC) == some true then some (.bool true, H) else none
   | op, .int k a, .int k' b => if k = k' then (match lK op k a b with | some v => some (v, H) | none => plain) else plain
   | .eql, .pointer (some _), .pointer none => if rL P t then some (.bool false, H) else none
   | .neq, .pointer (some _), .pointer none => if rL P t then some (.bool true, H) else none
   | .eql, .pointer (some ⟨A, i, some e⟩), .pointer (some ⟨A', i', some e'⟩) => if rL P t && A == A' && i == i' && e == e' then some (.bool true, H) else none
   | .neq, .pointer (some ⟨A, i, some e⟩), .pointer (some ⟨A', i', some e'⟩) => if rL P t && A == A' && i == i' && e == e' then some (.bool false, H) else none
   | _, _, _ => plain
 | .call c => match c.callee with
   | .builtin .len => if c.args.size == 1 && c.argTypes.size == 1 then
      match (P.underlying (c.argTypes.getD 0 0)), ρ (c.args.getD 0 (.tmp 0)) with
      | some (.slice _), .slice a n k => keep (uN H (.slice a n k))
      | some .string, .string s => keep (uN H (.string s))
      | some (.map _ _), .map r => keep (uN H (.map r))
      | _, _ => none
     else none
   | .builtin .append => if c.args.size == 2 && c.argTypes.size == 2 && ((P.underlying (c.argTypes.getD 1 0)).map oF) == some true then
      mG P H (c.argTypes.getD 0 0) (ρ (c.args.getD 0 (.tmp 0))) (ρ (c.args.getD 1 (.tmp 0)))
     else none
   | .builtin .copy => if c.args.size == 2 && c.argTypes.size == 2 then yS P H (c.argTypes.getD 0 0) (ρ (c.args.getD 0 (.tmp 0))) (ρ (c.args.getD 1 (.tmp 0))) else none
   | .builtin .clear => if c.args.size == 1 && c.argTypes.size == 1 then qO P H (c.argTypes.getD 0 0) (ρ (c.args.getD 0 (.tmp 0))) else none
   | .builtin .cap => plain
   | .builtin .unsafeSliceData => if c.args.size == 1 && c.argTypes.size == 1 then match ρ (c.args.getD 0 (.tmp 0)) with
      | .slice (some a) n _ => if n == 0 then none else some (.pointer (some a), H)
      | _ => none
     else none
   | .builtin .unsafeString => if c.args.size == 2 && c.argTypes.size == 2 then tH P H (c.argTypes.getD 0 0) (ρ (c.args.getD 0 (.tmp 0))) (ρ (c.args.getD 1 (.tmp 0))) else none
   | .builtin .max => plain
   | .builtin .min => plain
   | _ => none
 | .unOp op _ x => match op, ρ x with
   | .not, .bool b => some (.bool (!b), H)
   | _, _ => plain
 | .makeMap t r => oB P H t (r.map ρ)
 | .lookup t x k c => keep (nS P H t (ρ x) (ρ k) c)
 | .mapUpdate t m k v => (zO P H t (ρ m) (ρ k) (ρ v)).map fun H => (undef, H)
 | .mapEntry t m k => rD P H t (ρ m) (ρ k)
 | .entryStore _ m b v => (pT H (ρ m) (ρ b) (ρ v)).map fun H => (undef, H)
 | .convert s t x => if flat (ρ x) && !(kF P t) then plain else match ρ x with
   | .slice (some ⟨A, i, some e⟩) n _ => if kF P s && mS P t then keep ((iL H A i e n).bind fun l => (mE l).map .string) else none
   | .string b => if kF P t && mS P s && b.size ≤ 2 ^ 40 then (gR P t).bind fun elem => some (.slice (some ⟨H.length, 0, some b.size⟩) b.size 1, b3h H elem (b.data.toList.map fun c => .int .u8 c.toNat)) else none
   | .pointer (some ⟨A, 0, some e⟩) => if a2i P H s t A e then some (.pointer (some ⟨A, 0, some e⟩), H) else none
   | _ => none
 | .index _ _ _ => plain
 | .makeInterface _ _ => plain
 | _ => none
def mM {α : Type} (b : Bool) (no : α) (x : α) : α := Bool.rec (motive := fun _ => α) no x b
def a5U {α : Type} (cs : List α) : Nat → Bool := List.rec (motive := fun _ => Nat → Bool) (fun e => Nat.beq e 0) (fun _ _ ih e => Nat.rec (motive := fun _ => Bool) true (fun m _ => ih m) e) cs
def a2n {α : Type} (cs : List α) : Nat → Bool := List.rec (motive := fun _ => Nat → Bool) (fun e => Nat.beq e 0) (fun _ _ ih e => Nat.rec (motive := fun _ => Bool) false (fun m _ => ih m) e) cs
def zM {α : Type} (cs : List α) : Nat → Option α := List.rec (motive := fun _ => Nat → Option α) (fun _ => none) (fun v _ ih e => Nat.rec (motive := fun _ => Option α) (some v) (fun m _ => ih m) e) cs
def a0t {α : Type} (cs : List α) : Nat → (List α → Rs) → Rs := List.rec (motive := fun _ => Nat → (List α → Rs) → Rs) (fun n K => Nat.rec (motive := fun _ => Rs) (K []) (fun _ _ => .no) n) (fun v _ ih n K => Nat.rec (motive := fun _ => Rs) (K []) (fun m _ => ih m fun l => K (v :: l)) n) cs
def a8N {α : Type} (cs : List α) : Nat → List α := List.rec (motive := fun _ => Nat → List α) (fun _ => []) (fun v t ih n => Nat.rec (motive := fun _ => List α) (v :: t) (fun m _ => ih m) n) cs
def kIx (k : IntKind) : Nat := IntKind.rec (motive := fun _ => Nat) 0 1 2 3 4 5 6 7 k
def hMv (x : LArg) (f : Fr) (H : Heap) : Rs := mT (lI f x) fun v => .ok v H
def b3J (c a b : LArg) (f : Fr) (H : Heap) : Rs := match lI f c with
 | .bool t => mT (lI f (Bool.rec (motive := fun _ => LArg) b a t)) fun v => .ok v H
 | _ => .no
def oV (v : Option Value) (H : Heap) : Rs := Option.rec (motive := fun _ => Rs) .no (fun v => .th v H) v
def b8b (g : IntKind → Int → Int → Option Value) (k : IntKind) (a : Int) (H : Heap) (y : Value) : Rs := match y with
 | .int k' b => mM (Nat.beq (kIx k) (kIx k')) .no (oV (g k a b) H)
 | _ => .no
def b8O (g : IntKind → Int → Int → Option Value) (x y : LArg) (f : Fr) (H : Heap) : Rs := match lI f x with
 | .int k a => b8b g k a H (lI f y)
 | _ => .no
def c2N (x : LArg) (f : Fr) (H : Heap) : Rs := match lI f x with
 | .bool b => .ok (.bool (Bool.rec (motive := fun _ => Bool) true false b)) H
 | _ => .no
def b6S (b : Option Blk) (i e : Nat) (H : Heap) : Rs := match b with
 | some (.cells cs _ _ lo _) => mM (Nat.ble lo e) .no (mM (a5U cs e) .no (mM (Nat.ble (Nat.succ i) e) .no (Option.rec (motive := fun _ => Rs) .no (fun v => mT v fun v => .ok v H) (zM cs i))))
 | _ => .no
def b9D (b : Option Blk) (i : Nat) (H : Heap) : Rs := match b with
 | some (.cells cs _ false lo 1) => mM (a5U cs lo) .no (Option.rec (motive := fun _ => Rs) .no (fun v => mT v fun v => .ok v H) (zM cs i))
 | _ => .no
def b0J (x : LArg) (f : Fr) (H : Heap) : Rs := match lI f x with
 | .pointer (some ⟨A, i, some e⟩) => b6S (hK H A) i e H
 | .pointer (some ⟨A, i, none⟩) => b9D (hK H A) i H
 | _ => .no
def b5m (b : Option Blk) (n i e : Nat) (H : Heap) : Rs := match b with
 | some (.cells cs _ _ lo _) => mM (Nat.ble lo e) .no (mM (a5U cs e) .no (mM (Nat.ble (Nat.add i n) e) .no (a0t (a8N cs i) n fun l => .ok (.agg ⟨l⟩) H)))
 | _ => .no
def b1E (n : Nat) (x : LArg) (f : Fr) (H : Heap) : Rs := match lI f x with
 | .pointer (some ⟨A, i, some e⟩) => b5m (hK H A) n i e H
 | _ => .no
def stB (b : Option Blk) (n A i e : Nat) (vs : List Value) (H : Heap) : Rs := match b with
 | some (.cells cs ty true lo ver) => mM (a2n vs n) .no (mM (vs.all oneCell) .no (mM (a2n cs e) .no (mM (Nat.ble (Nat.add i n) e) .no (mM (Nat.ble lo e) .no
    (.th undef (hset H A (.cells (iG cs i vs) ty true e ver)))))))
 | _ => .no
def hSt (n : Nat) (x y : LArg) (f : Fr) (H : Heap) : Rs := match lI f x with
 | .pointer (some ⟨A, i, some e⟩) => stB (hK H A) n A i e (lI f y).cells.toList H
 | _ => .no
def hFa (off : Nat) (x : LArg) (f : Fr) (H : Heap) : Rs := match lI f x with
 | .pointer (some ⟨A, i, some e⟩) => jH (Nat.add i off) fun i => .ok (.pointer (some ⟨A, i, some e⟩)) H
 | _ => .no
def ixP (A i e size n : Nat) (H : Heap) (j : Value) : Rs := match j with
 | .int _ (.ofNat j) => mM (Nat.blt j n) .no (jH (Nat.add i (Nat.mul j size)) fun i => .ok (.pointer (some ⟨A, i, some e⟩)) H)
 | _ => .no
def b8C (size : Nat) (x i : LArg) (f : Fr) (H : Heap) : Rs := match lI f x with
 | .slice (some ⟨A, a, some e⟩) n _ => ixP A a e size n H (lI f i)
 | _ => .no
def ixG (A i size n : Nat) (H : Heap) (j : Value) : Rs := match j with
 | .int _ (.ofNat j) => mM (Nat.blt j n) .no (jH (Nat.add i (Nat.mul j size)) fun i => .ok (.pointer (some ⟨A, i, none⟩)) H)
 | _ => .no
def b9r (n size : Nat) (x i : LArg) (f : Fr) (H : Heap) : Rs := match lI f x with
 | .pointer (some ⟨A, a, some e⟩) => ixP A a e size n H (lI f i)
 | .pointer (some ⟨A, a, none⟩) => ixG A a size n H (lI f i)
 | _ => .no
def okV (v : Option Value) (H : Heap) : Rs := Option.rec (motive := fun _ => Rs) .no (fun v => mT v fun v => .ok v H) v
def b8T (i : Nat) (x : LArg) (f : Fr) (H : Heap) : Rs := match lI f x with
 | .tuple ⟨vs⟩ => okV (zM vs i) H
 | _ => .no
def hF1 (off : Nat) (x : LArg) (f : Fr) (H : Heap) : Rs := match lI f x with
 | .agg ⟨cs⟩ => okV (zM cs off) H
 | _ => .no
def hFn (off n : Nat) (x : LArg) (f : Fr) (H : Heap) : Rs := match lI f x with
 | .agg ⟨cs⟩ => a0t (a8N cs off) n fun l => .ok (.agg ⟨l⟩) H
 | _ => .no
def b9M (x : LArg) (f : Fr) (H : Heap) : Rs := match lI f x with
 | .slice _ n _ => .th (goInt n) H
 | _ => .no
def b4c (x : LArg) (f : Fr) (H : Heap) : Rs := match lI f x with
 | .string s => .th (goInt s.size) H
 | _ => .no
def c1f (b : Option Blk) (elem size bytes A i e k : Nat) (n : Nat) (l : List Value) (P : Program) (H : Heap) : Rs := match b with
 | some (.cells cs ty true lo ver) => mM (Bool.rec (motive := fun _ => Bool) (gP P ty == some size) true (Nat.beq ty elem)) .no (mM (a2n cs e) .no (mM (Nat.ble lo e) .no
    (mM (Nat.beq (Nat.add i (Nat.mul k size)) e)
      (mM (Nat.beq n 0) (mM (Nat.ble (Nat.add i (Nat.mul (Nat.add k n) size)) e) .no (.th (.slice (some ⟨A, i, some e⟩) (k + n) size) (hset H A (.cells (iG cs (i + k * size) l) ty true e ver)))) .no)
      (mM (Nat.ble (Nat.mul (Nat.add k n) (Nat.succ bytes)) nG) .no (.th (.slice (some ⟨A, i, some (e + l.length)⟩) (k + n) size) (hset H A (.cells (a3b cs l) ty true lo (Bool.rec (motive := fun _ => Nat) 2 ver (Nat.beq ty elem)))))))))
 | _ => .no
def c0r (P : Program) (elem size bytes : Nat) (s : Value) (H : Heap) (n : Nat) (l : List Value) : Rs := match s with
 | .slice none k c => mM (Nat.beq k 0) .no (mM (Nat.beq c 0) .no (mM (Nat.ble (Nat.mul n (Nat.succ bytes)) nG) .no (mM (Nat.beq n 0) (.th (.slice (some ⟨H.length, 0, some l.length⟩) n size) (qD H elem l)) (.ok (.slice none 0 0) H))))
 | .slice (some ⟨A, i, some e⟩) k _ => c1f (hK H A) elem size bytes A i e k n l P H
 | _ => .no
def b9N (P : Program) (elem size bytes : Nat) (x y : LArg) (f : Fr) (H : Heap) : Rs := match xF H size (lI f y) with
 | some (n, l) => c0r P elem size bytes (lI f x) H n l
 | none => .no
def b8V (t : TypeId) (cs : List Value) (_ : Fr) (H : Heap) : Rs := .th (.pointer (some ⟨H.length, 0, some cs.length⟩)) (qD H t cs)
def evF (f : Fr) : Operand → Value
 | .tmp t => mN (jX t) f
 | .const v => v
 | .global g => .pointer (some ⟨g, 0, none⟩)
 | .func k => .func (.func k) #[] #[]
def c2J (P : Program) (o : Oper) (f : Fr) (H : Heap) : Rs := match b9H P o (evF f) H with
 | some (v, H1) => .th v H1
 | none => .no
def a2d {α : Type} (f : Fr) (l : List LArg) : (List Value → α) → α := List.rec (motive := fun _ => (List Value → α) → α) (fun K => K []) (fun x _ ih K => mT (lI f x) fun v => ih fun l => K (v :: l)) l
structure Calls' where
 fn : Pth → FuncId → List Value → Heap → Rs
 rd : Nat → List Value → Heap → Rs
def b9Z (C : Calls') (k : FuncId) (p : Pth) (args : List LArg) (f : Fr) (H : Heap) : Rs := a2d f args fun l => C.fn p k l H
def a7K (C : Calls') (l : List Value) (H : Heap) (g : Value) : Rs := match g with
 | .func (.func k) ⟨a⟩ ⟨b⟩ => jH k fun k => kP (jX k) fun p => C.fn p k (a3b a (a3b l b)) H
 | .func (.yield L) _ _ => C.rd L l H
 | _ => .no
def b9g (C : Calls') (g : LArg) (args : List LArg) (f : Fr) (H : Heap) : Rs := a2d f args fun l => a7K C l H (lI f g)
def c2O (_ : Fr) (_ : Heap) : Rs := .no
def opF (P : Program) (C : Calls') (o : LOp) : Fr → Heap → Rs :=
 LOp.rec (motive := fun _ => Fr → Heap → Rs) c2O hMv b3J b8O c2N b0J b1E hSt hFa b8C b9r b8T hF1 hFn b9M b4c (b9N P) b8V (b9Z C) (b9g C) (c2J P) o
inductive Rf where
 | no
 | ok (f : Fr) (H : Heap)
def sJ {α : Type} (d : Option Pth) (v : Value) (f : Fr) (K : Fr → α) : α := Option.rec (motive := fun _ => α) (K f) (fun p => oC v p f K) d
def a9j {α : Type} (no : α) (d : Option Pth) (f : Fr) (K : Fr → Heap → α) (r : Rs) : α :=
 Rs.rec (motive := fun _ => α) no (fun v H => sJ d v f fun f => K f H) (fun v H => vS v fun v => mH H fun H => sJ d v f fun f => K f H) r
def isB (v : Value) (w : Bool) : Bool := match v with
 | .bool b => Bool.rec (motive := fun _ => Bool) (Bool.rec (motive := fun _ => Bool) true false w) w b
 | _ => false
def vY (P : Program) (C : Calls') (ops : LOps) : Fr → Heap → Rf := LOps.rec (motive := fun _ => Fr → Heap → Rf)
 (fun f H => .ok f H)
 (fun d o _ ih f H => a9j .no d f ih (opF P C o f H))
 (fun p w d o _ ih f H => mM (isB (mN p f) w) (sJ d undef f fun f => ih f H) (a9j .no d f ih (opF P C o f H))) ops
inductive Rt where
 | no
 | ok (tr : List (Fr × Heap × Value)) (f : Fr) (H : Heap)
def a8O (tr : List (Fr × Heap × Value)) (f0 : Fr) (H0 : Heap) (d : Option Pth) (K : List (Fr × Heap × Value) → Fr → Heap → Rt) (r : Rs) : Rt :=
 Rs.rec (motive := fun _ => Rt) .no (fun v H => sJ d v f0 fun f => K ((f0, H0, v) :: tr) f H) (fun v H => vS v fun v => mH H fun H => sJ d v f0 fun f => K ((f0, H0, v) :: tr) f H) r
def pO (P : Program) (C : Calls') (ops : LOps) : List (Fr × Heap × Value) → Fr → Heap → Rt := LOps.rec (motive := fun _ => List (Fr × Heap × Value) → Fr → Heap → Rt)
 (fun tr f H => .ok tr f H)
 (fun d o _ ih tr f H => a8O tr f H d ih (opF P C o f H))
 (fun p w d o _ ih tr f H => mM (isB (mN p f) w) (sJ d undef f fun f1 => ih ((f, H, undef) :: tr) f1 H) (a8O tr f H d ih (opF P C o f H))) ops
def b5i (v : Value) (r : Rs) : Bool := Rs.rec (motive := fun _ => Bool) false (fun w _ => veq w v) (fun w _ => veq w v) r
def b3s (f : Fr) (g : Option (Pth × Bool)) : Bool := match g with
 | none => true
 | some (p, w) => isB (mN p f) w
def b3l (P : Program) (C : Calls') (tr : List (Fr × Heap × Value)) (H1 : Heap) (x : Nat × Option Nat × Option (Pth × Bool) × LOp) : Bool :=
 match zM tr x.1 with
 | some (f, _, v) => mM (b3s f x.2.2.1) true (match x.2.1 with
   | none => b5i v (opF P C x.2.2.2 f H1)
   | some m => match zM tr m with
     | some (_, H, _) => b5i v (opF P C x.2.2.2 f H)
     | none => false)
 | none => false
def b4K {α : Type} (p : α → Bool) (l : List α) : Bool := List.rec (motive := fun _ => Bool) true (fun x _ ih => mM (p x) false ih) l
inductive Rc where
 | no
 | ok (e : Ex) (f : Fr) (H : Heap)
def c0O (r : Rf) : Rc := Rf.rec (motive := fun _ => Rc) .no (fun f H => .ok .normal f H) r
def b7z (P : Program) (C : Calls') (tab : List (Nat × Option Nat × Option (Pth × Bool) × LOp)) (r : Rt) : Rc := Rt.rec (motive := fun _ => Rc) .no (fun tr f H => mM (b4K (b3l P C tr H) tab) .no (.ok .normal f H)) r
def nM {α : Type} (no : α) (l : List Value) : List Pth → Fr → (Fr → α) → α := List.rec (motive := fun _ => List Pth → Fr → (Fr → α) → α) (fun _ f K => K f)
 (fun v _ ih ps f K => List.rec (motive := fun _ => α) no (fun p ps _ => oC v p f fun f => ih ps f K) ps) l
def a2z (H : Heap) (f : Fr) (r : LRes) : Rs := LRes.rec (motive := fun _ => Rs) (fun p => mT (mN p f) fun v => .ok v H) (fun p => b0J (.t p) f H) (fun n p => b1E n (.t p) f H) r
def b3Q (H : Heap) (f : Fr) (l : List LRes) : (List Value → Rs) → Rs := List.rec (motive := fun _ => (List Value → Rs) → Rs) (fun K => K []) (fun r _ ih K => Rs.rec (motive := fun _ => Rs) .no (fun v _ => ih fun l => K (v :: l)) (fun _ _ => .no) (a2z H f r)) l
def noT (v : Value) : Bool := match v with | .tuple _ => false | _ => true
def a4z (l : List LRes) (f : Fr) (H : Heap) : Rs := match l with
 | [r] => a2z H f r
 | l => b3Q H f l fun vs => mM (b4K noT vs) .no (.ok (.tuple ⟨vs⟩) H)
def b9n (l : List LRes) (r : Rc) : Rs := match r with
 | .ok .normal f H => a4z l f H
 | .ok .ret f H => a4z l f H
 | _ => .no
abbrev oI := List LEnv → LCode → Fr → Heap → Rc
def b9A (P : Program) (k : FuncId) (args : List Value) (H : Heap) : Rs := match oP P k args H with
 | some (v, H1) => .th v H1
 | none => .no
def lP (T : LT) (ih : oI) (E : List LEnv) (p : Pth) (args : List Value) (H : Heap) : Rs := match a0R p T with
 | some g => nM .no args g.ps .e fun f => b9n g.res (ih E g.body f H)
 | none => .no
def b1U (P : Program) (T : LT) (ih : oI) (E : List LEnv) (p : Pth) (k : FuncId) (args : List Value) (H : Heap) : Rs := match a0R p T with
 | some g => nM .no args g.ps .e fun f => b9n g.res (ih E g.body f H)
 | none => b9A P k args H
def b2V (E : List LEnv) (L : Nat) : Option LEnv := List.rec (motive := fun _ => Option LEnv) none (fun e _ ih => mM (Nat.beq e.L L) ih (some e)) E
def b7L (e : Ex) : Option Code := match e with | .normal => none | .ret => some .ret | .exit id => some (.exit id)
def a0Q (L : Nat) (e : Ex) (H : Heap) : Rs := match hK H L with
 | some (.loop ⟨_, _, fn, tmps, ps, a, b, d⟩) => match b7L e with
   | none => .th (.bool true) (hset H L (.loop ⟨.ready, none, fn, tmps, ps, a, b, d⟩))
   | some c => .th (.bool false) (hset H L (.loop ⟨.done, some c, fn, tmps, ps, a, b, d⟩))
 | _ => .no
def b1y (L : Nat) (r : Rc) : Rs := match r with
 | .ok e _ H => a0Q L e H
 | .no => .no
def yJ (ih : oI) (E : List LEnv) (en : LEnv) (f : Fr) (H : Heap) : Rs := match hK H en.L with
 | some (.loop ⟨.ready, p, fn, tmps, ps, a, b, d⟩) => mH (hset H en.L (.loop ⟨.busy, p, fn, tmps, ps, a, b, d⟩)) fun H => b1y en.L (ih E en.b f H)
 | _ => .no
def qS (ih : oI) (E : List LEnv) (en : LEnv) (r : Rc) : Rs := match r with
 | .ok .normal f H => yJ ih E en f H
 | _ => .no
def a8i (ih : oI) (E : List LEnv) (L : Nat) (args : List Value) (H : Heap) : Rs := match b2V E L with
 | some en => match hK H L with
   | some (.loop ⟨.ready, _, _, ⟨tmps⟩, ps, _, _, _⟩) => mM (a2n args ps.size) .no (nM .no tmps en.ps .e fun f => nM .no args en.pp f fun f => qS ih E en (ih E en.a f H))
   | _ => .no
 | none => .no
def yL (P : Program) (T : LT) (ih : oI) (E : List LEnv) : Calls' := ⟨b1U P T ih E, a8i ih E⟩
def c3w (_ : Fr) (_ : Heap) : Rc := .no
def c1F (f : Fr) (H : Heap) : Rc := .ok .normal f H
def c3E (P : Program) (T : LT) (ih : oI) (E : List LEnv) (ops : LOps) (f : Fr) (H : Heap) : Rc := c0O (vY P (yL P T ih E) ops f H)
def c2V (P : Program) (T : LT) (ih : oI) (E : List LEnv) (ops : LOps) (tab : List (Nat × Option Nat × Option (Pth × Bool) × LOp)) (f : Fr) (H : Heap) : Rc := b7z P (yL P T ih E) tab (pO P (yL P T ih E) ops [] f H)
def b6e (ih : oI) (E : List LEnv) (b : LCode) (r : Rc) : Rc := match r with
 | .ok .normal f H => ih E b f H
 | r => r
def c3R (ih : oI) (E : List LEnv) (a b : LCode) (_ _ : Fr → Heap → Rc) (f : Fr) (H : Heap) : Rc := b6e ih E b (ih E a f H)
def b2r (ih : oI) (E : List LEnv) (c : LArg) (x y : LCode) (_ _ : Fr → Heap → Rc) (f : Fr) (H : Heap) : Rc := match lI f c with
 | .bool t => ih E (Bool.rec (motive := fun _ => LCode) y x t) f H
 | _ => .no
def c0N (id : Nat) (r : Rc) : Rc := match r with
 | .ok (.exit i) f H => .ok (Bool.rec (motive := fun _ => Ex) (.exit i) .normal (Nat.beq i id)) f H
 | r => r
def b9c (ih : oI) (E : List LEnv) (id : Nat) (b : LCode) (_ : Fr → Heap → Rc) (f : Fr) (H : Heap) : Rc := c0N id (ih E b f H)
def c2p (ih : oI) (E : List LEnv) (b : LCode) (_ : Fr → Heap → Rc) (f : Fr) (H : Heap) : Rc := b6e ih E (.loop b) (ih E b f H)
def c2y (id : Nat) (f : Fr) (H : Heap) : Rc := .ok (.exit id) f H
def c2U (f : Fr) (H : Heap) : Rc := .ok .ret f H
def frL {α : Type} (f : Fr) (ps : List Pth) : (List Value → α) → α := List.rec (motive := fun _ => (List Value → α) → α) (fun K => K []) (fun p _ ih K => mT (mN p f) fun v => ih fun l => K (v :: l)) ps
def sQ (L : Nat) (f : Fr) (H : Heap) : Rc := match hK H L with
 | some (.loop ⟨.ready, none, fn, tmps, ps, a, b, d⟩) => mH (hset H L (.loop ⟨.exhausted, none, fn, tmps, ps, a, b, d⟩)) fun H => .ok .normal f H
 | some (.loop ⟨.done, none, fn, tmps, ps, a, b, d⟩) => mH (hset H L (.loop ⟨.exhausted, none, fn, tmps, ps, a, b, d⟩)) fun H => .ok .normal f H
 | some (.loop ⟨.done, some .ret, fn, tmps, ps, a, b, d⟩) => mH (hset H L (.loop ⟨.exhausted, some .ret, fn, tmps, ps, a, b, d⟩)) fun H => .ok .ret f H
 | some (.loop ⟨.done, some (.exit id), fn, tmps, ps, a, b, d⟩) => mH (hset H L (.loop ⟨.exhausted, some (.exit id), fn, tmps, ps, a, b, d⟩)) fun H => .ok (.exit id) f H
 | _ => .no
def b0Y (L : Nat) (f : Fr) (r : Rs) : Rc := match r with
 | .no => .no
 | .ok _ H => sQ L f H
 | .th _ H => mH H fun H => sQ L f H
def a9a (T : LT) (ih : oI) (E : List LEnv) (f : Fr) (L : Nat) (k : FuncId) (args : List Value) (H : Heap) : Rc := kP (jX k) fun p => b0Y L f (lP T ih E p args H)
def a7J (T : LT) (ih : oI) (E : List LEnv) (g : LArg) (ps pp : List Pth) (params : Array Tmp) (assign body : Code) (a b : LCode) (_ _ : Fr → Heap → Rc) (f : Fr) (H : Heap) : Rc := match lI f g with
 | .func (.func k) ⟨x⟩ ⟨y⟩ => jH H.length fun L => frL f ps fun l => mH (H.cons (.loop ⟨.ready, none, 0, ⟨l⟩, params, assign, body, 0⟩)) fun H1 =>
    jH k fun k => a9a T ih (⟨L, ps, pp, a, b⟩ :: E) f L k (a3b x (.func (.yield L) #[] #[] :: y)) H1
 | _ => .no
def a9C (P : Program) (T : LT) (ih : oI) (E : List LEnv) (c : LCode) : Fr → Heap → Rc :=
 LCode.rec (motive := fun _ => Fr → Heap → Rc) c3w c1F (c3E P T ih E) (c2V P T ih E) (c3R ih E) (b2r ih E) (b9c ih E) (c2p ih E) c2y c2U (a7J T ih E) c
def zJ (P : Program) (T : LT) (n : Nat) : oI := Nat.rec (motive := fun _ => oI) (fun _ _ _ _ => .no) (fun _ ih => a9C P T ih) n
section
variable {α : Type}
def kR (x : Operand) (K : LArg → α) : α := match x with
 | .tmp t => kP (jX t) fun p => K (.t p)
 | .const v => K (.c v)
 | .global g => K (.c (.pointer (some ⟨g, 0, none⟩)))
 | .func k => K (.c (.func (.func k) #[] #[]))
def a3m (l : List Operand) : (List LArg → α) → α := List.rec (motive := fun _ => (List LArg → α) → α) (fun K => K []) (fun x _ ih K => kR x fun x => ih fun l => K (x :: l)) l
def a1N (o : Option Nat) (d : α) (K : Nat → α) : α := match o with
 | some n => jH n K
 | none => d
def c2R (k : IntKind) (a b : Int) : Option Value := some (.int k (tZ k (b6a a b)))
def c3O (k : IntKind) (a b : Int) : Option Value := some (.int k (tZ k (b4Y a b)))
def c0T (a b : Int) : Int := match a, b with
 | .ofNat a, .ofNat b => .ofNat (Nat.mul a b)
 | a, b => a * b
def c1q (k : IntKind) (a b : Int) : Option Value := some (.int k (tZ k (c0T a b)))
def c1w (a b : Int) : Int := match a, b with
 | .ofNat a, .ofNat b => .ofNat (Nat.div a b)
 | a, b => a.tdiv b
def c1s (a b : Int) : Int := match a, b with
 | .ofNat a, .ofNat b => .ofNat (Nat.mod a b)
 | a, b => a.tmod b
def b5J (k : IntKind) (a b : Int) : Option Value := match eqI b 0 with | true => none | false => some (.int k (tZ k (c1w a b)))
def b5u (k : IntKind) (a b : Int) : Option Value := match eqI b 0 with | true => none | false => some (.int k (c1s a b))
def c3g (_ : IntKind) (a b : Int) : Option Value := some (.bool (eqI a b))
def c3I (_ : IntKind) (a b : Int) : Option Value := some (.bool (!eqI a b))
def c3M (_ : IntKind) (a b : Int) : Option Value := some (.bool (ltI a b))
def c3u (_ : IntKind) (a b : Int) : Option Value := some (.bool (!ltI b a))
def c3Q (_ : IntKind) (a b : Int) : Option Value := some (.bool (ltI b a))
def c3p (_ : IntKind) (a b : Int) : Option Value := some (.bool (!ltI a b))
def b6Q (op : BinOp) : Option (IntKind → Int → Int → Option Value) := match op with
 | .add => some c2R
 | .sub => some c3O
 | .mul => some c1q
 | .quo => some b5J
 | .rem => some b5u
 | .eql => some c3g
 | .neq => some c3I
 | .lss => some c3M
 | .leq => some c3u
 | .gtr => some c3Q
 | .geq => some c3p
 | _ => none
def c0b (d : Option TypeDesc) : Bool := match d with | some (.int _) => true | _ => false
def c4b (P : Program) (s : TypeId) (f : Nat) (d : α) (K1 : Nat → α) (Kn : Nat → Nat → α) : α := match mU P s f with
 | some fd => jH fd.offset fun off => match iZ P fd.type with
   | some true => a1N (gP P fd.type) d fun n => Kn off n
   | some false => K1 off
   | none => d
 | none => d
def b2l (P : Program) (o : Oper) (c : Call) (K : LOp → α) : α := match c.callee with
 | .value (.func k) => kP (jX k) fun p => a3m c.args.toList fun l => K (.callF k p l)
 | .value g => kR g fun g => a3m c.args.toList fun l => K (.callV g l)
 | .builtin .len => mM (c.args.size == 1 && c.argTypes.size == 1) (K (.gen o)) (match P.underlying (c.argTypes.getD 0 0) with
    | some (.slice _) => kR (c.args.getD 0 (.tmp 0)) fun x => K (.len x)
    | some .string => kR (c.args.getD 0 (.tmp 0)) fun x => K (.slen x)
    | _ => K (.gen o))
 | .builtin .append => mM (c.args.size == 2 && c.argTypes.size == 2 && ((P.underlying (c.argTypes.getD 1 0)).map oF) == some true) (K (.gen o))
    (match gR P (c.argTypes.getD 0 0) with
     | some elem => a1N (gP P elem) (K (.gen o)) fun size => a1N (mY P elem) (K (.gen o)) fun bytes => match iI P elem with
       | some z => mM (z.cells.size == size && size != 0) (K (.gen o)) (jH elem fun elem => kR (c.args.getD 0 (.tmp 0)) fun x => kR (c.args.getD 1 (.tmp 0)) fun y => K (.app elem size bytes x y))
       | none => K (.gen o)
     | none => K (.gen o))
 | _ => K (.gen o)
def c1C (P : Program) (o : Oper) (K : LOp → α) : α := match o.op with
 | .move x => kR x fun x => K (.mv x)
 | .assign x => kR x fun x => K (.mv x)
 | .pick c a b => kR c fun c => kR a fun a => kR b fun b => K (.pick c a b)
 | .binOp op t x y _ => mM (c0b (P.underlying t)) (K (.gen o)) (match b6Q op with
   | some g => kR x fun x => kR y fun y => K (.bin g x y)
   | none => K (.gen o))
 | .load t x => match iZ P t with
   | some true => a1N (gP P t) (K (.gen o)) fun n => kR x fun x => K (.ldn n x)
   | some false => kR x fun x => K (.ld1 x)
   | none => K (.gen o)
 | .store t x y => a1N (gP P t) (K (.gen o)) fun n => kR x fun x => kR y fun y => K (.st n x y)
 | .fieldAddr s x f => match mU P s f with
   | some fd => match gP P fd.type with
     | some 0 => K (.gen o)
     | some _ => jH fd.offset fun off => kR x fun x => K (.fa off x)
     | none => K (.gen o)
   | none => K (.gen o)
 | .indexAddr t x i => match P.underlying t with
   | some (.slice elem) => a1N (gP P elem) (K (.gen o)) fun size => kR x fun x => kR i fun i => K (.ixs size x i)
   | some (.array n elem) => a1N (gP P elem) (K (.gen o)) fun size => kR x fun x => kR i fun i => K (.ixa n size x i)
   | _ => K (.gen o)
 | .extract t i => jH i fun i => kR t fun t => K (.ext i t)
 | .call c => b2l P o c K
 | _ => K (.gen o)
def wM (P : Program) (o : Oper) (K : LOp → α) : α := mM (o.op.operands.toList.all gY) (K .bad) (c1C P o K)
def a4t (k : Nat) (d : Option Tmp) (no : α) (K : Option Pth → α) : α := match d with
 | none => K none
 | some t => mM (Nat.blt t k) no (kP (jX t) fun p => K (some p))
def sV (P : Program) (k : Nat) (ops : Array Oper) (l : List Oper) : (LOps → α) → α → α := List.rec (motive := fun _ => (LOps → α) → α → α) (fun K _ => K .nil)
 (fun o _ ih K no => a4t k o.dst no fun d => wM P o fun o' => match o.guard with
   | none => ih (fun r => K (.cons d o' r)) no
   | some (j, w) => match (ops[j]?).bind (·.dst) with
     | some t => mM (Nat.blt t k) no (kP (jX t) fun p => xY w fun w => ih (fun r => K (.gcons p w d o' r)) no)
     | none => no) l
def loG (k : Nat) (ops : Array Oper) (g : Option (Nat × Bool)) (no : α) (K : Option (Pth × Bool) → α) : α := match g with
 | none => K none
 | some (j, w) => match (ops[j]?).bind (·.dst) with
   | some t => mM (Nat.blt t k) no (kP (jX t) fun p => xY w fun w => K (some (p, w)))
   | none => no
def rQ (P : Program) (k : Nat) (ops : Array Oper) (N : Nat) (tab : List (Nat × Nat)) : (List (Nat × Option Nat × Option (Pth × Bool) × LOp) → α) → α → α := List.rec (motive := fun _ => (List (Nat × Option Nat × Option (Pth × Bool) × LOp) → α) → α → α) (fun K _ => K [])
 (fun x _ ih K no => match ops[x.1]? with
   | some o => loG k ops o.guard no fun g => wM P o fun o' => jH (N - 1 - x.1) fun i => mM (Nat.blt x.2 N) (ih (fun l => K ((i, none, g, o') :: l)) no) (jH (N - 1 - x.2) fun m => ih (fun l => K ((i, some m, g, o') :: l)) no)
   | none => no) tab
def b2S (k : Nat) : (List Pth → α) → α := Nat.rec (motive := fun _ => (List Pth → α) → α) (fun K => K []) (fun n ih K => kP (jX n) fun p => ih fun l => K (p :: l)) k
def b9R {β : Type} (l : List β) : List β → (List β → α) → α := List.rec (motive := fun _ => List β → (List β → α) → α) (fun a K => K a) (fun x _ ih a K => ih (x :: a) K) l
def b0P (k : Nat) (K : List Pth → α) : α := b2S k fun l => b9R l [] K
def uU (k : Nat) (l : List Tmp) : (List Pth → α) → α → α := List.rec (motive := fun _ => (List Pth → α) → α → α) (fun K _ => K []) (fun t _ ih K no => mM (Nat.blt t k) no (kP (jX t) fun p => ih (fun l => K (p :: l)) no)) l
def lY (P : Program) (k : Nat) (c : Code) : (LCode → α) → α := Code.rec (motive := fun _ => (LCode → α) → α)
 (fun K => K .skip)
 (fun _ ops d K => Bool.rec (motive := fun _ => α) (sV P k ops ops.toList (fun l => K (.reg l)) (K .bad))
   (match lV P ops with
     | some [] => sV P k ops ops.toList (fun l => K (.reg l)) (K .bad)
     | some tab => sV P k ops ops.toList (fun l => rQ P k ops ops.size tab (fun t => K (.drw l t)) (K .bad)) (K .bad)
     | none => K .bad) d)
 (fun _ _ iha ihb K => iha fun a => ihb fun b => K (.seq a b))
 (fun c _ _ ihx ihy K => mM (gY c) (K .bad) (kR c fun c => ihx fun x => ihy fun y => K (.cond c x y)))
 (fun id _ ih K => jH id fun id => ih fun b => K (.block id b))
 (fun _ ih K => ih fun b => K (.loop b))
 (fun g ps assign body iha ihb K => mM (gY g) (K .bad) (kR g fun g' => b0P k fun pp => uU k ps.toList (fun q => iha fun a => ihb fun b => K (.range g' pp q ps assign body a b)) (K .bad)))
 (fun id K => jH id fun id => K (.exit id))
 (fun _ _ K => K .bad)
 (fun _ K => K .skip)
 (fun _ K => K .bad)
 (fun K => K .ret)
 (fun _ K => K .bad) c
def yW (P : Program) (l : List ResultVar) : (List LRes → α) → α → α := List.rec (motive := fun _ => (List LRes → α) → α → α) (fun K _ => K [])
 (fun r _ ih K no => match r with
   | .tmp t => kP (jX t) fun p => ih (fun l => K (.t p :: l)) no
   | .cell a t => match iZ P t with
     | some true => a1N (gP P t) no fun n => kP (jX a) fun p => ih (fun l => K (.cn n p :: l)) no
     | some false => kP (jX a) fun p => ih (fun l => K (.c1 p :: l)) no
     | none => no) l
def a0z (P : Program) (f : FuncId) (no : α) (K : LFunc → α) : α := match P.funcs[f]? with
 | some fn => match fn.body with
   | some c => mM (fn.name == "runtime.NumGoroutine") (yW P fn.results.toList (fun res => b0P fn.ntmps fun ps => lY P fn.ntmps c fun b => K ⟨ps, b, res⟩) no) no
   | none => no
 | none => no
def rM (P : Program) (fs : List FuncId) : LT → (LT → α) → α := List.rec (motive := fun _ => LT → (LT → α) → α) (fun T K => K T)
 (fun f _ ih T K => a0z P f (ih T K) fun g => kP (jX f) fun p => qC g p T fun T => ih T K) fs
end
end
end Go.Ds
namespace Go.Ds
section
variable {α : Type}
theorem tL (f k : Nat) : a2V (f + 1) (k + 1) = if k % 2 = 0 then .l (a2V f (k / 2)) else .r (a2V f (k / 2)) := by
 show Bool.rec (motive := fun _ => Pth) (.r (a2V f (k / 2))) (.l (a2V f (k / 2))) (Nat.beq (k % 2) 0) = _
 by_cases h : k % 2 = 0
 ·rw [if_pos h, h]; rfl
 ·rw [if_neg h]
  have : Nat.beq (k % 2) 0 = false := fE.2 fun e => h (dF e)
  rw [this]
theorem a2F (f : Nat) : a2V f 0 = .z := by cases f <;> rfl
theorem a0B : ∀ (f g a b : Nat), a ≤ f → b ≤ g → a2V f a = a2V g b → a = b
 | _, _, 0, 0, _, _, _ => rfl
 | 0, _, a + 1, _, h, _, _ => by omega
 | _, 0, _, b + 1, _, h, _ => by omega
 | f, g + 1, 0, b + 1, _, _, h => by
   rw [a2F, tL] at h
   split at h <;> cases h
 | f + 1, g, a + 1, 0, _, _, h => by
   rw [a2F, tL] at h
   split at h <;> cases h
 | f + 1, g + 1, a + 1, b + 1, ha, hb, h => by
   rw [tL, tL] at h
   by_cases h1 : a % 2 = 0
   ·rw [if_pos h1] at h
    by_cases h2 : b % 2 = 0
    ·rw [if_pos h2] at h
     injection h with h
     have := a0B f g (a / 2) (b / 2) (by omega) (by omega) h
     omega
    ·rw [if_neg h2] at h; cases h
   ·rw [if_neg h1] at h
    by_cases h2 : b % 2 = 0
    ·rw [if_pos h2] at h; cases h
    ·rw [if_neg h2] at h
     injection h with h
     have := a0B f g (a / 2) (b / 2) (by omega) (by omega) h
     omega
theorem a8L {a b : Nat} (h : jX a = jX b) : a = b := a0B _ _ _ _ (cZ _) (cZ _) h
theorem kN (p : Pth) (K : Pth → α) : kP p K = K p := by
 induction p generalizing K with
 | z => rfl
 | l p ih => exact ih _
 | r p ih => exact ih _
theorem lM (v : Value) (K : Value → α) : mT v K = K v := by cases v <;> rfl
theorem qK (v : Value) (p : Pth) (f : Fr) (K : Fr → α) : oC v p f K = K (oC v p f fun f => f) := by
 induction p generalizing f α with
 | z => cases f <;> rfl
 | l p ih =>
   cases f with
   | e =>
     show oC v p .e (fun l => K (.n undef l .e)) = K (oC v p .e fun l => .n undef l .e)
     rw [ih, ih (K := fun l => Fr.n undef l .e)]
   | n w l r =>
     show oC v p l (fun l => K (.n w l r)) = K (oC v p l fun l => .n w l r)
     rw [ih, ih (K := fun l => Fr.n w l r)]
 | r p ih =>
   cases f with
   | e =>
     show oC v p .e (fun l => K (.n undef .e l)) = K (oC v p .e fun l => .n undef .e l)
     rw [ih, ih (K := fun l => Fr.n undef .e l)]
   | n w l r =>
     show oC v p r (fun r => K (.n w l r)) = K (oC v p r fun r => .n w l r)
     rw [ih, ih (K := fun r => Fr.n w l r)]
theorem sX (p : Pth) : mN p .e = undef := by
 cases p <;> rfl
theorem a9Z (v : Value) (p q : Pth) (f : Fr) : (q = p → mN q (oC v p f fun f => f) = v) ∧ (q ≠ p → mN q (oC v p f fun f => f) = mN q f) := by
 induction p generalizing f q with
 | z =>
   refine ⟨fun h => ?_, fun h => ?_⟩
   ·subst h; cases f <;> rfl
   ·cases q with
    | z => exact absurd rfl h
    | l q =>
      cases f with
      | e => show mN q .e = undef; exact sX q
      | n => rfl
    | r q =>
      cases f with
      | e => show mN q .e = undef; exact sX q
      | n => rfl
 | l p ih =>
   have h1 : ∀ f, oC v (.l p) f (fun f => f) = match f with | .e => .n undef (oC v p .e fun f => f) .e | .n w l r => .n w (oC v p l fun f => f) r := fun f => by
    cases f with
    | e => exact qK v p .e fun l => Fr.n undef l .e
    | n w l r => exact qK v p l fun l => Fr.n w l r
   rw [h1]
   cases q with
   | z => exact ⟨fun h => (nomatch h), fun _ => by cases f <;> rfl⟩
   | r q =>
     refine ⟨fun h => (nomatch h), fun _ => ?_⟩
     cases f with
     | e => show mN q .e = undef; exact sX q
     | n => rfl
   | l q =>
     refine ⟨fun h => ?_, fun h => ?_⟩
     ·injection h with h
      cases f with
      | e => exact (ih q .e).1 h
      | n w l r => exact (ih q l).1 h
     ·have h : q ≠ p := fun e => h (by rw [e])
      cases f with
      | e => show mN q (oC v p .e fun f => f) = undef; rw [(ih q .e).2 h, sX]
      | n w l r => exact (ih q l).2 h
 | r p ih =>
   have h1 : ∀ f, oC v (.r p) f (fun f => f) = match f with | .e => .n undef .e (oC v p .e fun f => f) | .n w l r => .n w l (oC v p r fun f => f) := fun f => by
    cases f with
    | e => exact qK v p .e fun l => Fr.n undef .e l
    | n w l r => exact qK v p r fun r => Fr.n w l r
   rw [h1]
   cases q with
   | z => exact ⟨fun h => (nomatch h), fun _ => by cases f <;> rfl⟩
   | l q =>
     refine ⟨fun h => (nomatch h), fun _ => ?_⟩
     cases f with
     | e => show mN q .e = undef; exact sX q
     | n => rfl
   | r q =>
     refine ⟨fun h => ?_, fun h => ?_⟩
     ·injection h with h
      cases f with
      | e => exact (ih q .e).1 h
      | n w l r => exact (ih q r).1 h
     ·have h : q ≠ p := fun e => h (by rw [e])
      cases f with
      | e => show mN q (oC v p .e fun f => f) = undef; rw [(ih q .e).2 h, sX]
      | n w l r => exact (ih q r).2 h
def FAg (f : Fr) (l : List Value) : Prop := ∀ t, mN (jX t) f = get l t
def FRel (k : Nat) (f : Fr) (l : List Value) : Prop := l.length = k ∧ FAg f l
noncomputable def b4Q (f : Fr) (t : Tmp) (v : Value) : Fr := oC v (jX t) f fun f => f
theorem a2h (f : Fr) (t u : Tmp) (v : Value) : mN (jX u) (b4Q f t v) = if u = t then v else mN (jX u) f := by
 have h := a9Z v (jX t) (jX u) f
 by_cases he : u = t
 ·rw [if_pos he]; exact h.1 (by rw [he])
 ·rw [if_neg he]; exact h.2 (fun e => he (a8L e))
theorem FRel.put {k : Nat} {f : Fr} {l : List Value} (h : FRel k f l) {t : Tmp} (ht : t < k) (v : Value) : FRel k (b4Q f t v) (Go.Ds.put l (some t) v) := by
 refine ⟨by simp [Go.Ds.put, lW, h.1], fun u => ?_⟩
 rw [a2h, a9z]
 by_cases he : u = t
 ·subst he; rw [if_pos rfl, if_pos ⟨rfl, by rw [h.1]; exact ht⟩]
 ·rw [if_neg he, if_neg (fun hh => he (cQ hh.1).symm)]; exact h.2 u
theorem FRel.set {k : Nat} {f : Fr} {l : List Value} (h : FRel k f l) {t : Tmp} (ht : t < k) (v : Value) : FRel k (b4Q f t v) (l.set t v) := by
 have := h.put ht v
 simpa [Go.Ds.put, lW] using this
def Rs.Is (r : Rs) (v : Value) (H : Heap) : Prop := r = .ok v H ∨ r = .th v H
theorem Rs.aq {v : Value} {H : Heap} : ¬ Rs.no.Is v H := by rintro (h | h) <;> cases h
theorem Rs.aJ {v w : Value} {H H1 : Heap} (h : (Rs.ok v H).Is w H1) : w = v ∧ H1 = H := by
 rcases h with h | h
 ·injection h with a b; exact ⟨a.symm, b.symm⟩
 ·cases h
theorem Rs.aN {v w : Value} {H H1 : Heap} (h : (Rs.th v H).Is w H1) : w = v ∧ H1 = H := by
 rcases h with h | h
 ·cases h
 ·injection h with a b; exact ⟨a.symm, b.symm⟩
theorem jN (b : Bool) (no x : α) : mM b no x = if b = true then x else no := by cases b <;> rfl
theorem kG {b : Bool} {x : Rs} {v : Value} {H : Heap} (h : (mM b Rs.no x).Is v H) : b = true ∧ x.Is v H := by
 cases b with
 | false => exact absurd h Rs.aq
 | true => exact ⟨rfl, h⟩
theorem vJ {β : Type} : ∀ (cs : List β) (e : Nat), a5U cs e = decide (e ≤ cs.length)
 | [], 0 => rfl
 | [], e + 1 => by simp; rfl
 | _ :: _, 0 => rfl
 | _ :: cs, e + 1 => by show a5U cs e = _; rw [vJ cs e]; simp
theorem vV {β : Type} : ∀ (cs : List β) (e : Nat), a2n cs e = decide (e = cs.length)
 | [], 0 => rfl
 | [], e + 1 => by simp; rfl
 | _ :: _, 0 => by simp; rfl
 | _ :: cs, e + 1 => by show a2n cs e = _; rw [vV cs e]; simp
theorem wR {β : Type} : ∀ (cs : List β) (e : Nat), zM cs e = cs[e]?
 | [], _ => rfl
 | _ :: _, 0 => rfl
 | _ :: cs, e + 1 => by show zM cs e = _; rw [wR cs e]; simp
theorem a4Z {β : Type} : ∀ (cs : List β) (e : Nat), a8N cs e = cs.drop e
 | [], e => by cases e <;> rfl
 | _ :: _, 0 => rfl
 | _ :: cs, e + 1 => by show a8N cs e = _; rw [a4Z cs e]; rfl
theorem a5W {β : Type} : ∀ {cs : List β} {n : Nat} {K : List β → Rs} {v : Value} {H : Heap}, (a0t cs n K).Is v H → n ≤ cs.length ∧ (K (cs.take n)).Is v H
 | [], 0, K, v, H, h => ⟨cZ _, h⟩
 | [], n + 1, K, v, H, h => absurd h Rs.aq
 | _ :: _, 0, K, v, H, h => ⟨ey _, h⟩
 | c :: cs, n + 1, K, v, H, h => by
   have h' : (a0t cs n fun l => K (c :: l)).Is v H := h
   obtain ⟨h1, h2⟩ := a5W h'
   exact ⟨by simp; omega, h2⟩
theorem b5X {a b : IntKind} (h : Nat.beq (kIx a) (kIx b) = true) : a = b := by
 cases a <;> cases b <;> first | rfl | (exact absurd h (by decide))
theorem b3p (k : Nat) (K : List Pth → α) : b2S k K = K ((List.range k).map jX).reverse := by
 induction k generalizing K with
 | zero => rfl
 | succ n ih =>
   show kP (jX n) (fun p => b2S n fun l => K (p :: l)) = _
   rw [kN, ih, eZ]
   simp
theorem b6M {β : Type} (l : List β) : ∀ (a : List β) (K : List β → α), b9R l a K = K (l.reverse ++ a) := by
 induction l with
 | nil => intro a K; rfl
 | cons x l ih => intro a K; show b9R l (x :: a) K = _; rw [ih]; simp
theorem a9o (k : Nat) (K : List Pth → α) : b0P k K = K ((List.range k).map jX) := by
 unfold b0P; rw [b3p, b6M]; simp
theorem nR (n : Nat) (d : α) (K : Nat → α) : a1N (some n) d K = K n := jB n K
def LK (H H' : Heap) : Prop := H.length ≤ H'.length ∧ ∀ A r', A < H.length → hK H' A = some (.loop r') →
 ∃ r, hK H A = some (.loop r) ∧ r'.assign = r.assign ∧ r'.body = r.body ∧ r'.params = r.params ∧ r'.tmps = r.tmps
theorem LK.refl (H : Heap) : LK H H := ⟨cZ _, fun _ r _ h => ⟨r, h, rfl, rfl, rfl, rfl⟩⟩
theorem LK.trans {H H1 H2 : Heap} (h : LK H H1) (k : LK H1 H2) : LK H H2 := ⟨dq h.1 k.1, fun A r' hA hr => by
 obtain ⟨r1, h1, a1, b1, c1, d1⟩ := k.2 A r' (dB hA h.1) hr
 obtain ⟨r, h2, a2, b2, c2, d2⟩ := h.2 A r1 hA h1
 exact ⟨r, h2, a1.trans a2, b1.trans b2, c1.trans c2, d1.trans d2⟩⟩
def Blk.ca : Blk → Bool
 | .loop _ => true
 | _ => false
theorem LK.hset (H : Heap) (A : Nat) {b : Blk} (hb : b.ca = false) : LK H (hset H A b) := by
 refine ⟨by rw [iS]; exact cZ _, fun B r' hB h => ?_⟩
 by_cases he : A = B
 ·subst he; rw [hP _ hB] at h; injection h with h; subst h; cases hb
 ·rw [iF _ he] at h; exact ⟨r', h, rfl, rfl, rfl, rfl⟩
theorem LK.cons (H : Heap) (b : Blk) : LK H (H.cons b) := by
 refine ⟨by rw [length_cons]; omega, fun B r' hB h => ?_⟩
 rw [iX b hB] at h; exact ⟨r', h, rfl, rfl, rfl, rfl⟩
theorem LK.row (H : Heap) (ty : TypeId) (cs : List Value) : LK H (qD H ty cs) := by rw [kW]; exact .cons _ _
theorem LK.loop {H : Heap} {L : Nat} {r r' : Loop} (h : hK H L = some (.loop r)) (e : r'.assign = r.assign ∧ r'.body = r.body ∧ r'.params = r.params ∧ r'.tmps = r.tmps) : LK H (Go.Ds.hset H L (.loop r')) := by
 refine ⟨by rw [iS]; exact cZ _, fun B r2 hB hg => ?_⟩
 by_cases he : L = B
 ·subst he; rw [hP _ hB] at hg; injection hg with hg; injection hg with hg; subst hg; exact ⟨r, h, e⟩
 ·rw [iF _ he] at hg; exact ⟨r2, hg, rfl, rfl, rfl, rfl⟩
variable {P : Program}
theorem a5Y {H H' : Heap} {t : TypeId} {p v : Value} (h : oZ P H t p v = some H') : LK H H' := by
 unfold oZ at h
 split at h
 ·split at h
  ·dsimp only at h
   split at h
   ·injection h with h; subst h; exact .hset _ _ rfl
   ·cases h
  ·cases h
 ·cases h
theorem a1Z {H H' : Heap} {t : TypeId} {v r : Value} (h : uV P H t v = some (r, H')) : LK H H' := by
 unfold uV at h
 dsimp only at h
 split at h
 ·injection h with h; injection h with _ h; subst h; exact .row _ _ _
 ·cases h
theorem a3j {H H' : Heap} {t : TypeId} {s x r : Value} (h : mG P H t s x = some (r, H')) : LK H H' := by
 unfold mG at h
 simp only [cS] at h
 obtain ⟨elem, _, size, _, bytes, _, z, _, ⟨n, l⟩, _, h⟩ := h
 try dsimp only at h
 split at h
 ·split at h
  ·split at h
   ·injection h with h; injection h with _ h; subst h; exact .refl _
   ·injection h with h; injection h with _ h; subst h; exact .row _ _ _
  ·cases h
 ·split at h
  ·split at h
   ·injection h with h; injection h with _ h; subst h; exact .hset _ _ rfl
   ·split at h
    ·injection h with h; injection h with _ h; subst h; exact .hset _ _ rfl
    ·cases h
  ·cases h
 ·cases h
theorem a4F {H H' : Heap} {t : TypeId} {v r : Value} (h : pG P H t v = some (r, H')) : LK H H' := by
 unfold pG at h
 split at h
 ·dsimp only at h
  rename_i n elem _
  have key : ∀ (b : Bool), (if b = true then some (Value.pointer (some ⟨H.length, 0, some v.cells.toList.length⟩), b4O H elem v.cells.toList) else none) = some (r, H') → LK H H' := by
   intro b h
   cases b
   ·cases h
   ·injection h with h; injection h with _ h; subst h; rw [zZ]; exact .cons _ _
  exact key _ h
 ·exact a1Z h
theorem a3g {H H' : Heap} {t : TypeId} {x y r : Value} (h : tH P H t x y = some (r, H')) : LK H H' := by
 unfold tH at h
 split at h
 ·split at h
  ·split at h
   ·simp only [cY] at h
    obtain ⟨_, _, h⟩ := h
    injection h with _ h; subst h; exact .hset _ _ rfl
   ·cases h
  ·cases h
 ·cases h
theorem a3Y {H H' : Heap} {k : FuncId} {args : List Value} {r : Value} (h : oP P k args H = some (r, H')) : LK H H' := by
 unfold oP at h
 simp only [cS] at h
 obtain ⟨fn, _, h⟩ := h
 split at h
 case isFalse => cases h
 split at h
 ·split at h
  ·injection h with h; injection h with _ h; subst h; exact .refl _
  ·cases h
 split at h
 ·split at h
  ·split at h
   ·simp only [cS] at h
    obtain ⟨_, _, h⟩ := h
    split at h
    ·injection h with h; injection h with _ h; subst h; exact .row _ _ _
    ·cases h
   ·cases h
  ·cases h
 split at h
 ·split at h
  ·split at h
   ·split at h
    ·injection h with h; injection h with _ h; subst h; exact .refl _
    ·cases h
   ·cases h
  ·cases h
 ·cases h
theorem a8x {H H' : Heap} {t : TypeId} {s x r : Value} (h : yS P H t s x = some (r, H')) : LK H H' := by
 unfold yS at h
 simp only [cS] at h
 obtain ⟨elem, _, size, _, m, _, h⟩ := h
 try dsimp only at h
 split at h
 ·split at h
  ·injection h with h; injection h with _ h; subst h; exact .refl _
  ·cases h
 ·split at h
  ·injection h with h; injection h with _ h; subst h; exact .refl _
  ·simp only [cS] at h
   obtain ⟨l, _, h⟩ := h
   split at h
   ·split at h
    ·injection h with h; injection h with _ h; subst h; exact .hset _ _ rfl
    ·cases h
   ·cases h
 ·cases h
theorem a5S {H H' : Heap} {t : TypeId} {x r : Value} (h : qO P H t x = some (r, H')) : LK H H' := by
 unfold qO at h
 simp only [cS] at h
 obtain ⟨elem, _, z, _, h⟩ := h
 split at h
 ·injection h with h; injection h with _ h; subst h; exact .refl _
 ·split at h
  ·injection h with h; injection h with _ h; subst h; exact .refl _
  ·try dsimp only at h
   split at h
   ·split at h
    ·injection h with h; injection h with _ h; subst h; exact .hset _ _ rfl
    ·cases h
   ·cases h
 ·cases h
theorem b1x {H H' : Heap} {t : TypeId} {m k v : Value} (h : zO P H t m k v = some H') : LK H H' := by
 unfold zO at h
 simp only [cS] at h
 obtain ⟨⟨kt, et⟩, _, h⟩ := h
 dsimp only at h
 split at h
 ·split at h
  ·split at h
   ·simp only [cS] at h
    obtain ⟨r, _, h⟩ := h
    split at h
    ·simp only [cS] at h
     obtain ⟨e, _, h⟩ := h
     split at h
     ·injection h with h; subst h; exact .hset _ _ rfl
     ·cases h
    ·injection h with h; subst h; exact .hset _ _ rfl
   ·cases h
  ·cases h
 ·cases h
theorem a4h {H H' : Heap} {t : TypeId} {m k r : Value} (h : rD P H t m k = some (r, H')) : LK H H' := by
 unfold rD at h
 simp only [cS] at h
 obtain ⟨⟨kt, et⟩, _, h⟩ := h
 dsimp only at h
 split at h
 ·split at h
  ·split at h
   ·simp only [cS] at h
    obtain ⟨r, _, h⟩ := h
    split at h
    ·simp only [cS] at h
     obtain ⟨e, _, h⟩ := h
     split at h
     ·injection h with h; injection h with _ h; subst h; exact .hset _ _ rfl
     ·cases h
    ·simp only [cS] at h
     obtain ⟨z, _, h⟩ := h
     split at h
     ·injection h with h; injection h with _ h; subst h; exact .hset _ _ rfl
     ·cases h
   ·cases h
  ·cases h
 ·cases h
theorem a6i {H H' : Heap} {m b v : Value} (h : pT H m b v = some H') : LK H H' := by
 unfold pT at h
 split at h
 ·split at h
  ·split at h
   ·simp only [cS] at h
    obtain ⟨e, _, h⟩ := h
    injection h with h; subst h; exact .hset _ _ rfl
   ·cases h
  ·cases h
 ·cases h
theorem a1G {H H' : Heap} {t : TypeId} {o : Option Value} {r : Value} (h : oB P H t o = some (r, H')) : LK H H' := by
 unfold oB at h
 simp only [cS] at h
 obtain ⟨_, _, h⟩ := h
 split at h
 ·injection h with h; injection h with _ h; subst h; exact .cons _ _
 ·injection h with h; injection h with _ h; subst h; exact .cons _ _
 ·cases h
theorem a4j {H H' : Heap} {o : Oper} {l : List Value} {r : Value} (h : jR P o l H = some (r, H')) : H' = H := by
 unfold jR at h
 split at h
 ·split at h
  ·split at h
   ·injection h with h; injection h with _ h; exact h.symm
   ·cases h
  ·cases h
 ·cases h
theorem tJ {H H' : Heap} {v r : Value} (h : some (v, H) = some (r, H')) : LK H H' := by injection h with h; injection h with _ h; subst h; exact .refl _
theorem sH {H H' : Heap} {v : Option Value} {r : Value} (h : v.map (fun v => (v, H)) = some (r, H')) : LK H H' := by
 cases v with
 | none => cases h
 | some v => exact tJ h
set_option maxHeartbeats 1000000 in
theorem b2e {H H' : Heap} {o : Oper} {l : List Value} {r : Value} (h : opD P o l H = some (r, H')) : LK H H' := by
 obtain ⟨dst, op, type, pos, after, guard⟩ := o
 have pl : ∀ {o : Oper}, jR P o l H = some (r, H') → LK H H' := fun h => by rw [a4j h]; exact .refl _
 cases op with
 | alloc t =>
   simp only [opD, cS] at h
   obtain ⟨z, _, h⟩ := h
   split at h
   ·exact a4F h
   ·cases h
 | box t x => simp only [opD] at h; exact a1Z h
 | store t x y =>
   simp only [opD, cY] at h
   obtain ⟨H1, h, e⟩ := h
   injection e with _ e; subst e
   exact a5Y h
 | mapUpdate t m x y =>
   simp only [opD, cY] at h
   obtain ⟨H1, h, e⟩ := h
   injection e with _ e; subst e
   exact b1x h
 | mapEntry t m x => simp only [opD] at h; exact a4h h
 | entryStore t m x y =>
   simp only [opD, cY] at h
   obtain ⟨H1, h, e⟩ := h
   injection e with _ e; subst e
   exact a6i h
 | makeMap t x => simp only [opD] at h; exact a1G h
 | buildSlice t len parts =>
   simp only [opD, cS] at h
   obtain ⟨elem, _, size, _, z, _, h⟩ := h
   split at h
   ·injection h with h; injection h with _ h; subst h; exact .row _ _ _
   split at h
   ·simp only [cY] at h
    obtain ⟨cs, _, e⟩ := h
    injection e with _ e; subst e
    exact .row _ _ _
   ·cases h
 | makeSlice t n c =>
   simp only [opD, cS] at h
   obtain ⟨elem, _, size, _, bytes, _, z, _, h⟩ := h
   split at h
   ·split at h
    ·injection h with h; injection h with _ h; subst h; exact .row _ _ _
    ·cases h
   ·cases h
 | call c =>
   simp only [opD] at h
   split at h
   ·split at h
    ·split at h
     all_goals first | exact sH h | cases h
    ·cases h
   ·split at h
    ·exact a3j h
    ·cases h
   ·split at h
    ·exact a8x h
    ·cases h
   ·split at h
    ·exact a5S h
    ·cases h
   ·exact pl h
   ·split at h
    ·split at h
     ·split at h
      ·cases h
      ·exact tJ h
     ·cases h
    ·cases h
   ·split at h
    ·exact a3g h
    ·cases h
   ·exact pl h
   ·exact pl h
   ·cases h
 | convert s t x =>
   simp only [opD] at h
   split at h
   ·exact pl h
   ·split at h
    ·split at h
     ·exact sH h
     ·cases h
    ·split at h
     ·simp only [cS] at h
      obtain ⟨_, _, h⟩ := h
      injection h with h; injection h with _ h; subst h
      rw [a9c]; exact .cons _ _
     ·cases h
    ·split at h
     ·exact tJ h
     ·cases h
    ·cases h
 | slice t x lo hi mx =>
   cases mx with
   | some _ => simp only [opD] at h; cases h
   | none =>
     simp only [opD] at h
     split at h
     ·exact pl h
     ·split at h
      ·exact sH h
      ·exact sH h
 | _ =>
   simp only [opD] at h
   repeat' first
    | exact LK.refl _
    | exact tJ h
    | exact sH h
    | exact pl h
    | (cases h; done)
    | split at h
    | (simp only [cS, cY] at h; obtain ⟨_, _, h⟩ := h)
    | (obtain ⟨_, _, h⟩ := h)
    | (injection h with h; injection h with _ h; subst h; exact LK.refl _)
    | (injection h with _ h; subst h; exact LK.refl _)
    | (cases h; exact LK.refl _)
end
end Go.Ds
namespace Go.Ds
variable {P : Program}
structure CallsOk (P : Program) (C : Calls') (H0 : Heap) : Prop where
 fn : ∀ p f args H v H1, LK H0 H → (C.fn p f args H).Is v H1 → p = jX f → (FnS P f args H (fun v' H' => v' = v ∧ H' = H1) ∨ oP P f args H = some (v, H1)) ∧ LK H H1
 rd : ∀ L args H v H1, LK H0 H → (C.rd L args H).Is v H1 → vU P L args H v H1 ∧ LK H H1
noncomputable def iC (x : Operand) : LArg := match x with
 | .tmp t => .t (jX t)
 | .const v => .c v
 | .global g => .c (.pointer (some ⟨g, 0, none⟩))
 | .func k => .c (.func (.func k) #[] #[])
theorem kC {α : Type} (x : Operand) (K : LArg → α) : kR x K = K (iC x) := by
 cases x with
 | tmp t => exact kN _ _
 | _ => rfl
theorem iV {f : Fr} {l : List Value} (h : FAg f l) (x : Operand) : lI f (iC x) = ev l x := by
 cases x with
 | tmp t => exact h t
 | _ => rfl
theorem a2R {α : Type} (l : List Operand) (K : List LArg → α) : a3m l K = K (l.map iC) := by
 induction l generalizing K with
 | nil => rfl
 | cons x l ih =>
   show kR x (fun x => a3m l fun l => K (x :: l)) = _
   rw [kC, ih]; rfl
theorem a6k {α : Type} {f : Fr} {l : List Value} (h : FAg f l) (xs : List Operand) (K : List Value → α) : a2d f (xs.map iC) K = K (xs.map (ev l)) := by
 induction xs generalizing K with
 | nil => rfl
 | cons x xs ih =>
   show mT (lI f (iC x)) (fun v => a2d f (xs.map iC) fun l => K (v :: l)) = _
   rw [lM, ih, iV h]; rfl
theorem b9m {f : Fr} {l : List Value} (h : FAg f l) : evF f = ev l := by
 funext x
 cases x with
 | tmp t => exact h t
 | _ => rfl
def tT (P : Program) (o : Oper) (lo : LOp) : Prop := ∀ C H0 f l H v H1, CallsOk P C H0 → LK H0 H → FAg f l → (opF P C lo f H).Is v H1 → StepR P o l H v H1 ∧ LK H H1
def LowPl (P : Program) (o : Oper) (lo : LOp) : Prop := ∀ C f l H v H1, FAg f l → (opF P C lo f H).Is v H1 → opD P o l H = some (v, H1)
theorem LowPl.low {o : Oper} {lo : LOp} (hok : o.op.operands.toList.all gY = true) (h : LowPl P o lo) : tT P o lo :=
 fun C _ f l H v H1 _ _ hf hr => by have := h C f l H v H1 hf hr; exact ⟨.op hok this, b2e this⟩
theorem b5x (o : Oper) : tT P o .bad := fun _ _ _ _ _ _ _ _ _ _ h => absurd h Rs.aq
theorem b5U (o : Oper) : LowPl P o (.gen o) := fun C f l H v H1 hf hr => by
 have hr : (match b9H P o (evF f) H with | some (v, H1) => Rs.th v H1 | none => .no).Is v H1 := hr
 rw [b9m hf] at hr
 have e : b9H P o (ev l) H = opD P o l H := rfl
 rw [e] at hr
 split at hr
 ·rename_i v2 H2 h2
  obtain ⟨rfl, rfl⟩ := Rs.aN hr
  exact h2
 ·exact absurd hr Rs.aq
section
variable {dst : Option Tmp} {type : TypeId} {pos : String} {after : Array Edge} {guard : Option (Nat × Bool)}
theorem b8o (x : Operand) : LowPl P ⟨dst, .move x, type, pos, after, guard⟩ (.mv (iC x)) := fun C f l H v H1 hf hr => by
 have hr : (mT (lI f (iC x)) fun v => Rs.ok v H).Is v H1 := hr
 rw [lM, iV hf] at hr
 obtain ⟨rfl, rfl⟩ := Rs.aJ hr
 rfl
theorem b9G (x : Operand) : LowPl P ⟨dst, .assign x, type, pos, after, guard⟩ (.mv (iC x)) := fun C f l H v H1 hf hr => by
 have hr : (mT (lI f (iC x)) fun v => Rs.ok v H).Is v H1 := hr
 rw [lM, iV hf] at hr
 obtain ⟨rfl, rfl⟩ := Rs.aJ hr
 rfl
theorem b2a (c a b : Operand) : LowPl P ⟨dst, .pick c a b, type, pos, after, guard⟩ (.pick (iC c) (iC a) (iC b)) := fun C f l H v H1 hf hr => by
 have hr : (b3J (iC c) (iC a) (iC b) f H).Is v H1 := hr
 unfold b3J at hr
 rw [iV hf] at hr
 split at hr
 ·rename_i t ht
  rw [lM] at hr
  simp only [opD, ht]
  cases t
  ·have hr : (Rs.ok (lI f (iC b)) H).Is v H1 := hr
   rw [iV hf] at hr
   obtain ⟨rfl, rfl⟩ := Rs.aJ hr; rfl
  ·have hr : (Rs.ok (lI f (iC a)) H).Is v H1 := hr
   rw [iV hf] at hr
   obtain ⟨rfl, rfl⟩ := Rs.aJ hr; rfl
 ·exact absurd hr Rs.aq
theorem b5V (a b : Int) : c0T a b = a * b := by cases a <;> cases b <;> rfl
theorem a3Z (a b : Int) : c1w a b = a.tdiv b := by cases a <;> cases b <;> rfl
theorem a3S (a b : Int) : c1s a b = a.tmod b := by cases a <;> cases b <;> rfl
theorem b6N {op : BinOp} {g : IntKind → Int → Int → Option Value} (h : b6Q op = some g) (k : IntKind) (a b : Int) : lK op k a b = g k a b := by
 cases op <;> simp only [b6Q] at h <;> first | (cases h; done) | (injection h with h; subst h)
 all_goals first
  | rfl
  | (simp only [lK, c1q, b5V]; done)
  | (simp only [lK, b5J, a3Z]; done)
  | (simp only [lK, b5u, a3S]; done)
  | (simp only [lK, b5J, a3Z]; rfl)
  | (simp only [lK, b5u, a3S]; rfl)
  | (simp only [lK, b5J, a3Z]; cases eqI b 0 <;> rfl)
  | (simp only [lK, b5u, a3S]; cases eqI b 0 <;> rfl)
theorem c1i {o : Option Value} {H H1 : Heap} {v : Value} (h : (oV o H).Is v H1) : o = some v ∧ H1 = H := by
 cases o with
 | none => exact absurd h Rs.aq
 | some w => obtain ⟨rfl, rfl⟩ := Rs.aN h; exact ⟨rfl, rfl⟩
theorem b2O {o : Option Value} {H H1 : Heap} {v : Value} (h : (okV o H).Is v H1) : o = some v ∧ H1 = H := by
 cases o with
 | none => exact absurd h Rs.aq
 | some w =>
   have h : (mT w fun v => Rs.ok v H).Is v H1 := h
   rw [lM] at h
   obtain ⟨rfl, rfl⟩ := Rs.aJ h; exact ⟨rfl, rfl⟩
theorem b6d {op : BinOp} {g : IntKind → Int → Int → Option Value} (hg : b6Q op = some g) (t yt : TypeId) (x y : Operand) : LowPl P ⟨dst, .binOp op t x y yt, type, pos, after, guard⟩ (.bin g (iC x) (iC y)) := fun C f l H v H1 hf hr => by
 have hr : (b8O g (iC x) (iC y) f H).Is v H1 := hr
 unfold b8O at hr
 rw [iV hf] at hr
 split at hr
 ·rename_i k a hx
  unfold b8b at hr
  rw [iV hf] at hr
  split at hr
  ·rename_i k' b hy
   obtain ⟨hk, hq⟩ := kG hr
   obtain rfl := b5X hk
   obtain ⟨hv, rfl⟩ := c1i hq
   rw [← b6N hg] at hv
   have : opD P ⟨dst, .binOp op t x y yt, type, pos, after, guard ⟩ l H1 = if k = k then (match lK op k a b with | some v => some (v, H1) | none => jR P ⟨dst, .binOp op t x y yt, type, pos, after, guard ⟩ l H1) else jR P ⟨dst, .binOp op t x y yt, type, pos, after, guard ⟩ l H1 := by
    simp only [opD, hx, hy]
    cases op <;> rfl
   rw [this, if_pos rfl, hv]
  ·exact absurd hr Rs.aq
 ·exact absurd hr Rs.aq
theorem b7a {b : Option Blk} {i e : Nat} {H H1 : Heap} {v : Value} (h : (b6S b i e H).Is v H1) : H1 = H ∧ ∃ cs ty rw lo ver, b = some (.cells cs ty rw lo ver) ∧ lo ≤ e ∧ e ≤ cs.length ∧ i + 1 ≤ e ∧ cs[i]? = some v := by
 unfold b6S at h
 split at h
 ·rename_i cs ty rw lo ver
  obtain ⟨h1, h⟩ := kG h
  obtain ⟨h2, h⟩ := kG h
  obtain ⟨h3, h⟩ := kG h
  have h : (okV (zM cs i) H).Is v H1 := h
  obtain ⟨h4, h5⟩ := b2O h
  rw [vJ] at h2
  rw [wR] at h4
  exact ⟨h5, cs, ty, rw, lo, ver, rfl, dP h1, by simpa using h2, dP h3, h4⟩
 ·exact absurd h Rs.aq
theorem b6r {b : Option Blk} {n i e : Nat} {H H1 : Heap} {v : Value} (h : (b5m b n i e H).Is v H1) : H1 = H ∧ ∃ cs ty rw lo ver, b = some (.cells cs ty rw lo ver) ∧ lo ≤ e ∧ e ≤ cs.length ∧ i + n ≤ e ∧ v = .agg ((cs.drop i).take n).toArray := by
 unfold b5m at h
 split at h
 ·rename_i cs ty rw lo ver
  obtain ⟨h1, h⟩ := kG h
  obtain ⟨h2, h⟩ := kG h
  obtain ⟨h3, h⟩ := kG h
  obtain ⟨h4, h⟩ := a5W h
  obtain ⟨rfl, rfl⟩ := Rs.aJ h
  rw [vJ] at h2
  exact ⟨rfl, cs, ty, rw, lo, ver, rfl, dP h1, by simpa using h2, dP h3, by rw [a4Z]⟩
 ·exact absurd h Rs.aq
theorem a9w {X : LArg} {f : Fr} {H H1 : Heap} {v w : Value} {t : TypeId} (ht : iZ P t = some false) (hw : lI f X = w) (h : (b0J X f H).Is v H1) : H1 = H ∧ kU P H t w = some v := by
 unfold b0J at h
 rw [hw] at h
 split at h
 ·rename_i A i e
  obtain ⟨h1, cs, ty, rw', lo, ver, h2, h3, h4, h5, h6⟩ := b7a h
  refine ⟨h1, ?_⟩
  simp only [kU, ht, iL, h2]
  rw [if_pos (by simp; omega)]
  simp [h6]
 ·rename_i A i
  unfold b9D at h
  split at h
  ·rename_i cs ty lo hg
   obtain ⟨h1, h⟩ := kG h
   rw [vJ] at h1
   have h1 : lo ≤ cs.length := by simpa using h1
   cases hn : zM cs i with
   | none => rw [hn] at h; exact absurd h Rs.aq
   | some c =>
     rw [hn] at h
     have h : (mT c fun v => Rs.ok v H).Is v H1 := h
     rw [lM] at h
     obtain ⟨rfl, rfl⟩ := Rs.aJ h
     rw [wR] at hn
     have hi := (dc.1 hn).1
     refine ⟨rfl, ?_⟩
     simp only [kU, ht, iL, hg]
     rw [if_pos (by simp; omega)]
     simp [hn]
  ·exact absurd h Rs.aq
 ·exact absurd h Rs.aq
theorem a8V {X : LArg} {f : Fr} {H H1 : Heap} {v w : Value} {t : TypeId} {n : Nat} (ht : iZ P t = some true) (hn : gP P t = some n) (hw : lI f X = w) (h : (b1E n X f H).Is v H1) : H1 = H ∧ kU P H t w = some v := by
 unfold b1E at h
 rw [hw] at h
 split at h
 ·rename_i A i e
  obtain ⟨h1, cs, ty, rw', lo, ver, h2, h3, h4, h5, h6⟩ := b6r h
  refine ⟨h1, ?_⟩
  simp only [kU, ht, hn, cR, iL, h2]
  rw [if_pos (by simp; omega), h6]
  rfl
 ·exact absurd h Rs.aq
theorem b7c {t : TypeId} (ht : iZ P t = some false) (x : Operand) : LowPl P ⟨dst, .load t x, type, pos, after, guard⟩ (.ld1 (iC x)) := fun C f l H v H1 hf hr => by
 obtain ⟨rfl, h⟩ := a9w (P := P) ht (iV hf x) hr
 simp only [opD, h, dy]
theorem b5w {t : TypeId} {n : Nat} (ht : iZ P t = some true) (hn : gP P t = some n) (x : Operand) : LowPl P ⟨dst, .load t x, type, pos, after, guard⟩ (.ldn n (iC x)) := fun C f l H v H1 hf hr => by
 obtain ⟨rfl, h⟩ := a8V (P := P) ht hn (iV hf x) hr
 simp only [opD, h, dy]
theorem b9k {t : TypeId} {n : Nat} (hn : gP P t = some n) (x y : Operand) : LowPl P ⟨dst, .store t x y, type, pos, after, guard⟩ (.st n (iC x) (iC y)) := fun C f l H v H1 hf hr => by
 have hr : (hSt n (iC x) (iC y) f H).Is v H1 := hr
 unfold hSt at hr
 rw [iV hf, iV hf] at hr
 split at hr
 ·rename_i A i e hx
  unfold stB at hr
  split at hr
  ·rename_i cs ty lo ver hg
   obtain ⟨h1, hr⟩ := kG hr
   obtain ⟨h2, hr⟩ := kG hr
   obtain ⟨h3, hr⟩ := kG hr
   obtain ⟨h4, hr⟩ := kG hr
   obtain ⟨h5, hr⟩ := kG hr
   obtain ⟨rfl, rfl⟩ := Rs.aN hr
   rw [vV] at h1 h3
   have h1 : n = (ev l y).cells.toList.length := by simpa only [decide_eq_true_eq] using h1
   have h3 : e = cs.length := by simpa only [decide_eq_true_eq] using h3
   have h4 : i + n ≤ e := dP h4
   have h5 : lo ≤ e := dP h5
   simp only [opD, oZ, hx, hg]
   rw [if_pos ⟨by rw [hn, h1], h2, h3, by omega, h5⟩]
   simp only [dy]
   rw [h3]
  ·exact absurd hr Rs.aq
 ·exact absurd hr Rs.aq
theorem b9E {s : TypeId} {k n : Nat} {fd : Field} (hf' : mU P s k = some fd) (hn : gP P fd.type = some n) (hn0 : n ≠ 0) (x : Operand) : LowPl P ⟨dst, .fieldAddr s x k, type, pos, after, guard⟩ (.fa fd.offset (iC x)) := fun C f l H v H1 hf hr => by
 have hr : (hFa fd.offset (iC x) f H).Is v H1 := hr
 unfold hFa at hr
 rw [iV hf] at hr
 split at hr
 ·rename_i A i e hx
  rw [jB] at hr
  obtain ⟨rfl, rfl⟩ := Rs.aJ hr
  simp only [opD, hx, hf', cR, hn]
  rw [if_neg (by simpa using hn0)]; rfl
 ·exact absurd hr Rs.aq
theorem b1V {A i e size n : Nat} {H H1 : Heap} {j v : Value} (h : (ixP A i e size n H j).Is v H1) : H1 = H ∧ ∃ k m, j = .int k (.ofNat m) ∧ m < n ∧ v = .pointer (some ⟨A, i + m * size, some e⟩) := by
 unfold ixP at h
 split at h
 ·rename_i k m
  obtain ⟨h1, h⟩ := kG h
  rw [jB] at h
  obtain ⟨rfl, rfl⟩ := Rs.aJ h
  rw [blt_eq] at h1
  exact ⟨rfl, k, m, rfl, by simpa using h1, rfl⟩
 ·exact absurd h Rs.aq
theorem b7j {t elem : TypeId} {size : Nat} (ht : P.underlying t = some (.slice elem)) (hs : gP P elem = some size) (x i : Operand) : LowPl P ⟨dst, .indexAddr t x i, type, pos, after, guard⟩ (.ixs size (iC x) (iC i)) := fun C f l H v H1 hf hr => by
 have hr : (b8C size (iC x) (iC i) f H).Is v H1 := hr
 unfold b8C at hr
 rw [iV hf, iV hf] at hr
 split at hr
 ·rename_i A a e n c hx
  obtain ⟨rfl, k, m, hj, hm, rfl⟩ := b1V hr
  simp only [opD, ht, hx, hj, hs, cR]
  rw [if_pos (by simp; omega)]
  rfl
 ·exact absurd hr Rs.aq
theorem c1o (a b : Nat) : Nat.beq a b = (a == b) := by
 cases h : Nat.beq a b with
 | true => rw [dF h]; simp
 | false => have := Nat.ne_of_beq_eq_false h; simp [this]
theorem b8D {A i size n : Nat} {H H1 : Heap} {j v : Value} (h : (ixG A i size n H j).Is v H1) : H1 = H ∧ ∃ k m, j = .int k (.ofNat m) ∧ m < n ∧ v = .pointer (some ⟨A, i + m * size, none⟩) := by
 unfold ixG at h
 split at h
 ·rename_i k m
  obtain ⟨h1, h⟩ := kG h
  rw [jB] at h
  obtain ⟨rfl, rfl⟩ := Rs.aJ h
  exact ⟨rfl, k, m, rfl, by simpa [gE] using h1, rfl⟩
 ·exact absurd h Rs.aq
theorem b5C {t elem : TypeId} {n size : Nat} (ht : P.underlying t = some (.array n elem)) (hs : gP P elem = some size) (x i : Operand) : LowPl P ⟨dst, .indexAddr t x i, type, pos, after, guard⟩ (.ixa n size (iC x) (iC i)) := fun C f l H v H1 hf hr => by
 have hr : (b9r n size (iC x) (iC i) f H).Is v H1 := hr
 unfold b9r at hr
 rw [iV hf, iV hf] at hr
 split at hr
 ·rename_i A a e hx
  obtain ⟨rfl, k, m, hj, hm, rfl⟩ := b1V hr
  simp only [opD, ht, hx, hj, hs, cR]
  rw [if_pos (by simp; omega)]
  rfl
 ·rename_i A a hx
  obtain ⟨rfl, k, m, hj, hm, rfl⟩ := b8D hr
  simp only [opD, ht, hx, hj, hs, cR]
  rw [if_pos (by simp; omega)]
  rfl
 ·exact absurd hr Rs.aq
theorem b5E (i : Nat) (x : Operand) : LowPl P ⟨dst, .extract x i, type, pos, after, guard⟩ (.ext i (iC x)) := fun C f l H v H1 hf hr => by
 have hr : (b8T i (iC x) f H).Is v H1 := hr
 unfold b8T at hr
 rw [iV hf] at hr
 split at hr
 ·rename_i vs hx
  obtain ⟨h1, rfl⟩ := b2O hr
  rw [wR] at h1
  simp only [opD, hx]
  simp [h1]
 ·exact absurd hr Rs.aq
theorem b6B {c : Call} {elem : TypeId} (hc : c.callee = .builtin .len) (h1 : c.args.size = 1) (h2 : c.argTypes.size = 1) (ht : P.underlying (c.argTypes.getD 0 0) = some (.slice elem)) : LowPl P ⟨dst, .call c, type, pos, after, guard⟩ (.len (iC (c.args.getD 0 (.tmp 0)))) := fun C f l H v H1 hf hr => by
 have hr : (b9M (iC (c.args.getD 0 (.tmp 0))) f H).Is v H1 := hr
 unfold b9M at hr
 rw [iV hf] at hr
 split at hr
 ·rename_i a n k hx
  obtain ⟨rfl, rfl⟩ := Rs.aN hr
  simp only [opD, hc, h1, h2, ht, hx, uN]; rfl
 ·exact absurd hr Rs.aq
theorem b2W {c : Call} (hc : c.callee = .builtin .len) (h1 : c.args.size = 1) (h2 : c.argTypes.size = 1) (ht : P.underlying (c.argTypes.getD 0 0) = some .string) : LowPl P ⟨dst, .call c, type, pos, after, guard⟩ (.slen (iC (c.args.getD 0 (.tmp 0)))) := fun C f l H v H1 hf hr => by
 have hr : (b4c (iC (c.args.getD 0 (.tmp 0))) f H).Is v H1 := hr
 unfold b4c at hr
 rw [iV hf] at hr
 split at hr
 ·rename_i s hx
  obtain ⟨rfl, rfl⟩ := Rs.aN hr
  simp only [opD, hc, h1, h2, ht, hx, uN]; rfl
 ·exact absurd hr Rs.aq
theorem b5q {c : Call} {elem : TypeId} {size bytes : Nat} {z : Value} (hc : c.callee = .builtin .append) (h1 : c.args.size = 2) (h2 : c.argTypes.size = 2) (hi : ((P.underlying (c.argTypes.getD 1 0)).map oF) = some true)
 (he : gR P (c.argTypes.getD 0 0) = some elem) (hs : gP P elem = some size) (hb : mY P elem = some bytes) (hz : iI P elem = some z) (hzs : z.cells.size = size) (hs0 : size ≠ 0) :
 LowPl P ⟨dst, .call c, type, pos, after, guard⟩ (.app elem size bytes (iC (c.args.getD 0 (.tmp 0))) (iC (c.args.getD 1 (.tmp 0)))) := fun C f l H v H1 hf hr => by
 have hr : (b9N P elem size bytes (iC (c.args.getD 0 (.tmp 0))) (iC (c.args.getD 1 (.tmp 0))) f H).Is v H1 := hr
 unfold b9N at hr
 rw [iV hf, iV hf] at hr
 have hD : opD P ⟨dst, .call c, type, pos, after, guard⟩ l H = mG P H (c.argTypes.getD 0 0) (ev l (c.args.getD 0 (.tmp 0))) (ev l (c.args.getD 1 (.tmp 0))) := by
  simp only [opD, hc, h1, h2, hi]; rfl
 rw [hD]
 unfold mG
 rw [he, cR, hs, cR, hb, cR, hz, cR]
 split at hr
 ·rename_i n m hsrc
  rw [hsrc, cR]
  unfold c0r at hr
  split at hr
  ·rename_i k cc hx
   obtain ⟨g1, hq1⟩ := kG hr
   obtain ⟨g2, hq2⟩ := kG hq1
   obtain ⟨g3, hq⟩ := kG hq2
   clear hr hq1 hq2
   obtain rfl : k = 0 := dF g1
   obtain rfl : cc = 0 := dF g2
   have g3 : n * (bytes + 1) ≤ nG := dP g3
   simp only [hx]
   rw [if_pos (by simp [hs0, hzs, g3])]
   rw [jN] at hq
   by_cases hn : n = 0
   ·subst hn
    rw [if_pos (by rfl)] at hq
    obtain ⟨rfl, rfl⟩ := Rs.aJ hq
    simp
   ·rw [if_neg (fun e => hn (dF e))] at hq
    obtain ⟨rfl, rfl⟩ := Rs.aN hq
    simp [hn]
  ·rename_i A i e k cc hx
   unfold c1f at hr
   split at hr
   ·rename_i cs ty lo ver hg
    obtain ⟨g2, hr⟩ := kG hr
    obtain ⟨g4, hr⟩ := kG hr
    obtain ⟨g5, hr⟩ := kG hr
    have g2 : (ty == elem || gP P ty == some size) = true := by
     rw [c1o] at g2
     cases hh : (ty == elem) with
     | true => rfl
     | false => rw [hh] at g2; exact g2
    rw [vV] at g4
    have g4 : e = cs.length := by simpa only [decide_eq_true_eq] using g4
    have g5 : lo ≤ e := dP g5
    simp only [hx, hg]
    rw [jN] at hr
    by_cases g3 : i + k * size = e
    ·rw [if_pos (by simpa using g3)] at hr
     obtain ⟨g1, hr⟩ := kG hr
     obtain ⟨rfl, rfl⟩ := Rs.aN hr
     have g1 : (k + n) * (bytes + 1) ≤ nG := dP g1
     have et : (Bool.rec (motive := fun _ => Nat) 2 ver (Nat.beq ty elem)) = (if (ty == elem) = true then ver else 2) := by
      rw [c1o]
      cases hh : (ty == elem) with
      | true => rfl
      | false => rfl
     rw [et, if_pos (by simp only [g2, eS, cT, bne_iff_ne, beq_iff_eq, decide_eq_true_eq]; exact ⟨⟨⟨⟨⟨hs0, g1⟩, by simpa using hzs⟩, g3⟩, g4⟩, g5⟩)]
    ·rw [if_neg (by simpa using g3)] at hr
     rw [jN] at hr
     by_cases hn : n = 0
     ·rw [if_pos (by simpa using hn)] at hr
      exact absurd hr Rs.aq
     ·rw [if_neg (by simpa using hn)] at hr
      obtain ⟨g6, hr⟩ := kG hr
      obtain ⟨rfl, rfl⟩ := Rs.aN hr
      have g6 : i + (k + n) * size ≤ e := dP g6
      rw [if_neg (by simp [g3]), if_pos (by simp only [g2, eS, cT, bne_iff_ne, beq_iff_eq, decide_eq_true_eq]; exact ⟨⟨⟨⟨⟨hs0, hn⟩, by simpa using hzs⟩, g6⟩, g4⟩, g5⟩), g4]
   ·exact absurd hr Rs.aq
  ·exact absurd hr Rs.aq
 ·exact absurd hr Rs.aq
theorem b1c {c : Call} {k : FuncId} (hc : c.callee = .value (.func k)) (hok : (Op.call c).operands.toList.all gY = true) : tT P ⟨dst, .call c, type, pos, after, guard⟩ (.callF k (jX k) (c.args.toList.map iC)) := fun C H0 f l H v H1 hC hk hf hr => by
 have hr : (a2d f (c.args.toList.map iC) fun l => C.fn (jX k) k l H).Is v H1 := hr
 rw [a6k hf] at hr
 obtain ⟨h1 | hx, h2⟩ := hC.fn _ _ _ _ _ _ hk hr rfl
 case inr => exact ⟨.ext hok c (.func k) k #[] #[] rfl hc rfl (by simpa using hx), h2⟩
 obtain ⟨he, v', H', hcall, rfl, rfl⟩ := h1.fn
 exact ⟨.call hok c (.func k) k #[] #[] rfl hc rfl he (by simpa using hcall), h2⟩
theorem b0F {c : Call} {g : Operand} (hc : c.callee = .value g) (hok : (Op.call c).operands.toList.all gY = true) : tT P ⟨dst, .call c, type, pos, after, guard⟩ (.callV (iC g) (c.args.toList.map iC)) := fun C H0 f l H v H1 hC hk hf hr => by
 have hr : (a2d f (c.args.toList.map iC) fun l => a7K C l H (lI f (iC g))).Is v H1 := hr
 rw [a6k hf, iV hf] at hr
 unfold a7K at hr
 split at hr
 ·rename_i k a b hg
  rw [jB, kN] at hr
  obtain ⟨h1 | hx, h2⟩ := hC.fn _ _ _ _ _ _ hk hr rfl
  case inr => exact ⟨.ext hok c g k ⟨a⟩ ⟨b⟩ rfl hc hg (by simpa [wL] using hx), h2⟩
  obtain ⟨he, v', H', hcall, rfl, rfl⟩ := h1.fn
  exact ⟨.call hok c g k ⟨a⟩ ⟨b⟩ rfl hc hg he (by simpa [wL] using hcall), h2⟩
 ·rename_i L a b hg
  obtain ⟨h1, h2⟩ := hC.rd _ _ _ _ _ hk hr
  exact ⟨.round hok c g L _ _ rfl hc hg h1, h2⟩
 ·exact absurd hr Rs.aq
end
set_option maxHeartbeats 1000000 in
theorem a9B {α : Type} (o : Oper) (K : LOp → α) : ∃ lo, tT P o lo ∧ wM P o K = K lo := by
 unfold wM
 rw [jN]
 by_cases hok : o.op.operands.toList.all gY = true
 case neg => rw [if_neg hok]; exact ⟨_, b5x o, rfl⟩
 rw [if_pos hok]
 have gen : ∃ lo, tT P o lo ∧ K (.gen o) = K lo := ⟨_, (b5U o).low hok, rfl⟩
 obtain ⟨dst, op, type, pos, after, guard⟩ := o
 unfold c1C
 cases op with
 | move x => simp only [kC]; exact ⟨_, (b8o x).low hok, rfl⟩
 | assign x => simp only [kC]; exact ⟨_, (b9G x).low hok, rfl⟩
 | pick c a b => simp only [kC]; exact ⟨_, (b2a c a b).low hok, rfl⟩
 | binOp op t x y yt =>
   simp only [kC, jN]
   split
   ·split
    ·rename_i g hg; exact ⟨_, (b6d hg t yt x y).low hok, rfl⟩
    ·exact gen
   ·exact gen
 | load t x =>
   simp only [kC]
   split
   ·rename_i ht
    cases hn : gP P t with
    | none => exact gen
    | some n => rw [nR]; exact ⟨_, (b5w ht hn x).low hok, rfl⟩
   ·rename_i ht; exact ⟨_, (b7c ht x).low hok, rfl⟩
   ·exact gen
 | store t x y =>
   simp only [kC]
   cases hn : gP P t with
   | none => exact gen
   | some n => rw [nR]; exact ⟨_, (b9k hn x y).low hok, rfl⟩
 | fieldAddr s x k =>
   simp only [kC]
   split
   ·rename_i fd hfd
    split
    ·exact gen
    ·rename_i n hn0 hn
     rw [jB]
     exact ⟨_, (b9E hfd hn (fun e => hn0 e) x).low hok, rfl⟩
    ·exact gen
   ·exact gen
 | indexAddr t x i =>
   simp only [kC]
   split
   ·rename_i elem ht
    cases hs : gP P elem with
    | none => exact gen
    | some n => rw [nR]; exact ⟨_, (b7j ht hs x i).low hok, rfl⟩
   ·rename_i n elem ht
    cases hs : gP P elem with
    | none => exact gen
    | some m => rw [nR]; exact ⟨_, (b5C ht hs x i).low hok, rfl⟩
   ·exact gen
 | extract t i => simp only [kC]; rw [jB]; exact ⟨_, (b5E i t).low hok, rfl⟩
 | call c =>
   simp only
   unfold b2l
   split
   ·rename_i k hc
    rw [kN, a2R]
    exact ⟨_, b1c hc hok, rfl⟩
   ·rename_i g _ hc
    rw [kC, a2R]
    exact ⟨_, b0F hc hok, rfl⟩
   ·rename_i hc
    rw [jN]
    split
    ·rename_i h1
     simp only [cT, beq_iff_eq] at h1
     split
     ·rename_i elem ht; rw [kC]; exact ⟨_, (b6B hc h1.1 h1.2 ht).low hok, rfl⟩
     ·rename_i ht; rw [kC]; exact ⟨_, (b2W hc h1.1 h1.2 ht).low hok, rfl⟩
     ·exact gen
    ·exact gen
   ·rename_i hc
    rw [jN]
    split
    ·rename_i h1
     simp only [cT, beq_iff_eq] at h1
     split
     ·rename_i elem he
      cases hs : gP P elem with
      | none => exact gen
      | some size =>
        rw [nR]
        cases hb : mY P elem with
        | none => exact gen
        | some bytes =>
          rw [nR]
          split
          ·rename_i z hz
           rw [jN]
           split
           ·rename_i h2
            simp only [cT, beq_iff_eq, bne_iff_ne] at h2
            rw [jB, kC, kC]
            exact ⟨_, (b5q hc h1.1.1 h1.1.2 h1.2 he hs hb hz h2.1 h2.2).low hok, rfl⟩
           ·exact gen
          ·exact gen
     ·exact gen
    ·exact gen
   ·exact gen
 | _ => exact gen
def DOk (k : Nat) (dst : Option Tmp) (d : Option Pth) : Prop := (dst = none ∧ d = none) ∨ ∃ t, dst = some t ∧ t < k ∧ d = some (jX t)
inductive LowOps (P : Program) (k : Nat) (ops : Array Oper) : List Oper → LOps → Prop
 | nil : LowOps P k ops [] .nil
 | cons {o : Oper} {os : List Oper} {d : Option Pth} {lo : LOp} {r : LOps} (hd : DOk k o.dst d) (ho : tT P o lo) (hg : o.guard = none) (hr : LowOps P k ops os r) : LowOps P k ops (o :: os) (.cons d lo r)
 | gcons {o : Oper} {os : List Oper} {d : Option Pth} {lo : LOp} {r : LOps} {j t : Nat} {w : Bool} (hd : DOk k o.dst d) (ho : tT P o lo) (hg : o.guard = some (j, w)) (ht : (ops[j]?).bind (·.dst) = some t) (htk : t < k) (hr : LowOps P k ops os r) : LowOps P k ops (o :: os) (.gcons (jX t) w d lo r)
def GOk (ops : Array Oper) (o : Oper) (g : Option (Pth × Bool)) : Prop := (o.guard = none ∧ g = none) ∨ ∃ j w t, o.guard = some (j, w) ∧ (ops[j]?).bind (·.dst) = some t ∧ g = some (jX t, w)
theorem GOk.runs {ops : Array Oper} {o : Oper} {g : Option (Pth × Bool)} (h : GOk ops o g) {f : Fr} {l : List Value} (hf : FAg f l) (hw : Region.wanted o (iB ops l) = true) : b3s f g = true := by
 rcases h with ⟨_, rfl⟩ | ⟨j, w, t, hg, ht, rfl⟩
 ·rfl
 ·simp only [Region.wanted, hg, iB, ht] at hw
  show isB (mN (jX t) f) w = true
  rw [hf t, mW, cV]
  cases hl : l[t]? with
  | none => rw [hl] at hw; simp at hw
  | some v =>
    rw [hl] at hw
    cases v <;> simp at hw
    subst hw
    rename_i b
    cases b <;> rfl
inductive LowTab (P : Program) (ops : Array Oper) : List (Nat × Nat) → List (Nat × Option Nat × Option (Pth × Bool) × LOp) → Prop
 | nil : LowTab P ops [] []
 | cons {i m : Nat} {o : Oper} {lo : LOp} {tab : List (Nat × Nat)} {t : List (Nat × Option Nat × Option (Pth × Bool) × LOp)} {g : Option (Pth × Bool)} (ho : ops[i]? = some o) (hgd : GOk ops o g) (hl : tT P o lo) (hr : LowTab P ops tab t) :
    LowTab P ops ((i, m) :: tab) ((ops.size - 1 - i, if m < ops.size then some (ops.size - 1 - m) else none, g, lo) :: t)
inductive Low (P : Program) (k : Nat) : Code → LCode → Prop
 | bad (c : Code) : Low P k c .bad
 | skip : Low P k .skip .skip
 | label (t : Nat) : Low P k (.label t) .skip
 | reg {id : Nat} {ops : Array Oper} {d : Bool} {lo : LOps} (h : LowOps P k ops ops.toList lo) (hd : d = true → lV P ops = some []) : Low P k (.region id ops d) (.reg lo)
 | drw {id : Nat} {ops : Array Oper} {lo : LOps} {tab : List (Nat × Nat)} {t : List (Nat × Option Nat × Option (Pth × Bool) × LOp)} (h : LowOps P k ops ops.toList lo) (ht : lV P ops = some tab) (hl : LowTab P ops tab t) : Low P k (.region id ops true) (.drw lo t)
 | seq {a b : Code} {A B : LCode} (ha : Low P k a A) (hb : Low P k b B) : Low P k (.seq a b) (.seq A B)
 | cond {c : Operand} {x y : Code} {X Y : LCode} (hc : gY c = true) (hx : Low P k x X) (hy : Low P k y Y) : Low P k (.cond c x y) (.cond (iC c) X Y)
 | block {id : Nat} {b : Code} {B : LCode} (hb : Low P k b B) : Low P k (.block id b) (.block id B)
 | loop {b : Code} {B : LCode} (hb : Low P k b B) : Low P k (.loop b) (.loop B)
 | exit (id : Nat) : Low P k (.exit id) (.exit id)
 | ret : Low P k .ret .ret
 | range {g : Operand} {ps : Array Tmp} {assign body : Code} {A B : LCode} (hg : gY g = true) (hps : ∀ t ∈ ps.toList, t < k) (ha : Low P k assign A) (hb : Low P k body B) :
    Low P k (.rangeFunc g ps assign body) (.range (iC g) ((List.range k).map jX) (ps.toList.map jX) ps assign body A B)
section
variable {α : Type}
theorem b2P (k : Nat) (dst : Option Tmp) (no : α) (K : Option Pth → α) : (∃ d, DOk k dst d ∧ a4t k dst no K = K d) ∨ a4t k dst no K = no := by
 cases dst with
 | none => exact .inl ⟨none, .inl ⟨rfl, rfl⟩, rfl⟩
 | some t =>
   simp only [a4t, jN]
   split
   ·rename_i h
    rw [kN]
    rw [blt_eq] at h
    exact .inl ⟨_, .inr ⟨t, rfl, by simpa using h, rfl⟩, rfl⟩
   ·exact .inr rfl
theorem a1q (k : Nat) (ops : Array Oper) (l : List Oper) (K : LOps → α) (no : α) : (∃ L, LowOps P k ops l L ∧ sV P k ops l K no = K L) ∨ sV P k ops l K no = no := by
 induction l generalizing K with
 | nil => exact .inl ⟨_, .nil, rfl⟩
 | cons o l ih =>
   let K2 : Option Pth → LOp → α := fun d o' => match o.guard with
    | none => sV P k ops l (fun r => K (.cons d o' r)) no
    | some (j, w) => match (ops[j]?).bind (·.dst) with
      | some t => mM (Nat.blt t k) no (kP (jX t) fun p => xY w fun w => sV P k ops l (fun r => K (.gcons p w d o' r)) no)
      | none => no
   have e : sV P k ops (o :: l) K no = a4t k o.dst no fun d => wM P o fun o' => K2 d o' := rfl
   rw [e]
   rcases b2P k o.dst no (fun d => wM P o fun o' => K2 d o') with ⟨d, hd, h1⟩ | h1
   ·rw [h1]
    obtain ⟨lo, hlo, h2⟩ := a9B (P := P) o (fun o' => K2 d o')
    rw [h2]
    simp only [K2]
    split
    ·rename_i hg
     rcases ih (fun r => K (.cons d lo r)) with ⟨L, hL, h3⟩ | h3
     ·exact .inl ⟨_, .cons hd hlo hg hL, h3⟩
     ·exact .inr h3
    ·rename_i j w hg
     split
     ·rename_i t ht
      rw [jN]
      split
      ·rename_i htk
       rw [kN, tF]
       rw [blt_eq] at htk
       rcases ih (fun r => K (.gcons (jX t) w d lo r)) with ⟨L, hL, h3⟩ | h3
       ·exact .inl ⟨_, .gcons hd hlo hg ht (by simpa using htk) hL, h3⟩
       ·exact .inr h3
      ·exact .inr rfl
     ·exact .inr rfl
   ·exact .inr h1
theorem b9B (k : Nat) (ops : Array Oper) (o : Oper) (no : α) (K : Option (Pth × Bool) → α) : (∃ g, GOk ops o g ∧ loG k ops o.guard no K = K g) ∨ loG k ops o.guard no K = no := by
 cases hg : o.guard with
 | none => exact .inl ⟨none, .inl ⟨hg, rfl⟩, rfl⟩
 | some x =>
   obtain ⟨j, w⟩ := x
   unfold loG
   cases ht : (ops[j]?).bind (·.dst) with
   | none => exact .inr (by simp only [ht])
   | some t =>
     simp only [ht, jN]
     split
     ·refine .inl ⟨some (jX t, w), .inr ⟨j, w, t, hg, ht, rfl⟩, ?_⟩
      rw [kN, tF]
     ·exact .inr rfl
theorem b2H (k : Nat) (ops : Array Oper) (tab : List (Nat × Nat)) (K : List (Nat × Option Nat × Option (Pth × Bool) × LOp) → α) (no : α) : (∃ t, LowTab P ops tab t ∧ rQ P k ops ops.size tab K no = K t) ∨ rQ P k ops ops.size tab K no = no := by
 induction tab generalizing K with
 | nil => exact .inl ⟨_, .nil, rfl⟩
 | cons x tab ih =>
   obtain ⟨i, m⟩ := x
   cases ho : ops[i]? with
   | none =>
     refine .inr ?_
     show (match ops[i]? with
      | some o => _
      | none => no) = no
     rw [ho]
   | some o =>
     let K2 : Option (Pth × Bool) → LOp → α := fun g o' => jH (ops.size - 1 - i) fun i => mM (Nat.blt m ops.size) (rQ P k ops ops.size tab (fun l => K ((i, none, g, o') :: l)) no) (jH (ops.size - 1 - m) fun m => rQ P k ops ops.size tab (fun l => K ((i, some m, g, o') :: l)) no)
     have e : rQ P k ops ops.size ((i, m) :: tab) K no = loG k ops o.guard no fun g => wM P o fun o' => K2 g o' := by
      show (match ops[i]? with
       | some o => loG k ops o.guard no fun g => wM P o fun o' => K2 g o'
       | none => no) = _
      rw [ho]
     rw [e]
     rcases b9B k ops o no (fun g => wM P o fun o' => K2 g o') with ⟨g, hgd, h1⟩ | h1
     ·rw [h1]
      obtain ⟨lo, hlo, h2⟩ := a9B (P := P) o (fun o' => K2 g o')
      rw [h2]
      show (∃ t, _ ∧ jH (ops.size - 1 - i) (fun i => mM (Nat.blt m ops.size) (rQ P k ops ops.size tab (fun l => K ((i, none, g, lo) :: l)) no) (jH (ops.size - 1 - m) fun m => rQ P k ops ops.size tab (fun l => K ((i, some m, g, lo) :: l)) no)) = K t) ∨ jH (ops.size - 1 - i) (fun i => mM (Nat.blt m ops.size) (rQ P k ops ops.size tab (fun l => K ((i, none, g, lo) :: l)) no) (jH (ops.size - 1 - m) fun m => rQ P k ops ops.size tab (fun l => K ((i, some m, g, lo) :: l)) no)) = no
      rw [jB, jN, jB, blt_eq]
      by_cases hm : m < ops.size
      ·rw [if_pos (by simpa using hm)]
       rcases ih (fun l => K ((ops.size - 1 - i, some (ops.size - 1 - m), g, lo) :: l)) with ⟨t, ht, h3⟩ | h3
       ·have := LowTab.cons (m := m) ho hgd hlo ht
        rw [if_pos hm] at this
        exact .inl ⟨_, this, h3⟩
       ·exact .inr h3
      ·rw [if_neg (by simpa using hm)]
       rcases ih (fun l => K ((ops.size - 1 - i, none, g, lo) :: l)) with ⟨t, ht, h3⟩ | h3
       ·have := LowTab.cons (m := m) ho hgd hlo ht
        rw [if_neg hm] at this
        exact .inl ⟨_, this, h3⟩
       ·exact .inr h3
     ·exact .inr h1
theorem b0Z (k : Nat) (l : List Tmp) (K : List Pth → α) (no : α) : ((∀ t ∈ l, t < k) ∧ uU k l K no = K (l.map jX)) ∨ uU k l K no = no := by
 induction l generalizing K with
 | nil => exact .inl ⟨by simp, rfl⟩
 | cons t l ih =>
   show _ ∨ mM (Nat.blt t k) no (kP (jX t) fun p => uU k l (fun l => K (p :: l)) no) = no
   have e : uU k (t :: l) K no = mM (Nat.blt t k) no (kP (jX t) fun p => uU k l (fun l => K (p :: l)) no) := rfl
   rw [e, jN, kN, blt_eq]
   by_cases h : t < k
   ·rw [if_pos (by simpa using h)]
    rcases ih (fun l => K (jX t :: l)) with ⟨h1, h2⟩ | h2
    ·exact .inl ⟨by simpa using ⟨h, h1⟩, h2⟩
    ·exact .inr h2
   ·rw [if_neg (by simpa using h)]; exact .inr rfl
theorem a9H (k : Nat) (c : Code) (K : LCode → α) : ∃ C, Low P k c C ∧ lY P k c K = K C := by
 induction c generalizing K with
 | skip => exact ⟨_, .skip, rfl⟩
 | region id ops d =>
   cases d with
   | false =>
     show ∃ C, _ ∧ sV P k ops ops.toList (fun l => K (.reg l)) (K .bad) = K C
     rcases a1q (P := P) k ops ops.toList (fun l => K (.reg l)) (K .bad) with ⟨L, hL, h⟩ | h
     ·exact ⟨_, .reg hL (fun h => by cases h), h⟩
     ·exact ⟨_, .bad _, h⟩
   | true =>
     show ∃ C, _ ∧ (match lV P ops with
      | some [] => sV P k ops ops.toList (fun l => K (.reg l)) (K .bad)
      | some tab => sV P k ops ops.toList (fun l => rQ P k ops ops.size tab (fun t => K (.drw l t)) (K .bad)) (K .bad)
      | none => K .bad) = K C
     split
     ·rename_i hd
      rcases a1q (P := P) k ops ops.toList (fun l => K (.reg l)) (K .bad) with ⟨L, hL, h⟩ | h
      ·exact ⟨_, .reg hL (fun _ => hd), h⟩
      ·exact ⟨_, .bad _, h⟩
     ·rename_i tab _ hd
      rcases a1q (P := P) k ops ops.toList (fun l => rQ P k ops ops.size tab (fun t => K (.drw l t)) (K .bad)) (K .bad) with ⟨L, hL, h⟩ | h
      ·rw [h]
       rcases b2H (P := P) k ops tab (fun t => K (.drw L t)) (K .bad) with ⟨t, ht, h2⟩ | h2
       ·exact ⟨_, .drw hL hd ht, h2⟩
       ·exact ⟨_, .bad _, h2⟩
      ·exact ⟨_, .bad _, h⟩
     ·exact ⟨_, .bad _, rfl⟩
 | seq a b iha ihb =>
   show ∃ C, _ ∧ lY P k a (fun a => lY P k b fun b => K (.seq a b)) = K C
   obtain ⟨A, hA, h1⟩ := iha (fun a => lY P k b fun b => K (.seq a b))
   obtain ⟨B, hB, h2⟩ := ihb (fun b => K (.seq A b))
   exact ⟨_, .seq hA hB, h1.trans h2⟩
 | cond c x y ihx ihy =>
   show ∃ C, _ ∧ mM (gY c) (K .bad) (kR c fun c => lY P k x fun x => lY P k y fun y => K (.cond c x y)) = K C
   rw [jN]
   split
   ·rename_i hc
    rw [kC]
    obtain ⟨X, hX, h1⟩ := ihx (fun x => lY P k y fun y => K (.cond (iC c) x y))
    obtain ⟨Y, hY, h2⟩ := ihy (fun y => K (.cond (iC c) X y))
    exact ⟨_, .cond hc hX hY, h1.trans h2⟩
   ·exact ⟨_, .bad _, rfl⟩
 | block id b ih =>
   show ∃ C, _ ∧ jH id (fun id => lY P k b fun b => K (.block id b)) = K C
   rw [jB]
   obtain ⟨B, hB, h1⟩ := ih (fun b => K (.block id b))
   exact ⟨_, .block hB, h1⟩
 | loop b ih =>
   show ∃ C, _ ∧ lY P k b (fun b => K (.loop b)) = K C
   obtain ⟨B, hB, h1⟩ := ih (fun b => K (.loop b))
   exact ⟨_, .loop hB, h1⟩
 | rangeFunc g ps assign body iha ihb =>
   show ∃ C, _ ∧ mM (gY g) (K .bad) (kR g fun g' => b0P k fun pp => uU k ps.toList (fun q => lY P k assign fun a => lY P k body fun b => K (.range g' pp q ps assign body a b)) (K .bad)) = K C
   rw [jN]
   split
   ·rename_i hg
    rw [kC, a9o]
    rcases b0Z k ps.toList (fun q => lY P k assign fun a => lY P k body fun b => K (.range (iC g) ((List.range k).map jX) q ps assign body a b)) (K .bad) with ⟨hps, h⟩ | h
    ·obtain ⟨A, hA, h1⟩ := iha (fun a => lY P k body fun b => K (.range (iC g) ((List.range k).map jX) (ps.toList.map jX) ps assign body a b))
     obtain ⟨B, hB, h2⟩ := ihb (fun b => K (.range (iC g) ((List.range k).map jX) (ps.toList.map jX) ps assign body A b))
     exact ⟨_, .range hg hps hA hB, h.trans (h1.trans h2)⟩
    ·exact ⟨_, .bad _, h⟩
   ·exact ⟨_, .bad _, rfl⟩
 | exit id =>
   show ∃ C, _ ∧ jH id (fun id => K (.exit id)) = K C
   rw [jB]
   exact ⟨_, .exit id, rfl⟩
 | label t => exact ⟨_, .label t, rfl⟩
 | ret => exact ⟨_, .ret, rfl⟩
 | scope b _ => exact ⟨_, .bad _, rfl⟩
 | goto t => exact ⟨_, .bad _, rfl⟩
 | refuse w => exact ⟨_, .bad _, rfl⟩
end
theorem tB {α : Type} {k : Nat} {f : Fr} {l : List Value} (h : FRel k f l) {dst : Option Tmp} {d : Option Pth} (hd : DOk k dst d) (v : Value) (K : Fr → α) : ∃ f', sJ d v f K = K f' ∧ FRel k f' (put l dst v) := by
 rcases hd with ⟨rfl, rfl⟩ | ⟨t, rfl, ht, rfl⟩
 ·exact ⟨f, rfl, h⟩
 ·exact ⟨b4Q f t v, qK v (jX t) f K, h.put ht v⟩
theorem wI {ops : Array Oper} {l : List Value} {j t : Nat} (ht : (ops[j]?).bind (·.dst) = some t) (htl : t < l.length) (w : Bool) : (iB ops l j == some w) = isB (get l t) w := by
 have hg : get l t = l[t] := by rw [mW]; simp [htl]
 unfold iB
 rw [ht, hg]
 simp only [db htl]
 cases hv : l[t] <;> simp [isB]
 rename_i b
 cases b <;> cases w <;> rfl
theorem b5G {k : Nat} {ops : Array Oper} {C : Calls'} {H0 : Heap} (hC : CallsOk P C H0) {os : List Oper} {lo : LOps} (hlo : LowOps P k ops os lo) : ∀ {i : Nat}, ops.toList.drop i = os → ∀ {f : Fr} {l : List Value} {H : Heap} {f1 : Fr} {H1 : Heap},
 FRel k f l → LK H0 H → vY P C lo f H = .ok f1 H1 → ∃ l1, FRel k f1 l1 ∧ OpsR P ops (List.range' i os.length) l H l1 H1 ∧ LK H H1 := by
 induction hlo with
 | nil =>
   intro i _ f l H f1 H1 hf _ h
   injection h with h1 h2
   subst h1 h2
   exact ⟨l, hf, .nil l H, .refl H⟩
 | @cons o os d lo r hd ho hg hr ih =>
   intro i hi f l H f1 H1 hf hk h
   have hio : ops[i]? = some o := by
    have : (ops.toList.drop i)[0]? = some o := by rw [hi]; rfl
    rw [dp] at this
    simpa using this
   have hi' : ops.toList.drop (i + 1) = os := by rw [← eU, hi]; rfl
   have hw : Region.wanted o (iB ops l) = true := by simp [Region.wanted, hg]
   have h : a9j Rf.no d f (vY P C r) (opF P C lo f H) = .ok f1 H1 := h
   have key : ∀ v H2, (opF P C lo f H).Is v H2 → (sJ d v f fun f => vY P C r f H2) = .ok f1 H1 → ∃ l1, FRel k f1 l1 ∧ OpsR P ops (List.range' i (o :: os).length) l H l1 H1 ∧ LK H H1 := by
    intro v H2 hop hrest
    obtain ⟨hs, hk2⟩ := ho C H0 f l H v H2 hC hk hf.2 hop
    obtain ⟨f', e, hf'⟩ := tB hf hd v (fun f => vY P C r f H2)
    rw [e] at hrest
    obtain ⟨l1, h1, h2, h3⟩ := ih hi' hf' (hk.trans hk2) hrest
    exact ⟨l1, h1, .step hio hw hs h2, hk2.trans h3⟩
   cases hop : opF P C lo f H with
   | no => rw [hop] at h; cases h
   | ok v H2 => rw [hop] at h; exact key v H2 (.inl hop) h
   | th v H2 =>
     rw [hop] at h
     have h : vS v (fun v => mH H2 fun H2 => sJ d v f fun f => vY P C r f H2) = .ok f1 H1 := h
     rw [vN, lA] at h
     exact key v H2 (.inr hop) h
 | @gcons o os d lo r j t w hd ho hg ht htk hr ih =>
   intro i hi f l H f1 H1 hf hk h
   have hio : ops[i]? = some o := by
    have : (ops.toList.drop i)[0]? = some o := by rw [hi]; rfl
    rw [dp] at this
    simpa using this
   have hi' : ops.toList.drop (i + 1) = os := by rw [← eU, hi]; rfl
   have hwi : Region.wanted o (iB ops l) = isB (mN (jX t) f) w := by
    simp only [Region.wanted, hg]
    rw [wI ht (by rw [hf.1]; exact htk) w, hf.2 t]
   have h : mM (isB (mN (jX t) f) w) (sJ d undef f fun f => vY P C r f H) (a9j Rf.no d f (vY P C r) (opF P C lo f H)) = .ok f1 H1 := h
   rw [jN] at h
   split at h
   ·rename_i hb
    have key : ∀ v H2, (opF P C lo f H).Is v H2 → (sJ d v f fun f => vY P C r f H2) = .ok f1 H1 → ∃ l1, FRel k f1 l1 ∧ OpsR P ops (List.range' i (o :: os).length) l H l1 H1 ∧ LK H H1 := by
     intro v H2 hop hrest
     obtain ⟨hs, hk2⟩ := ho C H0 f l H v H2 hC hk hf.2 hop
     obtain ⟨f', e, hf'⟩ := tB hf hd v (fun f => vY P C r f H2)
     rw [e] at hrest
     obtain ⟨l1, h1, h2, h3⟩ := ih hi' hf' (hk.trans hk2) hrest
     exact ⟨l1, h1, .step hio (by rw [hwi, hb]) hs h2, hk2.trans h3⟩
    cases hop : opF P C lo f H with
    | no => rw [hop] at h; cases h
    | ok v H2 => rw [hop] at h; exact key v H2 (.inl hop) h
    | th v H2 =>
      rw [hop] at h
      have h : vS v (fun v => mH H2 fun H2 => sJ d v f fun f => vY P C r f H2) = .ok f1 H1 := h
      rw [vN, lA] at h
      exact key v H2 (.inr hop) h
   ·rename_i hb
    obtain ⟨f', e, hf'⟩ := tB hf hd undef (fun f => vY P C r f H)
    rw [e] at h
    obtain ⟨l1, h1, h2, h3⟩ := ih hi' hf' hk h
    exact ⟨l1, h1, .past hio (by rw [hwi]; simpa using hb) h2, h3⟩
structure Noted (P : Program) (k : Nat) (ops : Array Oper) (H : Heap) (i n : Nat) (T : Nat → List Value × Heap) (val : Nat → Value) (tr0 tr : List (Fr × Heap × Value)) : Prop where
 step : ∀ j, i ≤ j → j < i + n → uA P ops j (T j) (T (j + 1)) (val j)
 new : ∀ j, i ≤ j → j < i + n → ∃ g, tr[i + n - 1 - j]? = some (g, (T j).2, val j) ∧ FAg g (T j).1
 old : ∀ m, tr[n + m]? = tr0[m]?
 lk : ∀ j, i ≤ j → j ≤ i + n → LK H (T j).2
theorem b4v {k : Nat} {ops : Array Oper} {C : Calls'} {H0 : Heap} (hC : CallsOk P C H0) {os : List Oper} {lo : LOps} (hlo : LowOps P k ops os lo) : ∀ {i : Nat}, ops.toList.drop i = os → ∀ {tr0 tr : List (Fr × Heap × Value)} {f : Fr} {l : List Value} {H : Heap} {f1 : Fr} {H1 : Heap},
 FRel k f l → LK H0 H → pO P C lo tr0 f H = .ok tr f1 H1 → ∃ T val l1, T i = (l, H) ∧ T (i + os.length) = (l1, H1) ∧ FRel k f1 l1 ∧ Noted P k ops H i os.length T val tr0 tr := by
 have more : ∀ {i n : Nat} {o : Oper} {tr0 tr : List (Fr × Heap × Value)} {f : Fr} {l : List Value} {H : Heap} {v : Value} {l2 : List Value} {H2 : Heap} {l1 : List Value} {H1 : Heap} {f1 : Fr}, FRel k f l → uA P ops i (l, H) (l2, H2) v → LK H H2 →
  (∃ T val l1, T (i + 1) = (l2, H2) ∧ T (i + 1 + n) = (l1, H1) ∧ FRel k f1 l1 ∧ Noted P k ops H2 (i + 1) n T val ((f, H, v) :: tr0) tr) →
  ∃ T val l1, T i = (l, H) ∧ T (i + (n + 1)) = (l1, H1) ∧ FRel k f1 l1 ∧ Noted P k ops H i (n + 1) T val tr0 tr := by
  intro i n o tr0 tr f l H v l2 H2 _ H1 f1 hf hst hk ⟨T, val, l1, h1, h2, h3, hN⟩
  refine ⟨fun j => if j ≤ i then (l, H) else T j, fun j => if j ≤ i then v else val j, l1, by simp, ?_, h3, ?_⟩
  ·show (if i + (n + 1) ≤ i then (l, H) else T (i + (n + 1))) = _
   rw [if_neg (by omega), ← h2]; congr 1; omega
  ·refine ⟨fun j hj hn => ?_, fun j hj hn => ?_, fun m => ?_, fun j hj hn => ?_⟩
   ·by_cases he : j = i
    ·subst he
     simp only [cZ, if_true]
     rw [if_neg (by omega), h1]
     exact hst
    ·rw [if_neg (by omega), if_neg (by omega), if_neg (by omega)]
     exact hN.step j (by omega) (by omega)
   ·by_cases he : j = i
    ·subst he
     simp only [cZ, if_true]
     refine ⟨f, ?_, hf.2⟩
     have := hN.old 0
     rw [show j + (n + 1) - 1 - j = n + 0 by omega, this]; rfl
    ·rw [if_neg (by omega), if_neg (by omega)]
     obtain ⟨g, hg, hag⟩ := hN.new j (by omega) (by omega)
     exact ⟨g, by rw [← hg]; congr 1; omega, hag⟩
   ·have := hN.old (m + 1)
    rw [show n + 1 + m = n + (m + 1) by omega, this]; rfl
   ·by_cases he : j = i
    ·subst he; simp only [cZ, if_true]; exact .refl H
    ·rw [if_neg (by omega)]; exact hk.trans (hN.lk j (by omega) (by omega))
 induction hlo with
 | nil =>
   intro i _ tr0 tr f l H f1 H1 hf _ h
   injection h with h1 h2 h3
   subst h1 h2 h3
   exact ⟨fun _ => (l, H), fun _ => undef, l, rfl, rfl, hf, fun j _ h => absurd h (by simp; omega), fun j _ h => absurd h (by simp; omega), fun m => by simp, fun _ _ _ => .refl H⟩
 | @cons o os d lo r hd ho hg hr ih =>
   intro i hi tr0 tr f l H f1 H1 hf hk h
   have hio : ops[i]? = some o := by
    have : (ops.toList.drop i)[0]? = some o := by rw [hi]; rfl
    rw [dp] at this
    simpa using this
   have hi' : ops.toList.drop (i + 1) = os := by rw [← eU, hi]; rfl
   have hw : Region.wanted o (iB ops l) = true := by simp [Region.wanted, hg]
   have h : a8O tr0 f H d (pO P C r) (opF P C lo f H) = .ok tr f1 H1 := h
   have key : ∀ v H2, (opF P C lo f H).Is v H2 → (sJ d v f fun f2 => pO P C r ((f, H, v) :: tr0) f2 H2) = .ok tr f1 H1 → ∃ T val l1, T i = (l, H) ∧ T (i + (o :: os).length) = (l1, H1) ∧ FRel k f1 l1 ∧ Noted P k ops H i (o :: os).length T val tr0 tr := by
    intro v H2 hop hrest
    obtain ⟨hs, hk2⟩ := ho C H0 f l H v H2 hC hk hf.2 hop
    obtain ⟨f', e, hf'⟩ := tB hf hd v (fun f2 => pO P C r ((f, H, v) :: tr0) f2 H2)
    rw [e] at hrest
    have := ih hi' hf' (hk.trans hk2) hrest
    exact more (o := o) (l1 := l) hf ⟨o, hio, rfl, .inl ⟨hw, hs⟩⟩ hk2 this
   cases hop : opF P C lo f H with
   | no => rw [hop] at h; cases h
   | ok v H2 => rw [hop] at h; exact key v H2 (.inl hop) h
   | th v H2 =>
     rw [hop] at h
     have h : vS v (fun v => mH H2 fun H2 => sJ d v f fun f2 => pO P C r ((f, H, v) :: tr0) f2 H2) = .ok tr f1 H1 := h
     rw [vN, lA] at h
     exact key v H2 (.inr hop) h
 | @gcons o os d lo r j t w hd ho hg ht htk hr ih =>
   intro i hi tr0 tr f l H f1 H1 hf hk h
   have hio : ops[i]? = some o := by
    have : (ops.toList.drop i)[0]? = some o := by rw [hi]; rfl
    rw [dp] at this
    simpa using this
   have hi' : ops.toList.drop (i + 1) = os := by rw [← eU, hi]; rfl
   have hwi : Region.wanted o (iB ops l) = isB (mN (jX t) f) w := by
    simp only [Region.wanted, hg]
    rw [wI ht (by rw [hf.1]; exact htk) w, hf.2 t]
   have h : mM (isB (mN (jX t) f) w) (sJ d undef f fun f2 => pO P C r ((f, H, undef) :: tr0) f2 H) (a8O tr0 f H d (pO P C r) (opF P C lo f H)) = .ok tr f1 H1 := h
   rw [jN] at h
   split at h
   ·rename_i hb
    have key : ∀ v H2, (opF P C lo f H).Is v H2 → (sJ d v f fun f2 => pO P C r ((f, H, v) :: tr0) f2 H2) = .ok tr f1 H1 → ∃ T val l1, T i = (l, H) ∧ T (i + (o :: os).length) = (l1, H1) ∧ FRel k f1 l1 ∧ Noted P k ops H i (o :: os).length T val tr0 tr := by
     intro v H2 hop hrest
     obtain ⟨hs, hk2⟩ := ho C H0 f l H v H2 hC hk hf.2 hop
     obtain ⟨f', e, hf'⟩ := tB hf hd v (fun f2 => pO P C r ((f, H, v) :: tr0) f2 H2)
     rw [e] at hrest
     exact more (o := o) (l1 := l) hf ⟨o, hio, rfl, .inl ⟨by rw [hwi, hb], hs⟩⟩ hk2 (ih hi' hf' (hk.trans hk2) hrest)
    cases hop : opF P C lo f H with
    | no => rw [hop] at h; cases h
    | ok v H2 => rw [hop] at h; exact key v H2 (.inl hop) h
    | th v H2 =>
      rw [hop] at h
      have h : vS v (fun v => mH H2 fun H2 => sJ d v f fun f2 => pO P C r ((f, H, v) :: tr0) f2 H2) = .ok tr f1 H1 := h
      rw [vN, lA] at h
      exact key v H2 (.inr hop) h
   ·rename_i hb
    obtain ⟨f', e, hf'⟩ := tB hf hd undef (fun f2 => pO P C r ((f, H, undef) :: tr0) f2 H)
    rw [e] at h
    exact more (o := o) (l1 := l) hf ⟨o, hio, rfl, .inr ⟨by rw [hwi]; simpa using hb, rfl, rfl⟩⟩ (.refl H) (ih hi' hf' hk h)
theorem a8P {α : Type} (p : α → Bool) (l : List α) : b4K p l = l.all p := by
 induction l with
 | nil => rfl
 | cons x l ih =>
   show mM (p x) false (b4K p l) = _
   rw [jN, ih, eR]
   cases p x <;> rfl
theorem b5H {v : Value} {r : Rs} (h : b5i v r = true) : ∃ H, r.Is v H := by
 cases r with
 | no => cases h
 | ok w H => exact ⟨H, .inl (by rw [b2G (show veq w v = true from h)])⟩
 | th w H => exact ⟨H, .inr (by rw [b2G (show veq w v = true from h)])⟩
theorem LowTab.get {ops : Array Oper} {tab : List (Nat × Nat)} {t : List (Nat × Option Nat × Option (Pth × Bool) × LOp)} (h : LowTab P ops tab t) {i m : Nat} (hm : (i, m) ∈ tab) : ∃ o lo g, ops[i]? = some o ∧ GOk ops o g ∧ tT P o lo ∧ (ops.size - 1 - i, (if m < ops.size then some (ops.size - 1 - m) else none), g, lo) ∈ t := by
 induction h with
 | nil => cases hm
 | @cons i2 m2 o lo tab t g ho hgd hl hr ih =>
   rcases dK.1 hm with he | hm
   ·injection he with h1 h2
    subst h1 h2
    exact ⟨o, lo, g, ho, hgd, hl, by simp⟩
   ·obtain ⟨o', lo', g', h1, h0, h2, h3⟩ := ih hm
    exact ⟨o', lo', g', h1, h0, h2, ek _ h3⟩
theorem a8w {fl : Fl} {ops : Array Oper} {i m : Nat} (h : (i, m) ∈ lH fl ops) {o : Oper} (ho : ops[i]? = some o) : mI o.op = true := by
 unfold lH at h
 simp only [fz] at h
 obtain ⟨⟨x, j⟩, hx, h⟩ := h
 dsimp only at h
 split at h
 ·rename_i hr
  simp only [dx] at h
  obtain ⟨m', _, e⟩ := h
  injection e with e1 e2
  subst e1
  have := fQ.1 hx
  have : ops[j]? = some x := by simpa using this
  rw [this] at ho
  injection ho with ho
  subst ho
  exact hr
 ·cases h
theorem b7t (jM : P.follows .mixedOrders = true) {k id : Nat} {ops : Array Oper} {C : Calls'} {H : Heap} (hC : CallsOk P C H) {lo : LOps} {tab : List (Nat × Nat)} {t : List (Nat × Option Nat × Option (Pth × Bool) × LOp)} (hlo : LowOps P k ops ops.toList lo) (htab : lV P ops = some tab) (hl : LowTab P ops tab t)
 {f : Fr} {l : List Value} {e : Ex} {f1 : Fr} {H1 : Heap} (hf : FRel k f l) (h : b7z P C t (pO P C lo [] f H) = .ok e f1 H1) : ∃ l1, e = .normal ∧ FRel k f1 l1 ∧ Sim P (.region id ops true) l H .normal l1 H1 ∧ LK H H1 := by
 cases hr : pO P C lo [] f H with
 | no => rw [hr] at h; cases h
 | ok tr f2 H2 =>
   rw [hr] at h
   have h : mM (b4K (b3l P C tr H2) t) Rc.no (.ok .normal f2 H2) = .ok e f1 H1 := h
   rw [jN] at h
   split at h
   case isFalse => cases h
   rename_i hall
   injection h with h1 h2 h3
   subst h1 h2 h3
   obtain ⟨T, val, l1, hT0, hTn, hf1, hN⟩ := b4v hC hlo (i := 0) rfl hf (.refl H) hr
   rw [eW, fL] at hTn
   rw [eW] at hN
   have hlk : LK H H2 := by have := hN.lk ops.size (ey _) (by omega); rwa [hTn] at this
   refine ⟨l1, rfl, hf1, ?_, hlk⟩
   have := Sim.draw jM (id := id) htab (T := T) (val := val) ⟨fun j hj => hN.step j (ey _) (by omega)⟩ ?_
   ·rw [hT0, hTn] at this; exact this
   ·intro i m o hm ho hw
    obtain ⟨o', lo', gd, ho', hgd, hlow, hmem⟩ := hl.get hm
    rw [ho] at ho'
    obtain rfl := cQ ho'
    rw [a8P, dg] at hall
    have hrd := hall _ hmem
    have hi : i < ops.size := (cX.1 ho).1
    obtain ⟨g, hg, hag⟩ := hN.new i (ey _) (by omega)
    have hg : tr[ops.size - 1 - i]? = some (g, (T i).2, val i) := by rw [← hg]; congr 1; omega
    have hread : mI o.op = true := by
     obtain ⟨fl, _, rfl⟩ := oM htab
     exact a8w hm ho
    have fin : ∀ H3, LK H H3 → b5i (val i) (opF P C lo' g H3) = true → ∃ H4, opD P o (T i).1 H3 = some (val i, H4) := by
     intro H3 hk3 hq
     obtain ⟨H4, h4⟩ := b5H hq
     obtain ⟨hs, _⟩ := hlow C H g (T i).1 H3 (val i) H4 hC hk3 hag h4
     refine ⟨H4, hs.opD fun c fv hc hv => ?_⟩
     rw [hc] at hread
     simp [mI, hv] at hread
    unfold b3l at hrd
    simp only [wR, hg, hgd.runs hag hw] at hrd
    rw [jN, if_pos rfl] at hrd
    by_cases hms : m < ops.size
    ·rw [if_pos hms] at hrd
     obtain ⟨g2, hg2, _⟩ := hN.new m (ey _) (by omega)
     have hg2 : tr[ops.size - 1 - m]? = some (g2, (T m).2, val m) := by rw [← hg2]; congr 1; omega
     simp only [hg2] at hrd
     exact fin _ (hN.lk m (ey _) (by omega)) hrd
    ·rw [if_neg hms] at hrd
     have hle : m = ops.size := by
      obtain ⟨fl, _, rfl⟩ := oM htab
      have := a0l hm
      omega
     subst hle
     have := fin H2 hlk hrd
     rw [hTn]; exact this
def sL (P : Program) : List ResultVar → List LRes → Prop
 | [], [] => True
 | r :: rs, l :: ls => (match r, l with
   | .tmp t, .t p => p = jX t
   | .cell a t, .c1 p => p = jX a ∧ iZ P t = some false
   | .cell a t, .cn n p => p = jX a ∧ iZ P t = some true ∧ gP P t = some n
   | _, _ => False) ∧ sL P rs ls
 | _, _ => False
theorem b2I {α : Type} (l : List ResultVar) (K : List LRes → α) (no : α) : (∃ r, sL P l r ∧ yW P l K no = K r) ∨ yW P l K no = no := by
 induction l generalizing K with
 | nil => exact .inl ⟨[], trivial, rfl⟩
 | cons r l ih =>
   cases r with
   | tmp t =>
     have e : yW P (.tmp t :: l) K no = kP (jX t) fun p => yW P l (fun l => K (.t p :: l)) no := rfl
     rw [e, kN]
     rcases ih (fun l => K (.t (jX t) :: l)) with ⟨q, h1, h2⟩ | h2
     ·exact .inl ⟨.t (jX t) :: q, ⟨rfl, h1⟩, h2⟩
     ·exact .inr h2
   | cell a t =>
     have e : yW P (.cell a t :: l) K no = match iZ P t with
      | some true => a1N (gP P t) no fun n => kP (jX a) fun p => yW P l (fun l => K (.cn n p :: l)) no
      | some false => kP (jX a) fun p => yW P l (fun l => K (.c1 p :: l)) no
      | none => no := rfl
     rw [e]
     split
     ·rename_i ha
      cases hn : gP P t with
      | none => exact .inr rfl
      | some n =>
        rw [nR, kN]
        rcases ih (fun l => K (.cn n (jX a) :: l)) with ⟨q, h1, h2⟩ | h2
        ·exact .inl ⟨.cn n (jX a) :: q, ⟨⟨rfl, ha, hn⟩, h1⟩, h2⟩
        ·exact .inr h2
     ·rename_i ha
      rw [kN]
      rcases ih (fun l => K (.c1 (jX a) :: l)) with ⟨q, h1, h2⟩ | h2
      ·exact .inl ⟨.c1 (jX a) :: q, ⟨⟨rfl, ha⟩, h1⟩, h2⟩
      ·exact .inr h2
     ·exact .inr rfl
theorem a8T {H H1 : Heap} {f : Fr} {l : List Value} (hf : FAg f l) {r : ResultVar} {q : LRes} {rs : List ResultVar} {qs : List LRes} (h : sL P (r :: rs) (q :: qs)) {v : Value} (hv : (a2z H f q).Is v H1) : H1 = H ∧ a0b P l H r = some v ∧ sL P rs qs := by
 obtain ⟨h, hr⟩ := h
 cases r with
 | tmp t => cases q with
   | t p =>
     have h : p = jX t := h
     subst h
     have hv : (mT (mN (jX t) f) fun v => Rs.ok v H).Is v H1 := hv
     rw [lM] at hv
     obtain ⟨rfl, rfl⟩ := Rs.aJ hv
     exact ⟨rfl, by rw [hf t]; rfl, hr⟩
   | c1 p => exact h.elim
   | cn n p => exact h.elim
 | cell a t => cases q with
   | t p => exact h.elim
   | c1 p =>
     obtain ⟨rfl, ha⟩ := h
     obtain ⟨e, h1⟩ := a9w (P := P) (X := .t (jX a)) (w := get l a) ha (hf a) hv
     exact ⟨e, h1, hr⟩
   | cn n p =>
     obtain ⟨rfl, ha, hn⟩ := h
     obtain ⟨e, h1⟩ := a8V (P := P) (X := .t (jX a)) (w := get l a) ha hn (hf a) hv
     exact ⟨e, h1, hr⟩
theorem b6R {H : Heap} {f : Fr} {q : LRes} {v : Value} {H1 : Heap} : ¬ (a2z H f q = .th v H1) := by
 intro h
 cases q with
 | t p =>
   have h : (mT (mN p f) fun v => Rs.ok v H) = .th v H1 := h
   rw [lM] at h; cases h
 | c1 p =>
   have h : b0J (.t p) f H = .th v H1 := h
   unfold b0J at h
   split at h
   ·unfold b6S at h
    split at h
    ·rw [jN, jN, jN] at h
     split at h
     ·split at h
      ·split at h
       ·rename_i cs _ _ _ _ _ _ _ _
        cases hn : zM cs _ with
        | none => rw [hn] at h; cases h
        | some w => rw [hn] at h; have h : (mT w fun v => Rs.ok v H) = .th v H1 := h; rw [lM] at h; cases h
       ·cases h
      ·cases h
     ·cases h
    ·cases h
   ·unfold b9D at h
    split at h
    ·rw [jN] at h
     split at h
     ·rename_i cs _ _ _ _
      cases hn : zM cs _ with
      | none => rw [hn] at h; cases h
      | some w => rw [hn] at h; have h : (mT w fun v => Rs.ok v H) = .th v H1 := h; rw [lM] at h; cases h
     ·cases h
    ·cases h
   ·cases h
 | cn n p =>
   have hh : b1E n (.t p) f H = .th v H1 := h
   unfold b1E at hh
   split at hh
   ·unfold b5m at hh
    split at hh
    ·rw [jN, jN, jN] at hh
     split at hh
     ·split at hh
      ·split at hh
       ·have key : ∀ {cs : List Value} {n : Nat} {pre : List Value}, ¬ (a0t cs n fun l => Rs.ok (.agg ⟨pre ++ l⟩) H) = .th v H1 := by
         intro cs
         induction cs with
         | nil => intro n pre h; cases n <;> cases h
         | cons c cs ih =>
           intro n pre h
           cases n with
           | zero => cases h
           | succ n =>
             have h : (a0t cs n fun l => Rs.ok (.agg ⟨pre ++ (c :: l)⟩) H) = .th v H1 := h
             have e : ∀ l : List Value, pre ++ (c :: l) = (pre ++ [c]) ++ l := by intro l; simp
             have h2 : (a0t cs n fun l => Rs.ok (.agg ⟨(pre ++ [c]) ++ l⟩) H) = .th v H1 := by
              rw [← h]; congr 1; funext l; rw [e l]
             exact ih h2
        exact key (pre := []) hh
       ·cases hh
      ·cases hh
     ·cases hh
    ·cases hh
   ·cases hh
theorem a5q {H H1 : Heap} {f : Fr} {l : List Value} (hf : FAg f l) {v : Value} : ∀ {rs : List ResultVar} {qs : List LRes} {K : List Value → Rs}, sL P rs qs → (b3Q H f qs K).Is v H1 → ∃ vs, mB P l H rs = some vs ∧ (K vs).Is v H1
 | [], [], K, _, h => ⟨[], rfl, h⟩
 | [], _ :: _, _, h, _ => h.elim
 | _ :: _, [], _, h, _ => h.elim
 | r :: rs, q :: qs, K, hl, h => by
   have h : (Rs.rec (motive := fun _ => Rs) .no (fun v _ => b3Q H f qs fun l => K (v :: l)) (fun _ _ => .no) (a2z H f q)).Is v H1 := h
   cases hq : a2z H f q with
   | no => rw [hq] at h; exact absurd h Rs.aq
   | th w H2 => exact absurd hq b6R
   | ok w H2 =>
     rw [hq] at h
     obtain ⟨e, h1, h2⟩ := a8T hf hl (.inl hq)
     obtain ⟨vs, h3, h4⟩ := a5q hf h2 h
     exact ⟨w :: vs, by simp [mB, h1, h3], h4⟩
theorem b3B {fn : Func} {H H1 : Heap} {f : Fr} {l : List Value} (hf : FAg f l) {qs : List LRes} (hl : sL P fn.results.toList qs) {v : Value} (h : (a4z qs f H).Is v H1) : H1 = H ∧ gO P fn l H = some v := by
 unfold a4z at h
 split at h
 ·rename_i q
  cases hr : fn.results.toList with
  | nil => rw [hr] at hl; exact hl.elim
  | cons r rs =>
    rw [hr] at hl
    obtain ⟨e, h1, h2⟩ := a8T hf hl h
    cases rs with
    | cons _ _ => exact h2.elim
    | nil => exact ⟨e, by simp [gO, hr, mB, h1]⟩
 ·rename_i hne
  obtain ⟨vs, h1, h2⟩ := a5q hf hl h
  obtain ⟨h3, h4⟩ := kG h2
  obtain ⟨rfl, rfl⟩ := Rs.aJ h4
  refine ⟨rfl, ?_⟩
  have hlen : ∀ {rs : List ResultVar} {qs : List LRes}, sL P rs qs → rs.length = qs.length := by
   intro rs
   induction rs with
   | nil => intro qs h; cases qs with | nil => rfl | cons => exact h.elim
   | cons r rs ih => intro qs h; cases qs with | nil => exact h.elim | cons q qs => simp [ih h.2]
  have hvl : ∀ {rs : List ResultVar} {vs : List Value}, mB P l H1 rs = some vs → vs.length = rs.length := by
   intro rs
   induction rs with
   | nil => intro vs h; injection h with h; subst h; rfl
   | cons r rs ih =>
     intro vs h
     simp only [mB, cS, cY] at h
     obtain ⟨w, _, ws, h1, h2⟩ := h
     subst h2
     simp [ih h1]
  have hn1 : vs.length ≠ 1 := by
   rw [hvl h1, hlen hl]
   intro h1
   match qs, h1 with
   | [q], _ => exact hne q rfl
  unfold gO
  rw [h1, cR]
  rw [a8P] at h3
  have h3 : vs.all iW = true := by rw [← h3]; congr 1
  split
  ·exact absurd rfl hn1
  ·rw [if_pos h3]
structure FuncOk (P : Program) (f : FuncId) (g : LFunc) : Prop where
 ex : ∃ fn c, P.funcs[f]? = some fn ∧ fn.body = some c ∧ (fn.name == "runtime.NumGoroutine") = false ∧ g.ps = (List.range fn.ntmps).map jX ∧ Low P fn.ntmps c g.body ∧ sL P fn.results.toList g.res
def TOk (P : Program) (T : LT) : Prop := ∀ f g, a0R (jX f) T = some g → FuncOk P f g
def EOk (P : Program) (E : List LEnv) (H : Heap) : Prop := ∀ en ∈ E, en.L < H.length ∧ ∀ r, hK H en.L = some (.loop r) →
 ∃ k, en.ps = (List.range k).map jX ∧ r.tmps.size = k ∧ en.pp = r.params.toList.map jX ∧ (∀ t ∈ r.params.toList, t < k) ∧ Low P k r.assign en.a ∧ Low P k r.body en.b
theorem EOk.ae {E : List LEnv} {H H' : Heap} (h : EOk P E H) (hk : LK H H') : EOk P E H' := fun en hen => by
 obtain ⟨h1, h2⟩ := h en hen
 refine ⟨dB h1 hk.1, fun r' hr' => ?_⟩
 obtain ⟨r, hr, ea, eb, ep, et⟩ := hk.2 en.L r' h1 hr'
 obtain ⟨k, a, b, c, d, e, f⟩ := h2 r hr
 exact ⟨k, a, by rw [et]; exact b, by rw [ep]; exact c, by rw [ep]; exact d, by rw [ea]; exact e, by rw [eb]; exact f⟩
def a2G (P : Program) (ih : oI) : Prop := ∀ (E : List LEnv) (C : LCode) (k : Nat) (c : Code) (f : Fr) (l : List Value) (H : Heap) (e : Ex) (f1 : Fr) (H1 : Heap), Low P k c C → FRel k f l → EOk P E H → ih E C f H = .ok e f1 H1 →
 ∃ l1, FRel k f1 l1 ∧ Sim P c l H e l1 H1 ∧ LK H H1 ∧ ∀ b, c = .loop b → ∃ n, Rounds P b n l H e l1 H1
theorem xH {α : Type} {no : α} : ∀ {l : List Value} {i m : Nat} {f : Fr} {K : Fr → α}, (nM no l ((List.range' i m).map jX) f K = no) ∨ (l.length ≤ m ∧ ∃ f', nM no l ((List.range' i m).map jX) f K = K f' ∧ ∀ t, mN (jX t) f' = if i ≤ t ∧ t < i + l.length then get l (t - i) else mN (jX t) f)
 | [], i, m, f, K => .inr ⟨ey _, f, rfl, fun t => by rw [if_neg (by simp only [eN]; omega)]⟩
 | v :: l, i, 0, f, K => .inl rfl
 | v :: l, i, m + 1, f, K => by
   have e : nM no (v :: l) ((List.range' i (m + 1)).map jX) f K = oC v (jX i) f fun f => nM no l ((List.range' (i + 1) m).map jX) f K := by
    rw [gb]; rfl
   rw [e, qK]
   rcases xH (l := l) (i := i + 1) (m := m) (f := b4Q f i v) (K := K) with h | ⟨h1, f', h2, h3⟩
   ·exact .inl h
   ·refine .inr ⟨by simp; omega, f', h2, fun t => ?_⟩
    rw [h3 t, a2h]
    by_cases ht : t = i
    ·subst ht
     rw [if_neg (by omega), if_pos rfl, if_pos (by simp), Nat.sub_self]; rfl
    ·rw [if_neg ht]
     by_cases h4 : i + 1 ≤ t ∧ t < i + 1 + l.length
     ·rw [if_pos h4, if_pos (by simp; omega)]
      rw [show t - i = (t - (i + 1)) + 1 by omega]; rfl
     ·rw [if_neg h4, if_neg (by simp; omega)]
theorem tY {α : Type} {no : α} {k : Nat} : ∀ {args : List Value} {ps : List Tmp} {f : Fr} {l : List Value} {K : Fr → α}, FRel k f l → (∀ t ∈ ps, t < k) → args.length = ps.length →
 ∃ f', nM no args (ps.map jX) f K = K f' ∧ FRel k f' ((ps.zip args).foldl (fun t (p, v) => t.set p v) l)
 | [], [], f, l, K, hf, _, _ => ⟨f, rfl, hf⟩
 | v :: args, p :: ps, f, l, K, hf, hp, he => by
   have e : nM no (v :: args) ((p :: ps).map jX) f K = oC v (jX p) f fun f => nM no args (ps.map jX) f K := rfl
   rw [e, qK]
   exact tY (hf.set (hp p (by simp)) v) (fun t ht => hp t (by simp [ht])) (by simpa using he)
 | [], _ :: _, _, _, _, _, _, he => by simp at he
 | _ :: _, [], _, _, _, _, _, he => by simp at he
theorem yF (l : List Value) (n t : Nat) : get (l ++ List.replicate n undef) t = get l t := by
 rw [mW, mW]
 simp only [cV]
 by_cases h : t < l.length
 ·rw [dR h]
 ·rw [dU (by omega), dL (l := l) (by omega), gr]
  split <;> rfl
theorem xB {T : LT} (hT : TOk P T) {ih : oI} (hih : a2G P ih) {E : List LEnv} {p : Pth} {f : FuncId} {args : List Value} {H H1 : Heap} {v : Value} (hE : EOk P E H) (hp : p = jX f) (h : (lP T ih E p args H).Is v H1) :
 FnS P f args H (fun v' H' => v' = v ∧ H' = H1) ∧ LK H H1 := by
 unfold lP at h
 split at h
 case h_2 => exact absurd h Rs.aq
 rename_i g hg
 subst hp
 obtain ⟨fn, c, hfn, hb, hn, hps, hlow, hres⟩ := (hT f g hg).ex
 rw [hps] at h
 rw [fp] at h
 rcases xH (no := Rs.no) (l := args) (i := 0) (m := fn.ntmps) (f := .e) (K := fun f => b9n g.res (ih E g.body f H)) with h1 | ⟨h1, f0, h2, h3⟩
 ·rw [h1] at h; exact absurd h Rs.aq
 ·rw [h2] at h
  have hf0 : FRel fn.ntmps f0 (args ++ List.replicate (fn.ntmps - args.length) undef) := by
   refine ⟨by simp; omega, fun t => ?_⟩
   rw [h3 t, yF]
   by_cases ht : t < args.length
   ·rw [if_pos (by omega)]; rfl
   ·rw [if_neg (by omega), sX, mW, cV, dL (by omega)]; try rfl
  cases hr : ih E g.body f0 H with
  | no => rw [hr] at h; exact absurd h Rs.aq
  | ok e f1 H2 =>
    rw [hr] at h
    obtain ⟨l1, hf1, hs, hk, _⟩ := hih E g.body fn.ntmps c f0 _ H e f1 H2 hlow hf0 hE hr
    have key : (e = .normal ∨ e = .ret) → (a4z g.res f1 H2).Is v H1 → FnS P f args H (fun v' H' => v' = v ∧ H' = H1) ∧ LK H H1 := by
     intro he hv
     obtain ⟨rfl, hv⟩ := b3B hf1.2 hres hv
     exact ⟨⟨fn, c, e, l1, H1, v, hfn, hb, hn, hs, he, hv, rfl, rfl⟩, hk⟩
    cases e with
    | normal => exact key (.inl rfl) h
    | ret => exact key (.inr rfl) h
    | exit id => exact absurd h Rs.aq
theorem b4S {T : LT} (hT : TOk P T) {ih : oI} (hih : a2G P ih) {E : List LEnv} {p : Pth} {f : FuncId} {args : List Value} {H H1 : Heap} {v : Value} (hE : EOk P E H) (hp : p = jX f) (h : (b1U P T ih E p f args H).Is v H1) :
 (FnS P f args H (fun v' H' => v' = v ∧ H' = H1) ∨ oP P f args H = some (v, H1)) ∧ LK H H1 := by
 unfold b1U at h
 cases hg : a0R p T with
 | some g =>
   rw [hg] at h
   obtain ⟨a, b⟩ := xB (H1 := H1) (v := v) hT hih hE hp (by unfold lP; rw [hg]; exact h)
   exact ⟨.inl a, b⟩
 | none =>
   rw [hg] at h
   have h : (b9A P f args H).Is v H1 := h
   unfold b9A at h
   split at h
   ·rename_i v2 H2 hx
    obtain ⟨rfl, rfl⟩ := Rs.aN h
    exact ⟨.inr hx, a3Y hx⟩
   ·exact absurd h Rs.aq
theorem a8c {E : List LEnv} {L : Nat} {en : LEnv} (h : b2V E L = some en) : en ∈ E ∧ en.L = L := by
 induction E with
 | nil => cases h
 | cons e E ih =>
   have h : mM (Nat.beq e.L L) (b2V E L) (some e) = some en := h
   rw [jN] at h
   split at h
   ·rename_i hh
    injection h with h
    subst h
    exact ⟨by simp, dF hh⟩
   ·obtain ⟨h1, h2⟩ := ih h
    exact ⟨ek _ h1, h2⟩
theorem a4P (e : Ex) : b7L e = pU e := by cases e <;> rfl
theorem a9Q {ih : oI} (hih : a2G P ih) {E : List LEnv} {L : Nat} {args : List Value} {H H1 : Heap} {v : Value} (hE : EOk P E H) (h : (a8i ih E L args H).Is v H1) : vU P L args H v H1 ∧ LK H H1 := by
 unfold a8i at h
 split at h
 case h_2 => exact absurd h Rs.aq
 rename_i en hen
 obtain ⟨hmem, rfl⟩ := a8c hen
 split at h
 case h_2 => exact absurd h Rs.aq
 rename_i p fn tmps ps a b d hg
 obtain ⟨hlen, h⟩ := kG h
 rw [vV] at hlen
 have hlen : ps.size = args.length := by simpa only [decide_eq_true_eq] using hlen
 obtain ⟨k, hps, hsz, hpp, hpk, hla, hlb⟩ := (hE en hmem).2 _ hg
 have hsz : tmps.length = k := by simpa using hsz
 rw [hps, fp] at h
 rcases xH (no := Rs.no) (l := tmps) (i := 0) (m := k) (f := .e) (K := fun f => nM .no args en.pp f fun f => qS ih E en (ih E en.a f H)) with h1 | ⟨h1, f0, h2, h3⟩
 ·rw [h1] at h; exact absurd h Rs.aq
 rw [h2] at h
 have hf0 : FRel k f0 tmps := by
  refine ⟨hsz, fun t => ?_⟩
  rw [h3 t]
  by_cases ht : t < tmps.length
  ·rw [if_pos (by omega)]; rfl
  ·rw [if_neg (by omega), sX, mW, cV, dL (by omega)]; try rfl
 rw [hpp] at h
 obtain ⟨f2, h4, hf2⟩ := tY (no := Rs.no) (args := args) (ps := ps.toList) (K := fun f => qS ih E en (ih E en.a f H)) hf0 hpk (by simpa using hlen.symm)
 have h : (nM Rs.no args (List.map jX ps.toList) f0 fun f => qS ih E en (ih E en.a f H)).Is v H1 := h
 rw [h4] at h
 cases hr1 : ih E en.a f2 H with
 | no => rw [hr1] at h; exact absurd h Rs.aq
 | ok e f3 H2 =>
   rw [hr1] at h
   obtain ⟨l3, hf3, hs1, hk1, _⟩ := hih E en.a k a f2 _ H e f3 H2 hla hf2 hE hr1
   cases e with
   | ret => exact absurd h Rs.aq
   | exit id => exact absurd h Rs.aq
   | normal =>
     have h : (yJ ih E en f3 H2).Is v H1 := h
     unfold yJ at h
     split at h
     case h_2 => exact absurd h Rs.aq
     rename_i p2 fn2 tmps2 ps2 a2 b2 d2 hg2
     rw [lA] at h
     obtain ⟨r0, hr0, ea, eb, ep, et⟩ := hk1.2 en.L _ (hE en hmem).1 hg2
     rw [hg] at hr0
     injection hr0 with hr0
     injection hr0 with hr0
     subst hr0
     have ea' : a2 = a := ea
     have eb' : b2 = b := eb
     have ep' : ps2 = ps := ep
     have et' : tmps2 = ⟨tmps⟩ := et
     clear ea eb ep et
     subst ea' eb' ep' et'
     have hk2 : LK H2 (hset H2 en.L (.loop ⟨.busy, p2, fn2, ⟨tmps⟩, ps2, a2, b2, d2⟩)) := .loop hg2 ⟨rfl, rfl, rfl, rfl⟩
     cases hr2 : ih E en.b f3 (hset H2 en.L (.loop ⟨.busy, p2, fn2, ⟨tmps⟩, ps2, a2, b2, d2⟩)) with
     | no => rw [hr2] at h; exact absurd h Rs.aq
     | ok e f4 H3 =>
       rw [hr2] at h
       obtain ⟨l4, _, hs2, hk3, _⟩ := hih E en.b k b2 f3 _ _ e f4 H3 hlb hf3 (hE.ae (hk1.trans hk2)) hr2
       have h : (a0Q en.L e H3).Is v H1 := h
       unfold a0Q at h
       split at h
       case h_2 => exact absurd h Rs.aq
       rename_i st3 p3 fn3 tmps3 ps3 a3 b3 d3 hg3
       have fin : ∀ r', H1 = hset H3 en.L (.loop r') → (r' = { (⟨st3, p3, fn3, tmps3, ps3, a3, b3, d3⟩ : Loop) with state := if (pU e).isNone then .ready else .done, pending := pU e }) → v = .bool (pU e).isNone → vU P en.L args H v H1 ∧ LK H H1 := by
        intro r' hH hr' hv
        refine ⟨?_, hk1.trans (hk2.trans (hk3.trans (by rw [hH]; exact .loop hg3 (by rw [hr']; exact ⟨rfl, rfl, rfl, rfl⟩))))⟩
        have hW := yR (P := P) (args := args) (K := fun v' H' => v' = v ∧ H' = H1) hg hlen rfl
         ⟨.normal, l3, H2, hs1, rfl, _, hg2, rfl, e, l4, H3, hs2, _, hg3, hv.symm, by rw [hH, hr']⟩
        obtain ⟨v', H', h1, rfl, rfl⟩ := hW
        exact h1
       split at h
       ·rename_i hj
        obtain ⟨rfl, rfl⟩ := Rs.aN h
        rw [a4P] at hj
        exact fin _ rfl (by rw [hj]; rfl) (by rw [hj]; rfl)
       ·rename_i c hj
        obtain ⟨rfl, rfl⟩ := Rs.aN h
        rw [a4P] at hj
        exact fin _ rfl (by rw [hj]; rfl) (by rw [hj]; rfl)
theorem a2q {T : LT} (hT : TOk P T) {ih : oI} (hih : a2G P ih) {E : List LEnv} {H0 : Heap} (hE : EOk P E H0) : CallsOk P (yL P T ih E) H0 where
 fn p f args H v H1 hk h hp := b4S hT hih (hE.ae hk) hp h
 rd L args H v H1 hk h := a9Q hih (hE.ae hk) h
theorem b9i {α : Type} {f : Fr} {l : List Value} (hf : FAg f l) (i m : Nat) (K : List Value → α) : frL f ((List.range' i m).map jX) K = K ((List.range' i m).map (get l)) := by
 induction m generalizing i K with
 | zero => rfl
 | succ m ih =>
   have e : frL f ((List.range' i (m + 1)).map jX) K = mT (mN (jX i) f) fun v => frL f ((List.range' (i + 1) m).map jX) fun l => K (v :: l) := by
    rw [gb]; rfl
   rw [e, lM, ih, hf i, gb]; rfl
theorem b7p {α : Type} {k : Nat} {f : Fr} {l : List Value} (hf : FRel k f l) (K : List Value → α) : frL f ((List.range k).map jX) K = K l := by
 rw [fp, b9i hf.2, ← fp]
 congr 1
 apply fW
 intro i
 rw [dX]
 by_cases hi : i < k
 ·rw [gi hi, dy, mW, cV]
  have : i < l.length := by rw [hf.1]; exact hi
  simp [db this]
 ·rw [dL (by simp; omega), dL (by rw [hf.1]; omega)]; rfl
theorem a9R {T : LT} (hT : TOk P T) {ih : oI} (hih : a2G P ih) {E : List LEnv} {k : Nat} {g : Operand} {ps : Array Tmp} {assign body : Code} {A B : LCode} (hg : gY g = true) (hps : ∀ t ∈ ps.toList, t < k) (ha : Low P k assign A) (hb : Low P k body B)
 {x1 x2 : Fr → Heap → Rc} {f : Fr} {l : List Value} {H : Heap} {e : Ex} {f1 : Fr} {H1 : Heap} (hf : FRel k f l) (hE : EOk P E H) (h : a7J T ih E (iC g) ((List.range k).map jX) (ps.toList.map jX) ps assign body A B x1 x2 f H = .ok e f1 H1) :
 f1 = f ∧ Sim P (.rangeFunc g ps assign body) l H e l H1 ∧ LK H H1 := by
 unfold a7J at h
 rw [iV hf.2] at h
 split at h
 case h_2 => cases h
 rename_i j xa xb hgv
 rw [jB, b7p hf, lA, jB] at h
 unfold a9a at h
 rw [kN] at h
 generalize hH0 : H.cons (.loop ⟨.ready, none, 0, ⟨l⟩, ps, assign, body, 0⟩) = H0 at h
 have hl0 : (⟨.ready, none, 0, ⟨l⟩, ps, assign, body, 0⟩ : Loop) = a9l l ps assign body := rfl
 have hE0 : EOk P (⟨H.length, (List.range k).map jX, ps.toList.map jX, A, B⟩ :: E) H0 := by
  intro en hen
  rcases dK.1 hen with rfl | hen
  ·refine ⟨by rw [← hH0, length_cons]; exact Nat.lt_succ_self _, fun r hr => ?_⟩
   rw [← hH0, gX] at hr
   injection hr with hr
   injection hr with hr
   subst hr
   exact ⟨k, rfl, by simpa using hf.1, rfl, hps, ha, hb⟩
  ·exact (hE.ae (by rw [← hH0]; exact .cons _ _)) en hen
 have key : ∀ v H2, (lP T ih (⟨H.length, (List.range k).map jX, ps.toList.map jX, A, B⟩ :: E) (jX j) (a3b xa (.func (.yield H.length) #[] #[] :: xb)) H0).Is v H2 → sQ H.length f H2 = .ok e f1 H1 → f1 = f ∧ Sim P (.rangeFunc g ps assign body) l H e l H1 ∧ LK H H1 := by
  intro v H2 hc hr
  obtain ⟨hfn, hk⟩ := xB hT hih hE0 rfl hc
  have hargs : a3b xa (.func (.yield H.length) #[] #[] :: xb) = xa ++ [.func (.yield H.length) #[] #[]] ++ xb := by rw [wL]; simp
  rw [hargs, ← hH0, hl0] at hfn
  have fin : ∀ (r : Loop) (H3 : Heap), hK H2 H.length = some (.loop r) → r.state ≠ .busy → H3 = hset H2 H.length (.loop { r with state := .exhausted }) → (r.pending = none → e = .normal) → (∀ c, r.pending = some c → (c = .ret ∧ e = .ret) ∨ ∃ id, c = .exit id ∧ e = .exit id) → f1 = f → H1 = H3 →
   f1 = f ∧ Sim P (.rangeFunc g ps assign body) l H e l H1 ∧ LK H H1 := by
   intro r H3 hrl hnb hH3 hp0 hp1 he1 he2
   have hw : Wp P (.rangeFunc g ps assign body) l H (fun e' l' H' => e' = e ∧ l' = l ∧ H' = H3) := by
    refine Wp.range (first := xa) (captured := xb) hg (by rw [hgv]) (hfn.mono ?_)
    rintro v' H' ⟨rfl, rfl⟩
    refine ⟨r, hrl, hnb, fun hp => ⟨(hp0 hp).symm, rfl, hH3.symm⟩, fun c hc => ?_⟩
    rcases hp1 c hc with ⟨rfl, he⟩ | ⟨id, rfl, he⟩
    ·exact Wp.ret ⟨he.symm, rfl, hH3.symm⟩
    ·exact Wp.exit ⟨he.symm, rfl, hH3.symm⟩
   obtain ⟨e', l', H', hs, rfl, rfl, rfl⟩ := hw
   refine ⟨he1, by rw [he2]; exact hs, ?_⟩
   rw [he2, hH3]
   have h1 : LK H H0 := by rw [← hH0]; exact .cons _ _
   exact h1.trans (hk.trans (.loop hrl ⟨rfl, rfl, rfl, rfl⟩))
  unfold sQ at hr
  split at hr
  ·rename_i hg2
   rw [lA] at hr
   injection hr with h1 h2 h3
   exact fin _ _ hg2 (by simp) rfl (fun _ => h1.symm) (fun c hc => by cases hc) h2.symm h3.symm
  ·rename_i hg2
   rw [lA] at hr
   injection hr with h1 h2 h3
   exact fin _ _ hg2 (by simp) rfl (fun _ => h1.symm) (fun c hc => by cases hc) h2.symm h3.symm
  ·rename_i hg2
   rw [lA] at hr
   injection hr with h1 h2 h3
   exact fin _ _ hg2 (by simp) rfl (fun hc => by cases hc) (fun c hc => by injection hc with hc; subst hc; exact .inl ⟨rfl, h1.symm⟩) h2.symm h3.symm
  ·rename_i hg2
   rw [lA] at hr
   injection hr with h1 h2 h3
   exact fin _ _ hg2 (by simp) rfl (fun hc => by cases hc) (fun c hc => by injection hc with hc; subst hc; exact .inr ⟨_, rfl, h1.symm⟩) h2.symm h3.symm
  ·cases hr
 cases hc : lP T ih (⟨H.length, (List.range k).map jX, ps.toList.map jX, A, B⟩ :: E) (jX j) (a3b xa (.func (.yield H.length) #[] #[] :: xb)) H0 with
 | no => rw [hc] at h; cases h
 | ok v H2 => rw [hc] at h; exact key v H2 (.inl hc) h
 | th v H2 =>
   rw [hc] at h
   have h : mH H2 (fun H => sQ _ f H) = .ok e f1 H1 := h
   rw [lA] at h
   exact key v H2 (.inr hc) h
theorem b8z (jM : P.follows .mixedOrders = true) {T : LT} (hT : TOk P T) : ∀ n, a2G P (zJ P T n) := by
 intro n
 induction n with
 | zero => intro E C k c f l H e f1 H1 _ _ _ h; cases h
 | succ n ih =>
   intro E C k c f l H e f1 H1 hlow hf hE h
   have h : a9C P T (zJ P T n) E C f H = .ok e f1 H1 := h
   have noloop : ∀ {c : Code}, (∀ b, c ≠ .loop b) → ∀ {l1 : List Value}, ∀ b, c = .loop b → ∃ n, Rounds P b n l H e l1 H1 := fun hne _ b hb => absurd hb (hne b)
   cases hlow with
   | bad => cases h
   | skip =>
     injection h with h1 h2 h3; subst h1 h2 h3
     exact ⟨l, hf, .skip l H, .refl H, noloop (by intro b h; cases h)⟩
   | label t =>
     injection h with h1 h2 h3; subst h1 h2 h3
     exact ⟨l, hf, .label t l H, .refl H, noloop (by intro b h; cases h)⟩
   | exit id =>
     injection h with h1 h2 h3; subst h1 h2 h3
     exact ⟨l, hf, .exit id l H, .refl H, noloop (by intro b h; cases h)⟩
   | ret =>
     injection h with h1 h2 h3; subst h1 h2 h3
     exact ⟨l, hf, .ret l H, .refl H, noloop (by intro b h; cases h)⟩
   | @reg id ops d lo hlo hd =>
     have h : c0O (vY P (yL P T (zJ P T n) E) lo f H) = .ok e f1 H1 := h
     cases hr : vY P (yL P T (zJ P T n) E) lo f H with
     | no => rw [hr] at h; cases h
     | ok f2 H2 =>
       rw [hr] at h
       injection h with h1 h2 h3; subst h1 h2 h3
       obtain ⟨l1, hf1, hops, hk⟩ := b5G (a2q hT ih hE) hlo (i := 0) rfl hf (.refl H) hr
       have hops : OpsR P ops (List.range ops.size) l H l1 H2 := by rw [fp]; simpa using hops
       refine ⟨l1, hf1, ?_, hk, noloop (by intro b h; cases h)⟩
       cases d with
       | false => exact .region hops
       | true => exact .bU jM (hd rfl) hops
   | drw hlo ht hl =>
     obtain ⟨l1, rfl, hf1, hs, hk⟩ := b7t jM (a2q hT ih hE) hlo ht hl hf h
     exact ⟨l1, hf1, hs, hk, noloop (by intro b h; cases h)⟩
   | @seq a b A B ha hb =>
     have h : b6e (zJ P T n) E B (zJ P T n E A f H) = .ok e f1 H1 := h
     cases hr : zJ P T n E A f H with
     | no => rw [hr] at h; cases h
     | ok e2 f2 H2 =>
       rw [hr] at h
       obtain ⟨l2, hf2, hs, hk, _⟩ := ih E A k a f l H e2 f2 H2 ha hf hE hr
       cases e2 with
       | normal =>
         obtain ⟨l1, hf1, hs1, hk1, _⟩ := ih E B k b f2 l2 H2 e f1 H1 hb hf2 (hE.ae hk) h
         exact ⟨l1, hf1, .seq hs hs1, hk.trans hk1, noloop (by intro b h; cases h)⟩
       | ret =>
         injection h with h1 h2 h3; subst h1 h2 h3
         exact ⟨l2, hf2, .seq' hs (by intro h; cases h), hk, noloop (by intro b h; cases h)⟩
       | exit id =>
         injection h with h1 h2 h3; subst h1 h2 h3
         exact ⟨l2, hf2, .seq' hs (by intro h; cases h), hk, noloop (by intro b h; cases h)⟩
   | @cond c x y X Y hc hx hy =>
     have h : b2r (zJ P T n) E (iC c) X Y (a9C P T (zJ P T n) E X) (a9C P T (zJ P T n) E Y) f H = .ok e f1 H1 := h
     unfold b2r at h
     rw [iV hf.2] at h
     split at h
     ·rename_i t ht
      cases t with
      | true =>
        obtain ⟨l1, hf1, hs, hk, _⟩ := ih E X k x f l H e f1 H1 hx hf hE h
        exact ⟨l1, hf1, .cond ht hc hs, hk, noloop (by intro b h; cases h)⟩
      | false =>
        obtain ⟨l1, hf1, hs, hk, _⟩ := ih E Y k y f l H e f1 H1 hy hf hE h
        exact ⟨l1, hf1, .cond ht hc hs, hk, noloop (by intro b h; cases h)⟩
     ·cases h
   | @block id b B hb =>
     have h : c0N id (zJ P T n E B f H) = .ok e f1 H1 := h
     cases hr : zJ P T n E B f H with
     | no => rw [hr] at h; cases h
     | ok e2 f2 H2 =>
       rw [hr] at h
       obtain ⟨l2, hf2, hs, hk, _⟩ := ih E B k b f l H e2 f2 H2 hb hf hE hr
       have hs' : Sim P (.block id b) l H (e2.out id) l2 H2 := .block hs
       cases e2 with
       | normal => injection h with h1 h2 h3; subst h1 h2 h3; exact ⟨l2, hf2, hs', hk, noloop (by intro b h; cases h)⟩
       | ret => injection h with h1 h2 h3; subst h1 h2 h3; exact ⟨l2, hf2, hs', hk, noloop (by intro b h; cases h)⟩
       | exit i =>
         have h : Rc.ok (Bool.rec (motive := fun _ => Ex) (.exit i) .normal (Nat.beq i id)) f2 H2 = .ok e f1 H1 := h
         injection h with h1 h2 h3; subst h2 h3
         have : (Ex.exit i).out id = e := by
          rw [← h1]
          by_cases hi : i = id
          ·subst hi; simp [Ex.out]
          ·have : Nat.beq i id = false := fE.2 fun e => hi (dF e)
           simp [Ex.out, hi, this]
         rw [this] at hs'
         exact ⟨l2, hf2, hs', hk, noloop (by intro b h; cases h)⟩
   | @loop b B hb =>
     have h : b6e (zJ P T n) E (.loop B) (zJ P T n E B f H) = .ok e f1 H1 := h
     cases hr : zJ P T n E B f H with
     | no => rw [hr] at h; cases h
     | ok e2 f2 H2 =>
       rw [hr] at h
       obtain ⟨l2, hf2, hs, hk, _⟩ := ih E B k b f l H e2 f2 H2 hb hf hE hr
       have last : e2 ≠ .normal → e2 = e → f2 = f1 → H2 = H1 → ∃ l1, FRel k f1 l1 ∧ Sim P (.loop b) l H e l1 H1 ∧ LK H H1 ∧ ∀ b', Code.loop b = .loop b' → ∃ n, Rounds P b' n l H e l1 H1 := by
        intro hne h1 h2 h3
        subst h1 h2 h3
        have hr : Rounds P b 1 l H e2 l2 H2 := .last hs hne
        exact ⟨l2, hf2, .loop hr, hk, fun b' hb' => by injection hb' with hb'; subst hb'; exact ⟨1, hr⟩⟩
       cases e2 with
       | normal =>
         obtain ⟨l1, hf1, hs1, hk1, hro⟩ := ih E (.loop B) k (.loop b) f2 l2 H2 e f1 H1 (.loop hb) hf2 (hE.ae hk) h
         obtain ⟨m, hm⟩ := hro b rfl
         have hr : Rounds P b (m + 1) l H e l1 H1 := .more hs hm
         exact ⟨l1, hf1, .loop hr, hk.trans hk1, fun b' hb' => by injection hb' with hb'; subst hb'; exact ⟨_, hr⟩⟩
       | ret => injection h with h1 h2 h3; exact last (by intro h; cases h) h1 h2 h3
       | exit id => injection h with h1 h2 h3; exact last (by intro h; cases h) h1 h2 h3
   | range hg hps ha hb =>
     obtain ⟨rfl, hs, hk⟩ := a9R (x1 := fun _ _ => .no) (x2 := fun _ _ => .no) hT ih hg hps ha hb hf hE h
     exact ⟨l, hf, hs, hk, noloop (by intro b h; cases h)⟩
theorem vR {α : Type} (v : LFunc) (p : Pth) (f : LT) (K : LT → α) : qC v p f K = K (qC v p f fun f => f) := by
 induction p generalizing f α with
 | z => cases f <;> rfl
 | l p ih =>
   cases f with
   | e =>
     show qC v p .e (fun l => K (.n none l .e)) = K (qC v p .e fun l => .n none l .e)
     rw [ih, ih (K := fun l => LT.n none l .e)]
   | n w l r =>
     show qC v p l (fun l => K (.n w l r)) = K (qC v p l fun l => .n w l r)
     rw [ih, ih (K := fun l => LT.n w l r)]
 | r p ih =>
   cases f with
   | e =>
     show qC v p .e (fun l => K (.n none .e l)) = K (qC v p .e fun l => .n none .e l)
     rw [ih, ih (K := fun l => LT.n none .e l)]
   | n w l r =>
     show qC v p r (fun r => K (.n w l r)) = K (qC v p r fun r => .n w l r)
     rw [ih, ih (K := fun r => LT.n w l r)]
theorem uS (p : Pth) : a0R p .e = none := by cases p <;> rfl
theorem a9X (v : LFunc) (p q : Pth) (f : LT) {g : LFunc} (h : a0R q (qC v p f fun f => f) = some g) : (q = p ∧ g = v) ∨ a0R q f = some g := by
 induction p generalizing f q with
 | z =>
   cases q with
   | z => left; refine ⟨rfl, ?_⟩; cases f <;> (injection h with h; exact h.symm)
   | l q => right; cases f with
     | e => have h : a0R q .e = some g := h
            rw [uS] at h; cases h
     | n => exact h
   | r q => right; cases f with
     | e => have h : a0R q .e = some g := h
            rw [uS] at h; cases h
     | n => exact h
 | l p ih =>
   have h1 : ∀ f, qC v (.l p) f (fun f => f) = match f with | .e => .n none (qC v p .e fun f => f) .e | .n w l r => .n w (qC v p l fun f => f) r := fun f => by
    cases f with
    | e => exact vR v p .e fun l => LT.n none l .e
    | n w l r => exact vR v p l fun l => LT.n w l r
   rw [h1] at h
   cases q with
   | z => right; cases f with
     | e => exact h
     | n => exact h
   | r q => right; cases f with
     | e => have h : a0R q .e = some g := h
            rw [uS] at h; cases h
     | n => exact h
   | l q =>
     cases f with
     | e =>
       rcases ih q .e h with ⟨rfl, hq⟩ | h
       ·exact .inl ⟨rfl, hq⟩
       ·rw [uS] at h; cases h
     | n w l r =>
       rcases ih q l h with ⟨rfl, hq⟩ | h
       ·exact .inl ⟨rfl, hq⟩
       ·exact .inr h
 | r p ih =>
   have h1 : ∀ f, qC v (.r p) f (fun f => f) = match f with | .e => .n none .e (qC v p .e fun f => f) | .n w l r => .n w l (qC v p r fun f => f) := fun f => by
    cases f with
    | e => exact vR v p .e fun l => LT.n none .e l
    | n w l r => exact vR v p r fun r => LT.n w l r
   rw [h1] at h
   cases q with
   | z => right; cases f with
     | e => exact h
     | n => exact h
   | l q => right; cases f with
     | e => have h : a0R q .e = some g := h
            rw [uS] at h; cases h
     | n => exact h
   | r q =>
     cases f with
     | e =>
       rcases ih q .e h with ⟨rfl, hq⟩ | h
       ·exact .inl ⟨rfl, hq⟩
       ·rw [uS] at h; cases h
     | n w l r =>
       rcases ih q r h with ⟨rfl, hq⟩ | h
       ·exact .inl ⟨rfl, hq⟩
       ·exact .inr h
theorem b1H {α : Type} (f : FuncId) (no : α) (K : LFunc → α) : (∃ g, FuncOk P f g ∧ a0z P f no K = K g) ∨ a0z P f no K = no := by
 unfold a0z
 split
 ·rename_i fn hfn
  split
  ·rename_i c hb
   rw [jN]
   split
   ·exact .inr rfl
   ·rename_i hn
    rcases b2I (P := P) fn.results.toList (fun res => b0P fn.ntmps fun ps => lY P fn.ntmps c fun b => K ⟨ps, b, res⟩) no with ⟨res, hres, h1⟩ | h1
    ·rw [h1, a9o]
     obtain ⟨C, hC, h2⟩ := a9H (P := P) fn.ntmps c (fun b => K ⟨(List.range fn.ntmps).map jX, b, res⟩)
     exact .inl ⟨⟨_, C, res⟩, ⟨fn, c, hfn, hb, by simpa using hn, rfl, hC, hres⟩, h2⟩
    ·exact .inr h1
  ·exact .inr rfl
 ·exact .inr rfl
theorem b4P {α : Type} (fs : List FuncId) (T : LT) (hT : TOk P T) (K : LT → α) : ∃ T', TOk P T' ∧ rM P fs T K = K T' := by
 induction fs generalizing T with
 | nil => exact ⟨T, hT, rfl⟩
 | cons f fs ih =>
   have e : rM P (f :: fs) T K = a0z P f (rM P fs T K) fun g => kP (jX f) fun p => qC g p T fun T => rM P fs T K := rfl
   rw [e]
   rcases b1H (P := P) f (rM P fs T K) (fun g => kP (jX f) fun p => qC g p T fun T => rM P fs T K) with ⟨g, hg, h⟩ | h
   ·rw [h, kN, vR]
    refine ih _ fun f' g' h' => ?_
    rcases a9X g (jX f) (jX f') T h' with ⟨he, rfl⟩ | h'
    ·rw [a8L he]; exact hg
    ·exact hT f' g' h'
   ·rw [h]; exact ih T hT
end Go.Ds
namespace Go.Ds
open Go.Proofs Go.Proofs.Tryz
def t64 : List Nat := [0, 1, 56, 2, 57, 49, 28, 3, 61, 58, 42, 50, 38, 29, 17, 4, 62, 47, 59, 36, 45, 43, 51, 22, 53, 39, 33, 30, 24, 18, 12, 5, 63, 55, 48, 27, 60, 41, 37, 16, 46, 35, 44, 21, 52, 32, 23, 11, 54, 26, 40, 15, 34, 20, 31, 10, 25, 14, 19, 9, 13, 8, 7, 6]
def t32 : List Nat := [0, 1, 28, 2, 29, 14, 24, 3, 30, 22, 20, 15, 25, 17, 4, 8, 31, 27, 13, 23, 21, 19, 16, 7, 26, 12, 18, 6, 11, 5, 10, 9]
noncomputable def gH : Heap := ((((((Heap.nil.cons (.cells (t64.map fun (n : Nat) => Value.int .u8 (.ofNat n)) 5 false 0 1)).cons (.cells [] 3 false 0 1)).cons (.cells [] 310 false 0 1)).cons (.cells [] 310 false 0 1)).cons (.cells ([1, 10, 100, 1000, 10000, 100000, 1000000, 10000000, 100000000, 1000000000, 10000000000, 100000000000, 1000000000000, 10000000000000, 100000000000000, 1000000000000000, 10000000000000000, 100000000000000000, 1000000000000000000, 10000000000000000000].map fun (n : Nat) => Value.int .u64 (.ofNat n)) 28 false 0 1)).cons (.cells (t32.map fun (n : Nat) => Value.int .u8 (.ofNat n)) 5 false 0 1))
theorem c2o : prog.follows .mixedOrders = true := by kernel_rfl
def b0f : Nat → Nat → List UInt8 → List UInt8
 | 0, _, acc => acc
 | f + 1, n, acc => if n < 10 then (48 + n).toUInt8 :: acc else b0f f (n / 10) ((48 + n % 10).toUInt8 :: acc)
def nQ (n : Nat) : ByteArray := ⟨(b0f 100 n []).toArray⟩
theorem a2X {b : ByteArray} {n : Nat} (h : b.data.toList = b0f 100 n []) : b = nQ n := by
 cases b with | mk d => cases d with | mk l => simp only at h; subst h; rfl
def a9x (r : Rs) (n : Nat) : Bool := match r with
 | .ok (.string b) _ => decide (b.data.toList = b0f 100 n [])
 | .th (.string b) _ => decide (b.data.toList = b0f 100 n [])
 | _ => false
def b6t (v : Value) (n : Nat) : Bool := match v with
 | .tuple vs => match vs.toList with
   | [.string b, .int .i64 m] => decide (m = 0) && decide (b.data.toList = b0f 100 n [])
   | _ => false
 | _ => false
def b3Y (r : Rs) (n : Nat) : Bool := match r with
 | .ok v _ => b6t v n
 | .th v _ => b6t v n
 | _ => false
def b3q (r : Rs) (n : Int) : Bool := match r with
 | .ok (.int .i64 m) _ => decide (m = n)
 | .th (.int .i64 m) _ => decide (m = n)
 | _ => false
noncomputable def b8a (ps : List Nat) : Bool := rM prog [168, 150, 189, 206, 242, 256, 263, 264, 265, 266, 272, 273, 274, 275, 279] .e fun T => ps.all fun x => a9x (lP T (zJ prog T 4000) [] (jX 150) [.int .i64 x] gH) x
def fsP : List Nat := [168, 254, 238, 240, 186, 149, 189, 253, 268, 229, 230, 202, 203, 204, 205, 209, 267, 276, 235, 236, 237, 239, 241, 222, 243, 251, 252, 255, 247, 263, 264, 265, 266, 272, 273, 274, 275, 279]
noncomputable def sP (ps : List Nat) : Bool := rM prog fsP .e fun T => ps.all fun x => b3Y (lP T (zJ prog T 4000) [] (jX 149) [.string (nQ x), .int .i64 24] gH) (x ^ 24)
def fsM : List Nat := [168, 254, 238, 240, 186, 150, 151, 189, 206, 253, 268, 229, 230, 202, 203, 204, 205, 207, 209, 242, 267, 276, 235, 236, 237, 239, 241, 222, 243, 256, 251, 252, 255, 247, 263, 264, 265, 266, 272, 273, 274, 275, 279]
noncomputable def kY (ps : List (Nat × Nat)) : Bool := rM prog fsM .e fun T => ps.all fun x => a9x (lP T (zJ prog T 4000) [] (jX 151) [.string (nQ x.1), .string (nQ x.2)] gH) (x.1 * x.2)
def qF (t : Nat × Nat) : List (Nat × Nat) := (t.1 ^ 24, 2) :: (List.range t.2).map fun k => (2 * t.1 ^ 24 * 4 ^ k, 4)
def a4V (t : Nat × Nat × Nat) : List (Nat × Nat) := (List.range (t.2.2 + 1)).map fun k => (t.1 ^ 24, 2 * t.2.1 ^ 24 * 4 ^ k)
def b4w (a b : Nat) : Int := if a < b then -1 else if b < a then 1 else 0
noncomputable def sN (ps : List (Nat × Nat)) : Bool := rM prog [152, 208, 209, 210, 222, 243, 244, 247, 257] .e fun T => ps.all fun x => b3q (lP T (zJ prog T 4000) [] (jX 152) [.string (nQ x.1), .string (nQ x.2)] gH) (b4w x.1 x.2)
end Go.Ds
namespace Go.Ds
open Go.RowKit Go.Proofs
section
variable {P : Program} {ρ : Rho} {H : Heap} {w : World}
theorem a2H {name : String} {g : Nat} {k : IntKind} {zs : List Int} (hg : P.globalNamed name = some g) (ht : Lib.TabIs P w name k zs) : ∃ t fr, w.heap[g]? = some (.cells (zs.map fun z => Value.int k z).toArray t fr) := by
 unfold Lib.TabIs World.var? at ht
 rw [hg, cR] at ht
 split at ht
 ·rename_i cs t fr hb
  obtain rfl := cQ ht
  exact ⟨t, fr, hb⟩
 ·cases ht
theorem InW.cH (h : InW P ρ H w) {name : String} {g : Nat} {k : IntKind} {zs : List Int} {ty : TypeId} (hg : P.globalNamed name = some g) (ht : Lib.TabIs P w name k zs) (hgH : g = H.length) (hty : gP P ty = some 1) :
 InW P (ρ.put H.length (zs.map fun z => Value.int k z).length ⟨g, 0, zs.length, 1⟩) (H.cons (.cells (zs.map fun z => Value.int k z) ty false 0 1)) w := by
 obtain ⟨t, fr, hb⟩ := a2H hg ht
 refine (h.row ⟨g, 0, zs.length, 1⟩ hb (ty := ty) hty (by simp) (zs.map fun z => Value.int k z) 1 (fun _ => ⟨hgH, rfl⟩) (by simp) fun i c hi _ hc => ⟨c, ?_, ?_⟩).1
 ·have : (⟨g, 0, zs.length, 1⟩ : Place).at i = i := by simp [Place.at]
  rw [this]
  simpa using hc
 ·rw [dX] at hc
  obtain ⟨z, _, rfl⟩ := cY.1 hc
  exact .c0 (.flat rfl)
end
theorem c1v : ∀ A b, hK gH A = some b → ∃ cs ty lo, b = .cells cs ty false lo 1 ∧ jL cs = true := by
 intro A b h
 unfold gH at h
 have hn : ∀ (H : Heap) (c : Blk), hK (H.cons c) A = some b → (A = H.length ∧ b = c) ∨ hK H A = some b := fun H c h => by
  by_cases he : A = H.length
  ·subst he; rw [gX] at h; exact .inl ⟨rfl, (cQ h).symm⟩
  ·have hA : A < (H.cons c).length := iR h
   rw [length_cons] at hA
   rw [iX _ (by omega)] at h
   exact .inr h
 rcases hn _ _ h with ⟨_, rfl⟩ | h
 ·exact ⟨_, _, _, rfl, by kernel_rfl⟩
 rcases hn _ _ h with ⟨_, rfl⟩ | h
 ·exact ⟨_, _, _, rfl, by kernel_rfl⟩
 rcases hn _ _ h with ⟨_, rfl⟩ | h
 ·exact ⟨_, _, _, rfl, by kernel_rfl⟩
 rcases hn _ _ h with ⟨_, rfl⟩ | h
 ·exact ⟨_, _, _, rfl, by kernel_rfl⟩
 rcases hn _ _ h with ⟨_, rfl⟩ | h
 ·exact ⟨_, _, _, rfl, by kernel_rfl⟩
 rcases hn _ _ h with ⟨_, rfl⟩ | h
 ·exact ⟨_, _, _, rfl, by kernel_rfl⟩
 ·have : A < 0 := iR h
  omega
theorem ExtW.glob {ρ ρ' : Rho} {H' : Heap} (h : ExtW ρ gH ρ' H') : Glob gH H' := ⟨h.len, fun A hA => h.old A hA, c1v⟩
def p10 : List Int := [1, 10, 100, 1000, 10000, 100000, 1000000, 10000000, 100000000, 1000000000, 10000000000, 100000000000, 1000000000000, 10000000000000, 100000000000000, 1000000000000000, 10000000000000000, 100000000000000000, 1000000000000000000, 10000000000000000000]
theorem g64 : Tryz.prog.globalNamed "math/bits.deBruijn64tab" = some 0 := by kernel_rfl
theorem pS : Tryz.prog.globalNamed "internal/strconv.uint64pow10" = some 4 := by kernel_rfl
theorem g32 : Tryz.prog.globalNamed "math/bits.deBruijn32tab" = some 5 := by kernel_rfl
theorem b5l {w : World} (h64 : Lib.TabIs Tryz.prog w "math/bits.deBruijn64tab" .u8 (t64.map Int.ofNat)) (h10 : Lib.TabIs Tryz.prog w "internal/strconv.uint64pow10" .u64 p10)
 (h32 : Lib.TabIs Tryz.prog w "math/bits.deBruijn32tab" .u8 (t32.map Int.ofNat)) (h1001 : ∃ cs t fr, w.heap[1]? = some (.cells cs t fr)) (h1002 : ∃ cs t fr, w.heap[2]? = some (.cells cs t fr)) (h1003 : ∃ cs t fr, w.heap[3]? = some (.cells cs t fr)) : ∃ ρ, InW Tryz.prog ρ gH w := by
 have a0 := (InW.none (P := Tryz.prog) w).cH g64 h64 (ty := 5) rfl (by kernel_rfl)
 obtain ⟨cs1, t1, fr1, hb1⟩ := h1001
 have a1 := (a0.row ⟨1, 0, cs1.size, 1⟩ hb1 (ty := 3) (by kernel_rfl) rfl [] 1 (fun _ => ⟨rfl, rfl⟩) (by simp) (fun i c hi => by simp at hi)).1
 obtain ⟨cs2, t2, fr2, hb2⟩ := h1002
 have a2 := (a1.row ⟨2, 0, cs2.size, 1⟩ hb2 (ty := 310) (by kernel_rfl) rfl [] 1 (fun _ => ⟨rfl, rfl⟩) (by simp) (fun i c hi => by simp at hi)).1
 obtain ⟨cs3, t3, fr3, hb3⟩ := h1003
 have a3 := (a2.row ⟨3, 0, cs3.size, 1⟩ hb3 (ty := 310) (by kernel_rfl) rfl [] 1 (fun _ => ⟨rfl, rfl⟩) (by simp) (fun i c hi => by simp at hi)).1
 have a4 := a3.cH pS h10 (ty := 28) rfl (by kernel_rfl)
 have a5 := a4.cH g32 h32 (ty := 5) rfl (by kernel_rfl)
 exact ⟨_, a5⟩
end Go.Ds
namespace Go.Ds
noncomputable section
variable {P : Program} {H0 : Base} {H : Heap} {os : List Ob} {κ β : Type} [DecidableEq κ] {enc : κ → Value} {f : β → Value} {t : TypeId} {z : Value}
structure MapK (P : Program) (t : TypeId) {κ : Type} [DecidableEq κ] (enc : κ → Value) (z : Value) : Prop where
 ex : ∃ kt et, vH P t = some (kt, et) ∧ iI P et = some z ∧ iJ z = true ∧ (∀ b k, wD P b kt (enc k) = true) ∧
  (∀ k (es : List MapEntry) (ks : List κ), es.map (·.key) = ks.map enc → pV P kt (enc k) es = some (ks.findIdx? fun x => decide (x = k))) ∧ ∀ k, Instr.sameBits 10000 (enc k) (enc k) = true
def kcs (enc : κ → Value) (f : β → Value) (kvs : List (κ × β)) : List Value := kvs.flatMap fun p => [enc p.1, f p.2]
def a0G (kvs : List (κ × β)) (k : κ) : Option β := (kvs.find? fun p => decide (p.1 = k)).map (·.2)
def a4b (kvs : List (κ × β)) (k : κ) (v : β) : List (κ × β) := match kvs.findIdx? (fun p => decide (p.1 = k)) with
 | some j => kvs.set j (k, v)
 | none => kvs ++ [(k, v)]
theorem a3V : ∀ (es : List MapEntry) (kvs : List (κ × β)), kcs enc f kvs = mcs es → es.map (·.key) = kvs.map (fun p => enc p.1) ∧ es.map (·.val) = kvs.map (fun p => f p.2)
 | [], [], _ => ⟨rfl, rfl⟩
 | [], p :: kvs, h => by simp [kcs, mcs] at h
 | e :: es, [], h => by simp [kcs, mcs] at h
 | e :: es, p :: kvs, h => by
   simp only [kcs, mcs, dG, gI, eM, eY] at h
   obtain ⟨h1, h2, h3⟩ := h
   obtain ⟨h4, h5⟩ := a3V es kvs h3
   simp only [dO]
   exact ⟨by rw [h4, h1], by rw [h5, h2]⟩
theorem a8r : ∀ (es : List MapEntry) (kvs : List (κ × β)), es.map (·.key) = kvs.map (fun p => enc p.1) → es.map (·.val) = kvs.map (fun p => f p.2) → kcs enc f kvs = mcs es
 | [], [], _, _ => rfl
 | [], p :: kvs, h, _ => by simp at h
 | e :: es, [], h, _ => by simp at h
 | e :: es, p :: kvs, h, h' => by
   simp only [dO, eY] at h h'
   have := a8r es kvs h.2 h'.2
   simp only [kcs, mcs, dG] at this ⊢
   rw [this, h.1, h'.1]
theorem St.bV (hS : St P H0 H os) (i : Nat) {A : Nat} {cs : List Value} (ho : os[i]? = some ⟨.map (some A), 0, cs⟩) : ∃ es ck ver, hK H A = some (.map es ck ver) ∧ cs = mcs es ∧ Stamps es ck := by
 have := hS.own _ (dA ho)
 unfold OwnAt at this
 rw [if_pos rfl] at this
 rcases this with ⟨_, _, _, _, _, _, h⟩ | ⟨A', es, ck, ver, h1, h2, h3, h4⟩
 ·cases h
 ·simp only [Value.map.injEq, dr] at h3
  subst h3
  exact ⟨es, ck, ver, h1, h2, h4⟩
theorem a9p (kvs : List (κ × β)) (k : κ) : (∃ j x, (kvs.map (·.1)).findIdx? (fun x => decide (x = k)) = some j ∧ kvs[j]? = some x ∧ kvs.find? (fun p => decide (p.1 = k)) = some x) ∨ ((kvs.map (·.1)).findIdx? (fun x => decide (x = k)) = none ∧ kvs.find? (fun p => decide (p.1 = k)) = none) := by
 induction kvs with
 | nil => exact .inr ⟨rfl, rfl⟩
 | cons p kvs ih =>
   by_cases h : p.1 = k
   ·exact .inl ⟨0, p, by simp [eF, h], rfl, by simp [h]⟩
   ·rcases ih with ⟨j, x, h1, h2, h3⟩ | ⟨h1, h2⟩
    ·exact .inl ⟨j + 1, x, by simp [eF, h, h1], by simpa using h2, by simp [h, h3]⟩
    ·exact .inr ⟨by simp [eF, h, h1], by simp [h, h2]⟩
theorem St.cO (hS : St P H0 H os) (i : Nat) {A : Nat} {kvs : List (κ × β)} (ho : os[i]? = some ⟨.map (some A), 0, kcs enc f kvs⟩) (hk : MapK P t enc z) (hf : ∀ b, lT (f b) = true) (c : Bool) (k : κ) :
 nS P H t (.map (some A)) (enc k) c = some (pairV c (((a0G kvs k).map f).getD z) (a0G kvs k).isSome) := by
 obtain ⟨kt, et, h1, h2, h3, h4, h5, h6⟩ := hk.ex
 obtain ⟨es, ck, ver, h7, h8, _⟩ := hS.bV i ho
 obtain ⟨h9, h10⟩ := a3V es kvs h8
 have hi := h5 k es (kvs.map (·.1)) (by rw [h9]; simp [gA])
 simp only [nS, h1, cR, a0Y, h7, h4, if_true, hi, a0G]
 rcases a9p kvs k with ⟨j, x, e1, e2, e3⟩ | ⟨e1, e3⟩
 ·have hj : es[j]?.map (·.val) = some (f x.2) := by
   rw [← dX, h10, dX, e2]; rfl
  cases he : es[j]? with
  | none => rw [he] at hj; simp at hj
  | some e =>
    rw [he] at hj
    simp only [dy, dr] at hj
    simp only [e1, he, cR, hj, hf, if_true, e3, dy, eI, Option.isSome_some]
 ·simp only [e1, e3, Option.map_none, Option.getD_none, Option.isSome_none, h2, cR, h3, if_true]
def a6m (P : Program) (H : Heap) (t : TypeId) (x k : Value) (c : Bool) (K : Value → Prop) (_k : Keep K := ⟨⟩) : Prop := ∃ v, nS P H t x k c = some v ∧ K v
theorem a5s {t : TypeId} {x x' k k' : Value} {c : Bool} {K : Value → Prop} (h : x = x') (h2 : k = k') : a6m P H t x k c K = a6m P H t x' k' c K := by rw [h, h2]
attribute [congr] a5s
theorem a6P (d ty pos af g) (t : TypeId) (x k : Operand) (c : Bool) (l : List Value) (K : Value → Heap → Prop) :
 lB P ⟨d, .lookup t x k c, ty, pos, af, g⟩ l H K = iQ x l fun x => iQ k l fun k => a6m P H t x k c fun v => K v H := by
 have h2 : jF ((nS P H t (ev l x) (ev l k) c).map fun v => (v, H)) K = ∃ v, nS P H t (ev l x) (ev l k) c = some v ∧ K v H := by
  cases nS P H t (ev l x) (ev l k) c <;> simp [jF]
 simp only [lB, opD, iQ, Op.operands, a6m, h2]
 simp [and_assoc]
theorem St.bL (hS : St P H0 H os) (i : Nat) {A : Nat} {kvs : List (κ × β)} (ho : os[i]? = some ⟨.map (some A), 0, kcs enc f kvs⟩) (hk : MapK P t enc z) (hf : ∀ b, lT (f b) = true) {c : Bool} {k : κ} {K : Value → Prop}
 (h : K (pairV c (((a0G kvs k).map f).getD z) (a0G kvs k).isSome)) : a6m P H t (.map (some A)) (enc k) c K := ⟨_, hS.cO i ho hk hf c k, h⟩
def a2Z (P : Program) (H : Heap) (t : TypeId) (K : Value → Heap → Prop) (_k : Keep K := ⟨⟩) : Prop := ∃ v H1, oB P H t none = some (v, H1) ∧ K v H1
theorem a6o (d ty pos af g) (t : TypeId) (l : List Value) (K : Value → Heap → Prop) : lB P ⟨d, .makeMap t none, ty, pos, af, g⟩ l H K = a2Z P H t K := by
 simp only [lB, opD, Op.operands, a2Z, lQ]
 simp
theorem St.bR (hS : St P H0 H os) (hk : MapK P t enc z) {K : Value → Heap → Prop} (h : ∀ A H1, St P H0 H1 (os ++ [⟨.map (some A), 0, []⟩]) → K (.map (some A)) H1) : a2Z P H t K := by
 obtain ⟨kt, et, h1, _⟩ := hk.ex
 refine ⟨.map (some H.length), H.cons (.map [] 0 0), by simp [oB, h1], h _ _ (hS.add ?_ ?_ ?_ ?_)⟩
 ·unfold OwnAt
  rw [if_pos rfl]
  exact .inr ⟨_, [], 0, 0, gX H _, rfl, rfl, .nil 0⟩
 ·simp [oL]
 ·exact fun B hB => iX _ hB
 ·intro B hB
  simp [jV] at hB
  omega
def b4j (P : Program) (H : Heap) (t : TypeId) (m k v : Value) (K : Heap → Prop) (_k : Keep K := ⟨⟩) : Prop := ∃ H1, zO P H t m k v = some H1 ∧ K H1
theorem a7u {t : TypeId} {m m' k k' v v' : Value} {K : Heap → Prop} (h : m = m') (h2 : k = k') (h3 : v = v') : b4j P H t m k v K = b4j P H t m' k' v' K := by rw [h, h2, h3]
attribute [congr] a7u
theorem a1C (d ty pos af g) (t : TypeId) (m k v : Operand) (l : List Value) (K : Value → Heap → Prop) :
 lB P ⟨d, .mapUpdate t m k v, ty, pos, af, g⟩ l H K = iQ m l fun m => iQ k l fun k => iQ v l fun v => b4j P H t m k v fun H1 => K undef H1 := by
 have h2 : jF ((zO P H t (ev l m) (ev l k) (ev l v)).map fun H => (undef, H)) K = ∃ H1, zO P H t (ev l m) (ev l k) (ev l v) = some H1 ∧ K undef H1 := by
  cases zO P H t (ev l m) (ev l k) (ev l v) <;> simp [jF]
 simp only [lB, opD, iQ, Op.operands, b4j, h2]
 simp [and_assoc]
theorem a8S (kvs : List (κ × β)) (k : κ) (v : β) : a4b kvs k v = match (kvs.map (·.1)).findIdx? (fun x => decide (x = k)) with | some j => kvs.set j (k, v) | none => kvs ++ [(k, v)] := by
 unfold a4b
 rw [List.findIdx?_map]
 rfl
theorem St.cb (hS : St P H0 H os) (i : Nat) {A : Nat} {kvs : List (κ × β)} (ho : os[i]? = some ⟨.map (some A), 0, kcs enc f kvs⟩) (hk : MapK P t enc z) {k : κ} {v : β} {K : Heap → Prop}
 (h : ∀ H1, St P H0 H1 (os.set i ⟨.map (some A), 0, kcs enc f (a4b kvs k v)⟩) → K H1) : b4j P H t (.map (some A)) (enc k) (f v) K := by
 obtain ⟨kt, et, h1, h2, h3, h4, h5, h6⟩ := hk.ex
 obtain ⟨es, ck, ver, h7, h8, hst⟩ := hS.bV i ho
 obtain ⟨h9, h10⟩ := a3V es kvs h8
 have hi := h5 k es (kvs.map (·.1)) (by rw [h9]; simp [gA])
 have fin : ∀ es' ck', mcs es' = kcs enc f (a4b kvs k v) → Stamps es' ck' → St P H0 (hset H A (.map es' ck' (ver + 1))) (os.set i ⟨.map (some A), 0, kcs enc f (a4b kvs k v)⟩) := by
  intro es' ck' he hst'
  refine hS.put i ho ?_ ?_ ?_ ?_
  ·unfold OwnAt
   rw [if_pos rfl]
   exact .inr ⟨A, es', ck', _, hP _ (iR h7), he.symm, rfl, hst'⟩
  ·rw [iS]; exact cZ _
  ·intro B hB hne
   exact pE fun hh => hne (by simp [jV, hh])
  ·exact fun B hB => .inl hB
 rcases a9p kvs k with ⟨j, x, e1, e2, _⟩ | ⟨e1, _⟩
 ·have hj : es[j]?.map (·.key) = some (enc x.1) := by
   rw [← dX, h9, dX, e2]; rfl
  have hx : x.1 = k := by
   have := List.findIdx?_eq_some_iff_getElem.1 e1
   obtain ⟨hlt, hd, _⟩ := this
   have hlt' : j < kvs.length := by simpa using hlt
   have : kvs[j] = x := by
    rw [db hlt'] at e2
    exact cQ e2
   simp [this] at hd
   exact hd
  cases he : es[j]? with
  | none => rw [he] at hj; simp at hj
  | some e =>
    rw [he] at hj
    simp only [dy, dr] at hj
    refine ⟨hset H A (.map (es.set j { e with key := enc k, val := f v }) ck (ver + 1)), ?_, h _ (fin _ _ ?_ (hst.set he _ rfl))⟩
    ·have hsb : Instr.sameBits 10000 e.key (enc k) = true := by rw [hj, hx]; exact h6 k
     simp only [zO, h1, cR, h7, h4, if_true, hi, e1, he, hsb]
    ·symm
     rw [a8S, e1]
     refine a8r _ _ ?_ ?_
     ·rw [List.map_set, List.map_set, h9]
     ·rw [List.map_set, List.map_set, h10]
 ·refine ⟨hset H A (.map (es ++ [{ key := enc k, val := f v, born := ck }]) (ck + 1) (ver + 1)), ?_, h _ (fin _ _ ?_ (hst.push _ rfl))⟩
  ·simp only [zO, h1, cR, h7, h4, if_true, hi, e1]
  ·symm
   rw [a8S, e1]
   refine a8r _ _ ?_ ?_
   ·rw [dT, dT, h9]; rfl
   ·rw [dT, dT, h10]; rfl
def b5B (P : Program) (H : Heap) (t : TypeId) (m k : Value) (K : Value → Heap → Prop) (_k : Keep K := ⟨⟩) : Prop := ∃ v H1, rD P H t m k = some (v, H1) ∧ K v H1
theorem a6C {t : TypeId} {m m' k k' : Value} {K : Value → Heap → Prop} (h : m = m') (h2 : k = k') : b5B P H t m k K = b5B P H t m' k' K := by rw [h, h2]
attribute [congr] a6C
def a8X (H : Heap) (m b v : Value) (K : Heap → Prop) (_k : Keep K := ⟨⟩) : Prop := ∃ H1, pT H m b v = some H1 ∧ K H1
theorem a4O {m m' b b' v v' : Value} {K : Heap → Prop} (h : m = m') (h2 : b = b') (h3 : v = v') : a8X H m b v K = a8X H m' b' v' K := by rw [h, h2, h3]
attribute [congr] a4O
theorem a3w (d ty pos af g) (t : TypeId) (m k : Operand) (l : List Value) (K : Value → Heap → Prop) :
 lB P ⟨d, .mapEntry t m k, ty, pos, af, g⟩ l H K = iQ m l fun m => iQ k l fun k => b5B P H t m k K := by
 have h2 : jF (rD P H t (ev l m) (ev l k)) K = ∃ v H1, rD P H t (ev l m) (ev l k) = some (v, H1) ∧ K v H1 := lQ ..
 simp only [lB, opD, iQ, Op.operands, b5B, h2]
 simp [and_assoc]
theorem a0I (d ty pos af g) (t : TypeId) (m b v : Operand) (l : List Value) (K : Value → Heap → Prop) :
 lB P ⟨d, .entryStore t m b v, ty, pos, af, g⟩ l H K = iQ m l fun m => iQ b l fun b => iQ v l fun v => a8X H m b v fun H1 => K undef H1 := by
 have h2 : jF ((pT H (ev l m) (ev l b) (ev l v)).map fun H => (undef, H)) K = ∃ H1, pT H (ev l m) (ev l b) (ev l v) = some H1 ∧ K undef H1 := by
  cases pT H (ev l m) (ev l b) (ev l v) <;> simp [jF]
 simp only [lB, opD, iQ, Op.operands, a8X, h2]
 simp [and_assoc]
theorem a0f (kvs : List (κ × β)) (k k' : κ) (v : β) : a0G (a4b kvs k v) k' = if k' = k then some v else a0G kvs k' := by
 unfold a0G a4b
 induction kvs with
 | nil =>
   by_cases h : k' = k
   ·simp [h]
   ·simp [h, eH h]
 | cons p kvs ih =>
   by_cases hp : p.1 = k
   ·simp only [eF, hp, decide_true, if_true, fO, List.find?_cons]
    by_cases h : k' = k
    ·simp [h]
    ·simp [h, eH h]
   ·have hd : decide (p.1 = k) = false := by simp [hp]
    simp only [eF, hd, dH, if_false]
    by_cases hq : p.1 = k'
    ·have hne : ¬ k' = k := fun e => hp (hq.trans e)
     cases hh : kvs.findIdx? (fun p => decide (p.1 = k)) with
     | none => simp [hq, hne]
     | some j => simp [hq, hne]
    ·cases hh : kvs.findIdx? (fun p => decide (p.1 = k)) with
     | none =>
       rw [hh] at ih
       simpa [hq, List.find?_cons] using ih
     | some j =>
       rw [hh] at ih
       simpa [hq, List.find?_cons] using ih
end
end Go.Ds
namespace Go.Ds
noncomputable section
variable {P : Program} {H : Heap}
theorem jQ {α : Type} (P : Program) (x : α) : gU P (pure x) = some x := rfl
theorem iY {t : TypeId} {d : TypeDesc} (h : P.underlying t = some d) : gU P (underlying t) = some d := by
 unfold underlying
 rw [gQ]
 have : gU P program = some P := rfl
 rw [this, cR, h]
 rfl
def kJ : Operand → Bool
 | .const _ => true
 | _ => false
def nE (c : Bool) (i : Nat) (v : Value) : Operand := if c then .const v else .tmp i
def kH (P : Program) (op : BinOp) (t t2 : TypeId) (cx cy : Bool) (x y : Value) : Option Value := (opD P ⟨none, .binOp op t (nE cx 0 x) (nE cy 1 y) t2, t, "", #[], none⟩ [x, y] .nil).map (·.1)
def kI (P : Program) (op : BinOp) (t t2 : TypeId) (cx cy : Bool) (x y : Value) (K : Value → Prop) (_k : Keep K := ⟨⟩) : Prop := match x, y with
 | .int k a, .int k' b => (match (if k = k' then lK op k a b else none) with | some v => K v | none => jC (kH P op t t2 cx cy (.int k a) (.int k' b)) K)
 | x, y => jC (kH P op t t2 cx cy x y) K
theorem a6l {op : BinOp} {t t2 : TypeId} {cx cy : Bool} {x x' y y' : Value} {K : Value → Prop} (h : x = x') (h2 : y = y') : kI P op t t2 cx cy x y K = kI P op t t2 cx cy x' y' K := by rw [h, h2]
attribute [congr] a6l
theorem a8n (x : Operand) (l m : List Value) : ev (ev l x :: m) (nE (kJ x) 0 (ev l x)) = ev l x := by cases x <;> rfl
theorem a7N (x : Operand) (l m : List Value) (a : Value) : ev (a :: ev l x :: m) (nE (kJ x) 1 (ev l x)) = ev l x := by cases x <;> rfl
theorem b3k (op : BinOp) (t : TypeId) (x y : Operand) (l : List Value) : eqGuard op t x y (ev l x) (ev l y) = eqGuard op t (nE (kJ x) 0 (ev l x)) (nE (kJ y) 1 (ev l y)) (ev l x) (ev l y) := by
 generalize hx : ev l x = vx
 generalize hy : ev l y = vy
 cases x <;> cases y <;> rfl
theorem b6j (d ty pos af g) (op : BinOp) (t : TypeId) (x y : Operand) (t2 : TypeId) (l : List Value) (H : Heap) :
 opD P ⟨d, .binOp op t x y t2, ty, pos, af, g⟩ l H = (kH P op t t2 (kJ x) (kJ y) (ev l x) (ev l y)).map fun v => (v, H) := by
 have hp : jR P ⟨d, .binOp op t x y t2, ty, pos, af, g⟩ l H = _ := lU (P := P) ⟨d, .binOp op t x y t2, ty, pos, af, g⟩ ⟨none, .binOp op t (nE (kJ x) 0 (ev l x)) (nE (kJ y) 1 (ev l y)) t2, t, "", #[], none⟩ l [ev l x, ev l y] H
  (by simp only [Op.operands, dO, fN, a8n, a7N]) (by
    simp only [execOp]
    rw [a8n, a7N, ← b3k])
 simp only [opD, kH, hp, a8n, a7N]
 generalize jR P _ _ _ = r
 generalize ev l x = vx
 generalize ev l y = vy
 split
 all_goals first
  | (split <;> first | rfl | (split <;> first | rfl | (cases r <;> rfl)) | (cases r <;> rfl))
  | (cases r <;> rfl)
theorem b4T (d ty pos af g) (op : BinOp) (t : TypeId) (x y : Operand) (t2 : TypeId) (l : List Value) (K : Value → Heap → Prop) :
 lB P ⟨d, .binOp op t x y t2, ty, pos, af, g⟩ l H K = iQ x l fun x' => iQ y l fun y' => kI P op t t2 (kJ x) (kJ y) x' y' fun v => K v H := by
 have h : jF (opD P ⟨d, .binOp op t x y t2, ty, pos, af, g⟩ l H) K = kI P op t t2 (kJ x) (kJ y) (ev l x) (ev l y) fun v => K v H := by
  have key : jF ((kH P op t t2 (kJ x) (kJ y) (ev l x) (ev l y)).map fun v => (v, H)) K = jC (kH P op t t2 (kJ x) (kJ y) (ev l x) (ev l y)) fun v => K v H := by
   cases kH P op t t2 (kJ x) (kJ y) (ev l x) (ev l y) <;> rfl
  rw [b6j, key]
  unfold kI
  split
  ·rename_i k a k' b hx hy
   split
   ·rename_i v hv
    split at hv
    ·rename_i hk
     subst hk
     have : kH P op t t2 (kJ x) (kJ y) (.int k a) (.int k b) = some v := by
      have h1 : ∀ m, ev ((.int k a : Value) :: m) (nE (kJ x) 0 (.int k a)) = .int k a := fun m => by cases kJ x <;> rfl
      have h2 : ∀ m c, ev (c :: (.int k b : Value) :: m) (nE (kJ y) 1 (.int k b)) = .int k b := fun m c => by cases kJ y <;> rfl
      cases op <;> simp only [lK] at hv <;> first | (cases hv; done) | (simp only [kH, opD, h1, h2, lK, if_true, hv]; rfl)
     rw [hx, hy, this]
     rfl
    ·cases hv
   ·rw [hx, hy]
  ·rfl
 simp only [lB, h, iQ, Op.operands]
 simp [and_assoc]
theorem kZ (op : BinOp) (t t2 : TypeId) (cx cy : Bool) (k : IntKind) (a b : Int) {v : Value} (K : Value → Prop) (h : lK op k a b = some v) : kI P op t t2 cx cy (.int k a) (.int k b) K = nZ v K := by
 simp [kI, h, nZ]
section
theorem a9U (t t2 : TypeId) (cx cy : Bool) (k : IntKind) (a b : Int) (K : Value → Prop) : kI P .add t t2 cx cy (.int k a) (.int k b) K = nZ (.int k (k.wrap (a + b))) K := kZ _ _ _ _ _ _ _ _ _ (by simp [lK, a8K, sI])
theorem b1k (t t2 : TypeId) (cx cy : Bool) (k : IntKind) (a b : Int) (K : Value → Prop) : kI P .sub t t2 cx cy (.int k a) (.int k b) K = nZ (.int k (k.wrap (a - b))) K := kZ _ _ _ _ _ _ _ _ _ (by simp [lK, a9v, sI])
theorem b0z (t t2 : TypeId) (cx cy : Bool) (k : IntKind) (a b : Int) (K : Value → Prop) : kI P .mul t t2 cx cy (.int k a) (.int k b) K = nZ (.int k (k.wrap (a * b))) K := kZ _ _ _ _ _ _ _ _ _ (by simp [lK, sI])
theorem b0L (t t2 : TypeId) (cx cy : Bool) (k : IntKind) (a b : Int) (K : Value → Prop) : kI P .eql t t2 cx cy (.int k a) (.int k b) K = nZ (.bool (decide (a = b))) K := kZ _ _ _ _ _ _ _ _ _ (by simp [lK, a0D]; rfl)
theorem b1n (t t2 : TypeId) (cx cy : Bool) (k : IntKind) (a b : Int) (K : Value → Prop) : kI P .neq t t2 cx cy (.int k a) (.int k b) K = nZ (.bool (decide (¬ a = b))) K := kZ _ _ _ _ _ _ _ _ _ (by simp [lK, a0D]; rfl)
theorem b0S (t t2 : TypeId) (cx cy : Bool) (k : IntKind) (a b : Int) (K : Value → Prop) : kI P .lss t t2 cx cy (.int k a) (.int k b) K = nZ (.bool (decide (a < b))) K := kZ _ _ _ _ _ _ _ _ _ (by simp [lK, xW])
theorem b1B (t t2 : TypeId) (cx cy : Bool) (k : IntKind) (a b : Int) (K : Value → Prop) : kI P .leq t t2 cx cy (.int k a) (.int k b) K = nZ (.bool (decide (a ≤ b))) K := kZ _ _ _ _ _ _ _ _ _ (by simp [lK, xW, ← Int.not_lt])
theorem b1u (t t2 : TypeId) (cx cy : Bool) (k : IntKind) (a b : Int) (K : Value → Prop) : kI P .gtr t t2 cx cy (.int k a) (.int k b) K = nZ (.bool (decide (b < a))) K := kZ _ _ _ _ _ _ _ _ _ (by simp [lK, xW])
theorem b0l (t t2 : TypeId) (cx cy : Bool) (k : IntKind) (a b : Int) (K : Value → Prop) : kI P .geq t t2 cx cy (.int k a) (.int k b) K = nZ (.bool (decide (b ≤ a))) K := kZ _ _ _ _ _ _ _ _ _ (by simp [lK, xW, ← Int.not_lt])
theorem b0d (t t2 : TypeId) (cx cy : Bool) (k : IntKind) (a b : Int) (K : Value → Prop) (hb : b ≠ 0) : kI P .rem t t2 cx cy (.int k a) (.int k b) K = nZ (.int k (a.tmod b)) K := kZ _ _ _ _ _ _ _ _ _ (by
 have : (b == 0) = false := by simp [hb]
 simp [lK, a0D, this])
theorem b0t (t t2 : TypeId) (cx cy : Bool) (k : IntKind) (a b : Int) (K : Value → Prop) (hb : b ≠ 0) : kI P .quo t t2 cx cy (.int k a) (.int k b) K = nZ (.int k (k.wrap (a.tdiv b))) K := kZ _ _ _ _ _ _ _ _ _ (by
 have : (b == 0) = false := by simp [hb]
 simp [lK, a0D, sI, this])
end
theorem kQ {op : BinOp} {t t2 : TypeId} {cx cy : Bool} {x y v : Value} (hx : flat x = true) (hy : flat y = true) (hg : gU P (eqGuard op t (nE cx 0 x) (nE cy 1 y) x y) = some ())
 (hv : gU P (binOp op t x y) = some v) (hf : flat v = true) (hs : ∀ a n c, x ≠ .slice (some a) n c) (hp : ∀ a, x ≠ .pointer (some a)) (hi : ∀ k a b, x = .int k a → y = .int k b → lK op k a b = none) : kH P op t t2 cx cy x y = some v := by
 have h1 : ∀ m, ev (x :: m) (nE cx 0 x) = x := fun m => by cases cx <;> rfl
 have h2 : ∀ m c, ev (c :: y :: m) (nE cy 1 y) = y := fun m c => by cases cy <;> rfl
 have hpl : jR P ⟨none, .binOp op t (nE cx 0 x) (nE cy 1 y) t2, t, "", #[], none⟩ [x, y] .nil = some (v, .nil) := by
  unfold jR
  rw [if_pos (by simp [Op.operands, h1, h2, hx, hy])]
  have : execOp (ev [x, y]) ⟨none, .binOp op t (nE cx 0 x) (nE cy 1 y) t2, t, "", #[], none⟩ = (do let v ← (do eqGuard op t (nE cx 0 x) (nE cy 1 y) x y; binOp op t x y); pure (.value v)) := by
   simp only [execOp, h1, h2]
  rw [this, gQ, gQ, hg, cR, hv, cR, jQ]
  simp only [hf, if_true]
 simp only [kH, opD, h1, h2, hpl]
 split
 ·exact absurd rfl (hs _ _ _)
 ·exact absurd rfl (hs _ _ _)
 ·rename_i k a k' b
  split
  ·rename_i hk
   subst hk
   rw [hi _ _ _ rfl rfl]
   rfl
  ·rfl
 ·exact absurd rfl (hp _)
 ·exact absurd rfl (hp _)
 ·exact absurd rfl (hp _)
 ·exact absurd rfl (hp _)
 ·rfl
theorem oU {op : BinOp} {t : TypeId} {x y : Operand} {k k' : IntKind} {a b : Int} : gU P (eqGuard op t x y (.int k a) (.int k' b)) = some () := by
 unfold eqGuard
 split <;> rfl
section
theorem b3M (t t2 : TypeId) (cx cy : Bool) (a b : Int) {k k' : IntKind} (hb : 0 ≤ b) : kH P .shr t t2 cx cy (.int k a) (.int k' b) = some (.int k (a.fdiv (2 ^ (min b.toNat k.bits)))) :=
 kQ rfl rfl oU (by simp only [binOp, Op.shift]; rw [if_neg (by omega)]; rfl) rfl (by simp) (by simp) (by intros; rfl)
theorem b2B (t t2 : TypeId) (cx cy : Bool) (a b : Int) {k k' : IntKind} (hb : 0 ≤ b) : kH P .shl t t2 cx cy (.int k a) (.int k' b) = some (.int k (k.wrap (a * 2 ^ (min b.toNat k.bits)))) :=
 kQ rfl rfl oU (by simp only [binOp, Op.shift]; rw [if_neg (by omega)]; rfl) rfl (by simp) (by simp) (by intros; rfl)
theorem b3j (t t2 : TypeId) (cx cy : Bool) (a b : Int) (k : IntKind) : kH P .and t t2 cx cy (.int k a) (.int k b) = some (.int k (k.wrap (BitVec.ofInt k.bits a &&& BitVec.ofInt k.bits b).toNat)) :=
 kQ rfl rfl oU (by simp only [binOp]; rw [if_neg (by simp)]; rfl) rfl (by simp) (by simp) (by intros; rfl)
theorem b5O (t t2 : TypeId) (cx cy : Bool) (a b : Int) (k : IntKind) : kH P .or t t2 cx cy (.int k a) (.int k b) = some (.int k (k.wrap (BitVec.ofInt k.bits a ||| BitVec.ofInt k.bits b).toNat)) :=
 kQ rfl rfl oU (by simp only [binOp]; rw [if_neg (by simp)]; rfl) rfl (by simp) (by simp) (by intros; rfl)
theorem b3K (t t2 : TypeId) (cx cy : Bool) (a b : Int) (k : IntKind) : kH P .xor t t2 cx cy (.int k a) (.int k b) = some (.int k (k.wrap (BitVec.ofInt k.bits a ^^^ BitVec.ofInt k.bits b).toNat)) :=
 kQ rfl rfl oU (by simp only [binOp]; rw [if_neg (by simp)]; rfl) rfl (by simp) (by simp) (by intros; rfl)
theorem a5g (t t2 : TypeId) (cx cy : Bool) (a b : Int) (k : IntKind) : kH P .andNot t t2 cx cy (.int k a) (.int k b) = some (.int k (k.wrap (BitVec.ofInt k.bits a &&& ~~~ BitVec.ofInt k.bits b).toNat)) :=
 kQ rfl rfl oU (by simp only [binOp]; rw [if_neg (by simp)]; rfl) rfl (by simp) (by simp) (by intros; rfl)
end
section
variable (a b : ByteArray)
theorem xD {op : BinOp} {t : TypeId} {x y : Operand} : gU P (eqGuard op t x y (.string a) (.string b)) = some () := by
 unfold eqGuard
 split <;> rfl
theorem yQ (h : a.data.toList = b.data.toList) : a = b := by
 cases a; cases b
 simp only [ByteArray.mk.injEq]
 exact Array.toList_inj.1 h
theorem a0E : (a.toList == b.toList) = decide (a = b) := by
 rw [ByteArray.toList_eq, ByteArray.toList_eq, dM, beq_iff_eq, decide_eq_true_iff]
 exact ⟨yQ a b, fun h => by rw [h]⟩
theorem a7i (t t2 : TypeId) (cx cy : Bool) (a b : ByteArray) : kH P .eql t t2 cx cy (.string a) (.string b) = some (.bool (decide (a = b))) :=
 kQ rfl rfl (xD a b) (by rw [← a0E]; rfl) rfl (by simp) (by simp) (by intro _ _ _ h; cases h)
theorem a6x (t t2 : TypeId) (cx cy : Bool) (a b : ByteArray) : kH P .neq t t2 cx cy (.string a) (.string b) = some (.bool (decide (¬ a = b))) :=
 kQ rfl rfl (xD a b) (by
  have : decide (¬ a = b) = !(a.toList == b.toList) := by rw [a0E]; simp
  rw [this]; rfl) rfl (by simp) (by simp) (by intro _ _ _ h; cases h)
theorem a6n (t t2 : TypeId) (cx cy : Bool) (a b : ByteArray) (h : a.size + b.size < 9223372036854775808) : kH P .add t t2 cx cy (.string a) (.string b) = some (.string (a ++ b)) :=
 kQ rfl rfl (xD a b) (by
  simp only [binOp, Op.stringOp]
  rw [if_neg]
  ·rfl
  ·have : IntKind.i64.max = 9223372036854775807 := by decide
   rw [this]; omega) rfl (by simp) (by simp) (by intro _ _ _ h; cases h)
end
theorem b2j {t : TypeId} (s : ByteArray) (ht : mS P t = true) : xM P H t (.string s) = some (.int .i64 s.size) := by
 unfold mS at ht
 unfold xM
 split at ht
 ·rename_i h; rw [h]; simp [uN, goInt]
 ·cases ht
def nK (P : Program) (t : TypeId) (x i : Value) : Option Value := (opD P ⟨none, .index t (.const x) (.const i), t, "", #[], none⟩ [] .nil).map (·.1)
theorem a9P (d ty pos af g) (t : TypeId) (x i : Operand) (l : List Value) (K : Value → Heap → Prop) :
 lB P ⟨d, .index t x i, ty, pos, af, g⟩ l H K = iQ x l fun x => iQ i l fun i => jC (nK P t x i) fun v => K v H := by
 have h : opD P ⟨d, .index t x i, ty, pos, af, g⟩ l H = (nK P t (ev l x) (ev l i)).map fun v => (v, H) := by
  have hp := lU (P := P) ⟨d, .index t x i, ty, pos, af, g⟩ ⟨none, .index t (.const (ev l x)) (.const (ev l i)), t, "", #[], none⟩ l [] H rfl rfl
  simp only [opD, nK]
  exact hp
 have h2 : jF ((nK P t (ev l x) (ev l i)).map fun v => (v, H)) K = jC (nK P t (ev l x) (ev l i)) fun v => K v H := by cases nK P t (ev l x) (ev l i) <;> rfl
 simp only [lB, h, iQ, Op.operands, h2]
 simp [and_assoc]
def nC (s : ByteArray) (i : Nat) : Nat := (s.data.toList.getD i 0).toNat
theorem a7V {t : TypeId} (s : ByteArray) (k : IntKind) (i : Int) (ht : mS P t = true) (h0 : 0 ≤ i) (h1 : i < s.size) : nK P t (.string s) (.int k i) = some (.int .u8 (nC s i.toNat)) := by
 have hu : P.underlying t = some .string := by
  unfold mS at ht
  split at ht
  ·rename_i h; exact h
  ·cases ht
 have hr : gU P (Instr.index t (.string s) (.int k i)) = some (.int .u8 (nC s i.toNat)) := by
  unfold Instr.index
  rw [gQ]
  have e1 : gU P (asIntOf (.int k i)) = some (k, i) := rfl
  rw [e1, cR]
  simp only [gQ, iY hu, cR]
  rw [if_pos h0]
  have hlt : i.toNat < s.size := by omega
  have hb : s[i.toNat]? = some s[i.toNat] := by simp [getElem?_pos, hlt]
  simp only [hb]
  rw [jQ]
  congr 3
  unfold nC
  rw [cV]
  have hl : i.toNat < s.data.toList.length := by simpa using hlt
  rw [db hl]
  rfl
 have hpl : jR P ⟨none, .index t (.const (.string s)) (.const (.int k i)), t, "", #[], none⟩ [] .nil = some (.int .u8 (nC s i.toNat), .nil) := by
  unfold jR
  rw [if_pos (by rfl)]
  have : execOp (ev []) ⟨none, .index t (.const (.string s)) (.const (.int k i)), t, "", #[], none⟩ = (do let v ← Instr.index t (.string s) (.int k i); pure (.value v)) := rfl
  rw [this, gQ, hr, cR, jQ]
  rfl
 simp only [nK, opD, hpl]
 rfl
def zL (P : Program) (t : TypeId) : Option IntKind := match P.underlying t with | some (.int k) => some k | _ => none
theorem yG {t : TypeId} {k : IntKind} (h : zL P t = some k) : P.underlying t = some (.int k) := by
 unfold zL at h
 split at h
 ·rename_i h2; rw [h2]; injection h with h; rw [h]
 ·cases h
theorem b0R {s t : TypeId} {k k' : IntKind} (a : Int) (hs : zL P s = some k) (ht : zL P t = some k') : a0s P s t (.int k a) = some (.int k' (k'.wrap a)) := by
 have hr : gU P (convert s t (.int k a)) = some (.int k' (k'.wrap a)) := by
  unfold convert
  simp only [gQ, iY (yG hs), iY (yG ht), cR]
  rfl
 have hpl : jR P ⟨none, .convert s t (.const (.int k a)), t, "", #[], none⟩ [] .nil = some (.int k' (k'.wrap a), .nil) := by
  unfold jR
  rw [if_pos (by rfl)]
  have : execOp (ev []) ⟨none, .convert s t (.const (.int k a)), t, "", #[], none⟩ = (do let v ← convert s t (.int k a); pure (.value v)) := rfl
  rw [this, gQ, hr, cR, jQ]
  rfl
 simp only [a0s, hpl]
 rfl
def a3E (P : Program) (d : Nat) (xs ys : Array Value) (fs : List Field) : Option Bool :=
 (gU P (forIn fs ((none, ()) : Option Bool × Unit) fun f _ =>
   if f.name ≠ "_" then do
    let a ← part f.type xs f.offset
    let b ← part f.type ys f.offset
    let c ← Op.equalIn d f.type a b
    if (!c) = true then pure (ForInStep.done (some false, ())) else pure (ForInStep.yield (none, ()))
   else pure (ForInStep.yield (none, ())))).bind fun x => gU P (match x.fst with | some r => pure r | none => pure true)
theorem a0U {d : Nat} {xs ys : Array Value} (g : Field → Bool) : ∀ (fs : List Field), (∀ f ∈ fs, f.name ≠ "_" ∧ gU P (part f.type xs f.offset >>= fun x => part f.type ys f.offset >>= fun y => Op.equalIn d f.type x y) = some (g f)) →
 a3E P d xs ys fs = some (fs.all g)
 | [], _ => rfl
 | f :: fs, hg => by
   obtain ⟨h1, h2⟩ := hg f (dV ..)
   have ih := a0U g fs fun f' h => hg f' (ek _ h)
   unfold a3E at ih ⊢
   rw [gQ] at h2
   simp only [List.forIn_cons, h1, ne_eq, not_false_eq_true, if_true, gQ]
   cases hx : gU P (part f.type xs f.offset) with
   | none => rw [hx] at h2; cases h2
   | some x =>
     rw [hx, cR, gQ] at h2
     cases hy : gU P (part f.type ys f.offset) with
     | none => rw [hy] at h2; cases h2
     | some y =>
       rw [hy, cR] at h2
       simp only [cR, h2]
       cases hgf : g f with
       | false =>
         simp only [Bool.not_false, if_true, jQ, cR, eR, hgf, ft]
       | true =>
         simp only [Bool.not_true, dH, if_false, jQ, cR, eR, hgf, gm]
         exact ih
theorem a4l {d : Nat} {t : TypeId} {fs : List Field} {xs ys : Array Value} (hu : P.underlying t = some (.struct fs.toArray)) (hst : P.stoodInHeld t = false) (g : Field → Bool)
 (hg : ∀ f ∈ fs, f.name ≠ "_" ∧ gU P (part f.type xs f.offset >>= fun x => part f.type ys f.offset >>= fun y => Op.equalIn d f.type x y) = some (g f)) : gU P (Op.equalIn (d + 1) t (.agg xs) (.agg ys)) = some (fs.all g) := by
 rw [Op.equalIn, gQ, iY hu, cR]
 have hp : gU P program = some P := rfl
 simp only [gQ, hp, cR, hst, dH, if_false, List.forIn_toArray]
 refine Eq.trans ?_ (a0U g fs hg)
 unfold a3E
 congr 1
 funext x
 cases x.fst <;> rfl
theorem a2Q {op : BinOp} {t : TypeId} (ht : P.eqGuardType P.depth t = false) {x y : Operand} {a b : Array Value} : gU P (eqGuard op t x y (.agg a) (.agg b)) = some () := by
 have hp : gU P program = some P := rfl
 unfold eqGuard
 cases op <;> simp [gQ, hp, ht, jQ]
theorem b2d {t t2 : TypeId} {cx cy : Bool} {xs ys : List Value} (b : Bool) (ht : P.eqGuardType P.depth t = false) (hx : xs.all iE = true) (hy : ys.all iE = true) (h : gU P (Op.equalIn (9999 + 1) t (.agg xs.toArray) (.agg ys.toArray)) = some b) :
 kH P .eql t t2 cx cy (.agg xs.toArray) (.agg ys.toArray) = some (.bool b) :=
 kQ (by simp [flat, iJ, jL, hx]) (by simp [flat, iJ, jL, hy]) (a2Q ht) (by
  have hmd : Op.maxDepth = 9999 + 1 := by decide
  simp only [binOp, gQ, Op.equal]
  rw [hmd, h, cR, jQ]) rfl (by simp) (by simp) (by intro _ _ _ h; cases h)
theorem a5G {t t2 : TypeId} {cx cy : Bool} {xs ys : List Value} (b : Bool) (ht : P.eqGuardType P.depth t = false) (hx : xs.all iE = true) (hy : ys.all iE = true) (h : gU P (Op.equalIn (9999 + 1) t (.agg xs.toArray) (.agg ys.toArray)) = some b) :
 kH P .neq t t2 cx cy (.agg xs.toArray) (.agg ys.toArray) = some (.bool (!b)) :=
 kQ (by simp [flat, iJ, jL, hx]) (by simp [flat, iJ, jL, hy]) (a2Q ht) (by
  have hmd : Op.maxDepth = 9999 + 1 := by decide
  simp only [binOp, gQ, Op.equal]
  rw [hmd, h, cR, jQ]) rfl (by simp) (by simp) (by intro _ _ _ h; cases h)
end
end Go.Ds
namespace Go.Ds
noncomputable section
variable {P : Program} {H : Heap}
theorem a0K (a b : ByteArray) : (a == b) = decide (b = a) := by
 obtain ⟨x⟩ := a
 obtain ⟨y⟩ := b
 rw [dM, decide_eq_true_iff]
 constructor
 ·intro h
  have e : x = y := by simpa using (show (x == y) = true from h)
  rw [e]
 ·intro h
  cases h
  show (x == x) = true
  simp
theorem a2L (o : Option Nat) (i : Nat) : o.map (i + 1 + ·) = (o.map (· + 1)).map (i + ·) := by
 cases o with
 | none => rfl
 | some j => simp only [dy]; congr 1; omega
theorem zF (k : ByteArray) : ∀ (es : List MapEntry) (ks : List ByteArray) (i : Nat), es.map (·.key) = ks.map Value.string →
 (Instr.findNow .string (.string k) (es.map uQ) i).map (·.map (·.1)) = some ((ks.findIdx? fun x => decide (x = k)).map (i + ·))
 | [], [], i, _ => rfl
 | [], _ :: _, _, h => by simp at h
 | _ :: _, [], _, h => by simp at h
 | e :: es, s :: ks, i, h => by
   simp only [dO, eY] at h
   have hs : Instr.sameNow .string (.string k) e.key = some (decide (s = k)) := by
    rw [h.1]
    show some (k == s) = _
    rw [a0K]
   simp only [dO, Instr.findNow, uQ, hs, eF]
   by_cases hd : s = k
   ·simp [hd]
   ·simp only [hd, decide_false, dH, if_false]
    have := zF k es ks (i + 1) h.2
    rw [a2L] at this
    exact this
theorem a9n {κ : Type} [DecidableEq κ] {enc : κ → Value} {kt : TypeId} (heq : ∀ a b, gU P (Op.equal kt (enc a) (enc b)) = some (decide (b = a))) (k : κ) : ∀ (es : List MapEntry) (ks : List κ) (i : Nat), es.map (·.key) = ks.map enc →
 (gU P (Instr.findAsking kt (enc k) (es.map uQ) i)).map (·.map (·.1)) = some ((ks.findIdx? fun x => decide (x = k)).map (i + ·))
 | [], [], i, _ => rfl
 | [], _ :: _, _, h => by simp at h
 | _ :: _, [], _, h => by simp at h
 | e :: es, s :: ks, i, h => by
   simp only [dO, eY] at h
   simp only [dO, Instr.findAsking, uQ, gQ, eF]
   rw [h.1, heq, cR]
   by_cases hd : s = k
   ·simp [hd, jQ]
   ·simp only [hd, decide_false, dH, if_false]
    have := a9n heq k es ks (i + 1) h.2
    rw [a2L] at this
    exact this
theorem MapK.str {t kt et : TypeId} {z : Value} (hm : vH P t = some (kt, et)) (hu : P.underlying kt = some .string) (hz : iI P et = some z) (hf : iJ z = true) : MapK P t Value.string z where
 ex := by
  refine ⟨kt, et, hm, hz, hf, ?_, ?_, ?_⟩
  ·intro b k
   have : gU P (Instr.checkKey b 10000 kt (.string k)) = some () := by
    show gU P (Instr.checkKey b (9999 + 1) kt (.string k)) = some ()
    unfold Instr.checkKey
    rw [gQ, iY hu, cR]
    rfl
   simp only [wD, this]
   rfl
  ·intro k es ks h
   have h1 := zF k es ks 0 h
   unfold pV Instr.findKey
   rw [gQ, iY hu, cR]
   cases hn : Instr.findNow .string (.string k) (es.map uQ) 0 with
   | none => rw [hn] at h1; cases h1
   | some r =>
     rw [hn] at h1
     simp only [jQ]
     simpa using h1
  ·intro k
   show (k == k) = true
   rw [a0K]
   simp
theorem MapK.struct {κ : Type} [DecidableEq κ] {enc : κ → Value} {t kt et : TypeId} {z : Value} {fs : Array Field} (hm : vH P t = some (kt, et)) (hu : P.underlying kt = some (.struct fs)) (hz : iI P et = some z) (hf : iJ z = true)
 (hk : ∀ b k, wD P b kt (enc k) = true) (heq : ∀ a b, gU P (Op.equal kt (enc a) (enc b)) = some (decide (b = a))) (hsb : ∀ k, Instr.sameBits 10000 (enc k) (enc k) = true) : MapK P t enc z where
 ex := by
  refine ⟨kt, et, hm, hz, hf, hk, ?_, hsb⟩
  intro k es ks h
  have h1 := a9n heq k es ks 0 h
  unfold pV Instr.findKey
  rw [gQ, iY hu, cR]
  have key : ∀ (l : List MapEntry), Instr.findNow (.struct fs) (enc k) l 0 = none ∨ l = [] := by
   intro l
   cases l with
   | nil => exact .inr rfl
   | cons e l => exact .inl rfl
  rcases key (es.map uQ) with hn | hn
  ·rw [hn]
   simpa using h1
  ·rw [hn]
   have : es = [] := by simpa using hn
   subst this
   have : ks = [] := by cases ks with | nil => rfl | cons a ks => simp at h
   subst this
   rfl
end
end Go.Ds
namespace Go.Ds
noncomputable section
variable {P : Program} {H : Heap}
def a1m (o : Option (Nat × TypeId)) (P : Program) (H : Heap) (t : TypeId) (z : Value) (K : Value → Heap → Prop) (_k : Keep K := ⟨⟩) : Prop := match o with
 | none => rU (iJ z) (a3X P H t z K)
 | some _ => rU (iJ z) (a8y P H t z K)
theorem a2T {o o' : Option (Nat × TypeId)} {t : TypeId} {z : Value} {K : Value → Heap → Prop} (h : o = o') : a1m o P H t z K = a1m o' P H t z K := by rw [h]
attribute [congr] a2T
theorem b4a {t : TypeId} (z : Value) (K : Value → Heap → Prop) : sW P H t (some z) K = a1m (iT P t) P H t z K := by
 cases h : iT P t with
 | none => exact a5j z K h
 | some n => exact a7s z K h
theorem a5R {t : TypeId} (z : Value) (K : Value → Heap → Prop) : a1m none P H t z K = rU (iJ z) (a3X P H t z K) := rfl
theorem a5d {t : TypeId} (n : Nat × TypeId) (z : Value) (K : Value → Heap → Prop) : a1m (some n) P H t z K = rU (iJ z) (a8y P H t z K) := rfl
theorem a6c {t : TypeId} {k : IntKind} (h : zL P t = some k) : kF P t = false := by
 simp [kF, yG h]
def a2u (ks kt : Option IntKind) (P : Program) (s t : TypeId) (H : Heap) (k : IntKind) (a : Int) (K : Value → Heap → Prop) (_k : Keep K := ⟨⟩) : Prop := match ks, kt with
 | some k0, some k' => if k0 = k then K (.int k' (k'.wrap a)) H else rG P s t H (.int k a) K
 | _, _ => rG P s t H (.int k a) K
theorem a4D {ks ks' kt kt' : Option IntKind} {s t : TypeId} {k : IntKind} {a : Int} {K : Value → Heap → Prop} (h : ks = ks') (h2 : kt = kt') : a2u ks kt P s t H k a K = a2u ks' kt' P s t H k a K := by rw [h, h2]
attribute [congr] a4D
theorem b6O {s t : TypeId} (k : IntKind) (a : Int) (K : Value → Heap → Prop) : rG P s t H (.int k a) K = a2u (zL P s) (zL P t) P s t H k a K := by
 unfold a2u
 split
 ·rename_i k0 k' hs ht
  split
  ·rename_i hk
   subst hk
   rw [b1a k0 a K (a6c ht), b0R a hs ht]
   rfl
  ·rfl
 ·rfl
theorem b1h {s t : TypeId} (k k' : IntKind) (a : Int) (K : Value → Heap → Prop) : a2u (some k) (some k') P s t H k a K = nZ (.int k' (k'.wrap a)) fun v => K v H := by simp [a2u, nZ]
def b8N (b : Bool) (P : Program) (H : Heap) (t : TypeId) (v : Value) : Option Value := match b with
 | true => (match v with | .string s => some (.int .i64 s.size) | _ => xM P H t v)
 | false => xM P H t v
theorem b9e (t : TypeId) (v : Value) : a7p none P H t v = b8N (mS P t) P H t v := by
 unfold b8N
 split
 ·rename_i h
  split
  ·exact b2j _ h
  ·rfl
 ·rfl
theorem b4u (t : TypeId) (s : ByteArray) : b8N true P H t (.string s) = some (.int .i64 s.size) := rfl
def a0w (b : Bool) (P : Program) (t : TypeId) (x i : Value) : Option Value := match b, x, i with
 | true, .string s, .int k i => if 0 ≤ i ∧ i < s.size then some (.int .u8 (nC s i.toNat)) else nK P t (.string s) (.int k i)
 | _, x, i => nK P t x i
theorem a5t (t : TypeId) (x i : Value) : nK P t x i = a0w (mS P t) P t x i := by
 unfold a0w
 split
 ·rename_i h
  split
  ·rename_i h2; exact a7V _ _ _ h h2.1 h2.2
  ·rfl
 ·rfl
theorem a8G (t : TypeId) (s : ByteArray) (k : IntKind) (i : Int) (h0 : 0 ≤ i) (h1 : i < s.size) : a0w true P t (.string s) (.int k i) = some (.int .u8 (nC s i.toNat)) := by
 simp [a0w, h0, h1]
theorem OC : (∀ k n, oneCell (.int k n) = true) ∧ (∀ b, oneCell (.bool b) = true) ∧ (∀ s, oneCell (.string s) = true) ∧ (∀ a, oneCell (.pointer a) = true) ∧ (∀ a n c, oneCell (.slice a n c) = true) ∧ (∀ r, oneCell (.map r) = true) ∧ (∀ f a b, oneCell (.func f a b) = true) ∧ oneCell .nilFunc = true :=
 ⟨fun _ _ => rfl, fun _ => rfl, fun _ => rfl, fun _ => rfl, fun _ _ _ => rfl, fun _ => rfl, fun _ _ _ => rfl, rfl⟩
theorem c2s (o : Option Bool) : (o.map Value.bool).getD (.bool false) = .bool (o.getD false) := by cases o <;> rfl
theorem c2e (k : IntKind) (o : Option Int) : (o.map (Value.int k)).getD (.int k 0) = .int k (o.getD 0) := by cases o <;> rfl
theorem b6F (v : Value) (b : Bool) : pairV false v b = v := rfl
theorem b5s (v : Value) (b : Bool) : pairV true v b = .tuple #[v, .bool b] := rfl
theorem b3F (t : Tmp) : kJ (.tmp t) = false := rfl
theorem a7j (v : Value) : kJ (.const v) = true := rfl
theorem b4D (s : ByteArray) : flat (.string s) = true := rfl
theorem b0W (s : ByteArray) : iJ (.string s) = true := rfl
theorem a8C (s : ByteArray) : iE (.string s) = true := rfl
theorem a4Q (s : ByteArray) : iW (.string s) = true := rfl
theorem b4m (k : IntKind) (n : Int) : nX (.int k n) = true := rfl
theorem b1s (b : Bool) : nX (.bool b) = true := rfl
theorem b4M (s : ByteArray) : nX (.string s) = true := rfl
theorem xA {c b : Bool} {p q : Prop} (h1 : c = true → qE (.bool true) b p q) (h2 : c = false → qE (.bool false) b p q) : qE (.bool c) b p q := by
 cases c
 ·exact h2 rfl
 ·exact h1 rfl
theorem St.pick {H0 : Base} {os os' : List Ob} (hS : St P H0 H os) (idx : List Nat) (hn : idx.Nodup) (h : idx.map (os[·]?) = os'.map some) : St P H0 H os' := by
 have hmem : ∀ o ∈ os', o ∈ os := by
  intro o ho
  have : some o ∈ idx.map (os[·]?) := by rw [h]; exact fy ho
  obtain ⟨i, _, hi⟩ := dx.1 this
  exact dA hi
 refine ⟨hS.len, hS.old, fun o ho => hS.own o (hmem o ho), fun o ho => hS.new o (hmem o ho), ?_⟩
 have hpw := dS.1 hS.sep
 rw [dS]
 intro i j hi hj hij
 have hl : idx.length = os'.length := by simpa using congrArg List.length h
 have key : ∀ i (hi : i < os'.length), ∃ hk : idx[i]'(by omega) < os.length, os[idx[i]'(by omega)] = os'[i] := by
  intro i hi
  have h1 : (idx.map (os[·]?))[i]? = (os'.map some)[i]? := by rw [h]
  rw [dX, dX, db (by omega), db hi] at h1
  simp only [dy, dr] at h1
  exact dc.1 h1
 obtain ⟨h1, e1⟩ := key i hi
 obtain ⟨h2, e2⟩ := key j hj
 have hne : idx[i]'(by omega) ≠ idx[j]'(by omega) := by
  have := dS.1 hn i j (by omega) (by omega) hij
  exact this
 rcases fB hne with hh | hh
 ·have := hpw _ _ h1 h2 hh
  rw [e1, e2] at this
  exact this
 ·have := hpw _ _ h2 h1 hh
  rw [e1, e2] at this
  intro B hb hb'
  exact this B hb' hb
theorem St.frame {H1 : Heap} {H0 : Base} {ls rest ls' : List Ob} (hS : St P H0 H (ls ++ rest)) (h1 : St P ⟨H, pZ ls⟩ H1 ls') : St P H0 H1 (ls' ++ rest) := by
 have hls : St P H0 H ls := hS.sub (List.sublist_append_left ..)
 have h2 := hls.bp h1
 have hsep := fq.1 hS.sep
 have hkeep : ∀ o ∈ rest, ∀ B, jV o.v = some B → hK H1 B = hK H B := by
  intro o ho B hB
  have hlt := (hS.own o (fU _ ho)).lt hB
  exact h1.old B hlt fun ⟨x, hx, hxb⟩ => hsep.2.2 x hx o ho B hxb hB
 refine ⟨h2.len, h2.old, ?_, ?_, ?_⟩
 ·intro o ho
  rcases dE.1 ho with ho | ho
  ·exact h2.own o ho
  ·exact (hS.own o (fU _ ho)).ae (hkeep o ho)
 ·intro o ho B hB
  rcases dE.1 ho with ho | ho
  ·exact h2.new o ho B hB
  ·exact hS.new o (fU _ ho) B hB
 ·rw [fq]
  refine ⟨h2.sep, hsep.2.1, ?_⟩
  intro x hx y hy B hb hb'
  rcases h1.new x hx B hb with hh | ⟨z, hz, hzb⟩
  ·have := (hS.own y (fU _ hy)).lt hb'
   have hh : H.length ≤ B := hh
   omega
  ·exact hsep.2.2 z hz y hy B hzb hb'
theorem b6G (t : TypeId) (k : IntKind) (n : Int) : unV P .neg t (.int k n) = some (.int k (k.wrap (0 - n))) := rfl
theorem a9T (ops : Array Oper) (d : Option Tmp) (op : Op) (ty : TypeId) (pos : String) (af : Array Edge) (j : Nat) (b : Bool) (l : List Value) (H' : Heap) (v : Value) :
 rdW P ops (some ⟨d, op, ty, pos, af, some (j, b)⟩) (some (l, H', v)) H = sZ (wE ops j) l b (lB P ⟨d, op, ty, pos, af, some (j, b)⟩ l H fun v' _ => v' = v) True := by
 rw [← rB ops l d op ty pos af]
 unfold rdW
 split
 ·rename_i h1 h2
  cases h1; cases h2
  split
  ·rename_i h; simp [h]
  ·rename_i h; simp [h]
 ·rename_i h
  exact (h _ _ _ _ rfl rfl).elim
theorem b1b (t t2 : TypeId) (cx cy : Bool) (k : IntKind) (a b : Int) (K : Value → Prop) : kI P .and t t2 cx cy (.int k a) (.int k b) K = jC (kH P .and t t2 cx cy (.int k a) (.int k b)) K := by
 have h : (if k = k then lK .and k a b else none) = none := by split <;> rfl
 unfold kI; dsimp only
 rw [h]
theorem b4C (t t2 : TypeId) (cx cy : Bool) (k : IntKind) (a b : Int) (K : Value → Prop) : kI P .or t t2 cx cy (.int k a) (.int k b) K = jC (kH P .or t t2 cx cy (.int k a) (.int k b)) K := by
 have h : (if k = k then lK .or k a b else none) = none := by split <;> rfl
 unfold kI; dsimp only
 rw [h]
theorem b0o (t t2 : TypeId) (cx cy : Bool) (k : IntKind) (a b : Int) (K : Value → Prop) : kI P .xor t t2 cx cy (.int k a) (.int k b) K = jC (kH P .xor t t2 cx cy (.int k a) (.int k b)) K := by
 have h : (if k = k then lK .xor k a b else none) = none := by split <;> rfl
 unfold kI; dsimp only
 rw [h]
theorem a3d (t t2 : TypeId) (cx cy : Bool) (k : IntKind) (a b : Int) (K : Value → Prop) : kI P .andNot t t2 cx cy (.int k a) (.int k b) K = jC (kH P .andNot t t2 cx cy (.int k a) (.int k b)) K := by
 have h : (if k = k then lK .andNot k a b else none) = none := by split <;> rfl
 unfold kI; dsimp only
 rw [h]
theorem b1C (t t2 : TypeId) (cx cy : Bool) (k k' : IntKind) (a b : Int) (K : Value → Prop) : kI P .shl t t2 cx cy (.int k a) (.int k' b) K = jC (kH P .shl t t2 cx cy (.int k a) (.int k' b)) K := by
 have h : (if k = k' then lK .shl k a b else none) = none := by split <;> rfl
 unfold kI; dsimp only
 rw [h]
theorem b0T (t t2 : TypeId) (cx cy : Bool) (k k' : IntKind) (a b : Int) (K : Value → Prop) : kI P .shr t t2 cx cy (.int k a) (.int k' b) K = jC (kH P .shr t t2 cx cy (.int k a) (.int k' b)) K := by
 have h : (if k = k' then lK .shr k a b else none) = none := by split <;> rfl
 unfold kI; dsimp only
 rw [h]
theorem a9M (op : BinOp) (t t2 : TypeId) (cx cy : Bool) (a b : ByteArray) (K : Value → Prop) : kI P op t t2 cx cy (.string a) (.string b) K = jC (kH P op t t2 cx cy (.string a) (.string b)) K := rfl
theorem b1w (op : BinOp) (t t2 : TypeId) (cx cy : Bool) (a b : Array Value) (K : Value → Prop) : kI P op t t2 cx cy (.agg a) (.agg b) K = jC (kH P op t t2 cx cy (.agg a) (.agg b)) K := rfl
theorem b1D (op : BinOp) (t t2 : TypeId) (cx cy : Bool) (a b : Bool) (K : Value → Prop) : kI P op t t2 cx cy (.bool a) (.bool b) K = jC (kH P op t t2 cx cy (.bool a) (.bool b)) K := rfl
theorem b4F (n : Int) (h1 : -9223372036854775808 ≤ n) (h2 : n < 9223372036854775808) : IntKind.wrap .i64 n = n := by
 show (if (true && decide (n % 18446744073709551616 ≥ 9223372036854775808)) = true then n % 18446744073709551616 - 18446744073709551616 else n % 18446744073709551616) = n
 simp only [gm, decide_eq_true_eq]
 omega
theorem b5j (n : Int) (h1 : -128 ≤ n) (h2 : n < 128) : IntKind.wrap .i8 n = n := by
 show (if (true && decide (n % 256 ≥ 128)) = true then n % 256 - 256 else n % 256) = n
 simp only [gm, decide_eq_true_eq]
 omega
theorem pD (n : Int) (h1 : 0 ≤ n) (h2 : n < 18446744073709551616) : IntKind.wrap .u64 n = n := by
 show (if (false && decide (n % 18446744073709551616 ≥ 9223372036854775808)) = true then n % 18446744073709551616 - 18446744073709551616 else n % 18446744073709551616) = n
 simp only [ft]
 rw [if_neg (by simp)]
 omega
theorem b4H (n : Int) (h1 : 0 ≤ n) (h2 : n < 4294967296) : IntKind.wrap .u32 n = n := by
 show (if (false && decide (n % 4294967296 ≥ 2147483648)) = true then n % 4294967296 - 4294967296 else n % 4294967296) = n
 simp only [ft]
 rw [if_neg (by simp)]
 omega
theorem b2q (n : Int) (h1 : 0 ≤ n) (h2 : n < 65536) : IntKind.wrap .u16 n = n := by
 show (if (false && decide (n % 65536 ≥ 32768)) = true then n % 65536 - 65536 else n % 65536) = n
 simp only [ft]
 rw [if_neg (by simp)]
 omega
theorem b6V (n : Int) (h1 : 0 ≤ n) (h2 : n < 256) : IntKind.wrap .u8 n = n := by
 show (if (false && decide (n % 256 ≥ 128)) = true then n % 256 - 256 else n % 256) = n
 simp only [ft]
 rw [if_neg (by simp)]
 omega
end
end Go.Ds
namespace Go.Ds
noncomputable section
variable {P : Program}
def rR (P : Program) (t : TypeId) : List Field := match P.underlying t with | some (.struct fs) => fs.toList | _ => []
def zR : Value → Value → Bool
 | .int _ a, .int _ b => a == b
 | .bool a, .bool b => a == b
 | .string a, .string b => decide (a = b)
 | _, _ => false
def okC (P : Program) (t : TypeId) (x y : Value) : Bool := match P.underlying t with
 | some (.int _) => (match x, y with | .int k _, .int k' _ => decide (k = k') | _, _ => false)
 | some .bool => (match x, y with | .bool _, .bool _ => true | _, _ => false)
 | some .string => (match x, y with | .string _, .string _ => true | _, _ => false)
 | _ => false
theorem eq1 {t : TypeId} {x y : Value} (d : Nat) (h : okC P t x y = true) : gU P (Op.equalIn (d + 1) t x y) = some (zR x y) := by
 unfold okC at h
 split at h
 ·rename_i k0 hu
  split at h
  ·rename_i k a k' b
   have hk : k = k' := by simpa using h
   subst hk
   rw [Op.equalIn, gQ, iY hu, cR]
   simp only [if_true]
   rfl
  ·cases h
 ·rename_i hu
  split at h
  ·rw [Op.equalIn, gQ, iY hu, cR]; rfl
  ·cases h
 ·rename_i hu
  split at h
  ·rename_i a b
   rw [Op.equalIn, gQ, iY hu, cR]
   show some (a == b) = some (decide (a = b))
   rw [a0K]
   congr 1
   simp [eq_comm]
  ·cases h
 ·cases h
theorem b7Z {t : TypeId} {x y v : Value} {cs : Array Value} {off : Nat} (h : okC P t x y = true) (hc : cs[off]? = some v) : gU P (part t cs off) = some v := by
 have ha : gU P (isAgg t) = some false := by
  unfold isAgg
  unfold okC at h
  split at h
  ·rename_i hu; rw [gQ, iY hu, cR]; rfl
  ·rename_i hu; rw [gQ, iY hu, cR]; rfl
  ·rename_i hu; rw [gQ, iY hu, cR]; rfl
  ·cases h
 unfold part
 rw [gQ, ha, cR]
 simp only [dH, if_false, hc]
 rfl
theorem wV {t : TypeId} {xs ys : List Value} (d : Nat) (hu : P.underlying t = some (.struct (rR P t).toArray)) (hst : P.stoodInHeld t = false)
 (hf : ((rR P t).map fun f => (f.name != "_", f.offset)) = (List.range xs.length).map fun j => (true, j)) (hy : ys.length = xs.length)
 (hok : ((rR P t).all fun f => okC P f.type (xs.getD f.offset undef) (ys.getD f.offset undef)) = true) :
 gU P (Op.equalIn (d + 2) t (.agg xs.toArray) (.agg ys.toArray)) = some ((List.range xs.length).all fun j => zR (xs.getD j undef) (ys.getD j undef)) := by
 rw [dg] at hok
 have hmem : ∀ f ∈ rR P t, (f.name != "_") = true ∧ f.offset < xs.length := fun f hf' => by
  have : (f.name != "_", f.offset) ∈ (List.range xs.length).map fun j => (true, j) := by rw [← hf]; exact fy hf'
  obtain ⟨j, hj, he⟩ := dx.1 this
  simp only [gj] at he
  exact ⟨he.1.symm, by rw [← he.2]; exact dm.1 hj⟩
 rw [a4l hu hst (fun f => zR (xs.getD f.offset undef) (ys.getD f.offset undef)) ?_]
 ·congr 1
  have h1 : (rR P t).all (fun f => zR (xs.getD f.offset undef) (ys.getD f.offset undef)) = ((rR P t).map fun f => (f.name != "_", f.offset)).all fun p => zR (xs.getD p.2 undef) (ys.getD p.2 undef) := by
   rw [List.all_map]; rfl
  rw [h1, hf, List.all_map]
  rfl
 ·intro f hf'
  obtain ⟨h1, h2⟩ := hmem f hf'
  refine ⟨by simpa using h1, ?_⟩
  have hx : xs.toArray[f.offset]? = some (xs.getD f.offset undef) := by
   rw [eK, cV, db h2]; rfl
  have hy' : ys.toArray[f.offset]? = some (ys.getD f.offset undef) := by
   rw [eK, cV, db (by omega)]; rfl
  rw [gQ, b7Z (hok f hf') hx, cR, gQ, b7Z (hok f hf') hy', cR]
  exact eq1 d (hok f hf')
theorem vD {t t2 : TypeId} {cx cy : Bool} {xs ys : List Value} (hu : P.underlying t = some (.struct (rR P t).toArray)) (hst : P.stoodInHeld t = false) (hg : P.eqGuardType P.depth t = false)
 (hf : ((rR P t).map fun f => (f.name != "_", f.offset)) = (List.range xs.length).map fun j => (true, j)) (hy : ys.length = xs.length)
 (hok : ((rR P t).all fun f => okC P f.type (xs.getD f.offset undef) (ys.getD f.offset undef)) = true) (hx : xs.all iE = true) (hys : ys.all iE = true) :
 kH P .eql t t2 cx cy (.agg xs.toArray) (.agg ys.toArray) = some (.bool ((List.range xs.length).all fun j => zR (xs.getD j undef) (ys.getD j undef))) ∧
 kH P .neq t t2 cx cy (.agg xs.toArray) (.agg ys.toArray) = some (.bool (!((List.range xs.length).all fun j => zR (xs.getD j undef) (ys.getD j undef)))) :=
 ⟨b2d _ hg hx hys (wV 9998 hu hst hf hy hok), a5G _ hg hx hys (wV 9998 hu hst hf hy hok)⟩
theorem b8t {t : TypeId} {k : IntKind} (hu : P.underlying t = some (.struct (rR P t).toArray)) (hst : P.stoodInHeld t = false)
 (hf : ((rR P t).map fun f => (f.name != "_", f.offset)) = (List.range 2).map fun j => (true, j))
 (hok : ∀ a b c d : Int, ((rR P t).all fun f => okC P f.type ([Value.int k a, .int k b].getD f.offset undef) ([Value.int k c, .int k d].getD f.offset undef)) = true) (a b : Int × Int) :
 gU P (Op.equal t (.agg #[.int k a.1, .int k a.2]) (.agg #[.int k b.1, .int k b.2])) = some (decide (b = a)) := by
 have hmd : Op.maxDepth = 9998 + 2 := by decide
 unfold Op.equal
 rw [hmd, wV (xs := [.int k a.1, .int k a.2]) (ys := [.int k b.1, .int k b.2]) 9998 hu hst hf rfl (hok _ _ _ _)]
 congr 1
 show ((a.1 == b.1) && ((a.2 == b.2) && true)) = _
 rw [dM]
 simp only [eS, cT, beq_iff_eq, decide_eq_true_eq, Prod.ext_iff]
 constructor
 ·rintro ⟨h1, h2⟩; exact ⟨h1.symm, h2.symm⟩
 ·rintro ⟨h1, h2⟩; exact ⟨h1.symm, h2.symm⟩
theorem b9I {k : IntKind} (a : Int × Int) : Instr.sameBits 10000 (.agg #[.int k a.1, .int k a.2]) (.agg #[.int k a.1, .int k a.2]) = true := by
 show ((2 : Nat) == 2 && ([(Value.int k a.1, Value.int k a.1), (Value.int k a.2, Value.int k a.2)]).all fun (x, y) => Instr.sameBits 9999 x y) = true
 have h : ∀ n, Instr.sameBits 9999 (.int k n) (.int k n) = true := fun n => by
  show (k == k && n == n) = true
  cases k <;> simp <;> rfl
 simp [h]
section
variable {H : Heap} {α : Type} {n : Nat} {cel : α → List Value} {v : Value} {xs : List α}
theorem Sl.aR (h : Sl n cel H v xs) (o : Oper) (l : List Value) (H' : Heap) (k : IntKind) (a : Int) (K : Value → Heap → Prop) (h0 : 0 < xs.length) (h1 : 0 ≤ a) (h2 : a ≤ xs.length) :
 nJ P o l H' (some n) v none (some (.int k a)) K = nZ (lX v n 0 a.toNat) fun v => K v H' := by
 obtain ⟨m, rfl⟩ : ∃ m, n = m + 1 := ⟨n - 1, by have := h.pos; omega⟩
 exact h.rd.aR (iK h.hc xs) o l H' k a K h0 h1 h2
theorem Sl.aQ (h : Sl n cel H v xs) (o : Oper) (l : List Value) (H' : Heap) (k : IntKind) (a : Int) (K : Value → Heap → Prop) (h0 : 0 < xs.length) (h1 : 0 ≤ a) (h2 : a ≤ xs.length) :
 nJ P o l H' (some n) v (some (.int k a)) none K = nZ (lX v n a.toNat (xs.length - a).toNat) fun v => K v H' := by
 obtain ⟨m, rfl⟩ : ∃ m, n = m + 1 := ⟨n - 1, by have := h.pos; omega⟩
 rw [h.rd.aQ (iK h.hc xs) o l H' k a K h0 h1 h2]
 congr 2
 omega
theorem Sl.sub (h : Sl n cel H v xs) (lo k : Nat) (hk : lo + k ≤ xs.length) (h0 : 0 < xs.length) : Sl n cel H (lX v n lo k) ((xs.drop lo).take k) := by
 refine ⟨?_, h.hc, h.pos⟩
 have hne : xs.flatMap cel ≠ [] := fun e => by
  have := iK h.hc xs
  rw [e, eN] at this
  have hp := gL h0 h.pos
  omega
 have := h.rd.sub lo k (by rw [iK h.hc, ← eQ]; exact dw _ hk) hne
 rw [rA h.hc, a1n h.hc] at this
 exact this
theorem Sl.cz (h : Sl n cel H v xs) (k : Nat) (hk : k ≤ xs.length) (h0 : 0 < xs.length) : Sl n cel H (lX v n 0 k) (xs.take k) := by
 simpa using h.sub 0 k (by omega) h0
theorem Sl.cA (h : Sl n cel H v xs) (lo : Nat) (hk : lo ≤ xs.length) (h0 : 0 < xs.length) : Sl n cel H (lX v n lo (xs.length - lo)) (xs.drop lo) := by
 have := h.sub lo (xs.length - lo) (by omega) h0
 rwa [List.take_of_length_le (by simp)] at this
end
def a7Q (P : Program) (ts : Array TypeId) (ty : TypeId) (cx cy : Bool) (x y : Value) : Option Value := (jR P ⟨none, .call { callee := .builtin .max, args := #[nE cx 0 x, nE cy 1 y], argTypes := ts }, ty, "", #[], none⟩ [x, y] .nil).map (·.1)
theorem b7s (d : Option Tmp) (ty : TypeId) (pos : String) (af : Array Edge) (g : Option (Nat × Bool)) (ts : Array TypeId) (x y : Operand) (l : List Value) (H : Heap) (K : Value → Heap → Prop) :
 lB P ⟨d, .call { callee := .builtin .max, args := #[x, y], argTypes := ts }, ty, pos, af, g⟩ l H K = iQ x l fun x' => iQ y l fun y' => jC (a7Q P ts ty (kJ x) (kJ y) x' y') fun v => K v H := by
 have h : opD P ⟨d, .call { callee := .builtin .max, args := #[x, y], argTypes := ts }, ty, pos, af, g⟩ l H = (a7Q P ts ty (kJ x) (kJ y) (ev l x) (ev l y)).map fun v => (v, H) :=
  lU (P := P) ⟨d, .call { callee := .builtin .max, args := #[x, y], argTypes := ts }, ty, pos, af, g⟩ ⟨none, .call { callee := .builtin .max, args := #[nE (kJ x) 0 (ev l x), nE (kJ y) 1 (ev l y)], argTypes := ts }, ty, "", #[], none⟩ l [ev l x, ev l y] H
   (by cases x <;> cases y <;> rfl) (by cases x <;> cases y <;> kernel_rfl)
 have h2 : jF ((a7Q P ts ty (kJ x) (kJ y) (ev l x) (ev l y)).map fun v => (v, H)) K = jC (a7Q P ts ty (kJ x) (kJ y) (ev l x) (ev l y)) fun v => K v H := by cases a7Q P ts ty (kJ x) (kJ y) (ev l x) (ev l y) <;> rfl
 simp only [lB, h, iQ, Op.operands, Call.operands, h2]
 simp [and_assoc]
theorem b2c (ts : Array TypeId) (ty : TypeId) (cx cy : Bool) (a b : Int) : a7Q P ts ty cx cy (.int .i64 a) (.int .i64 b) = some (.int .i64 (max a b)) := by
 have h : a7Q P ts ty cx cy (.int .i64 a) (.int .i64 b) = some (.int .i64 (if b > a then b else a)) := by cases cx <;> cases cy <;> kernel_rfl
 rw [h]
 congr 2
 split <;> omega
def a7b (P : Program) (ts : Array TypeId) (ty : TypeId) (cx cy : Bool) (x y : Value) : Option Value := (jR P ⟨none, .call { callee := .builtin .min, args := #[nE cx 0 x, nE cy 1 y], argTypes := ts }, ty, "", #[], none⟩ [x, y] .nil).map (·.1)
theorem b6C (d : Option Tmp) (ty : TypeId) (pos : String) (af : Array Edge) (g : Option (Nat × Bool)) (ts : Array TypeId) (x y : Operand) (l : List Value) (H : Heap) (K : Value → Heap → Prop) :
 lB P ⟨d, .call { callee := .builtin .min, args := #[x, y], argTypes := ts }, ty, pos, af, g⟩ l H K = iQ x l fun x' => iQ y l fun y' => jC (a7b P ts ty (kJ x) (kJ y) x' y') fun v => K v H := by
 have h : opD P ⟨d, .call { callee := .builtin .min, args := #[x, y], argTypes := ts }, ty, pos, af, g⟩ l H = (a7b P ts ty (kJ x) (kJ y) (ev l x) (ev l y)).map fun v => (v, H) :=
  lU (P := P) ⟨d, .call { callee := .builtin .min, args := #[x, y], argTypes := ts }, ty, pos, af, g⟩ ⟨none, .call { callee := .builtin .min, args := #[nE (kJ x) 0 (ev l x), nE (kJ y) 1 (ev l y)], argTypes := ts }, ty, "", #[], none⟩ l [ev l x, ev l y] H
   (by cases x <;> cases y <;> rfl) (by cases x <;> cases y <;> kernel_rfl)
 have h2 : jF ((a7b P ts ty (kJ x) (kJ y) (ev l x) (ev l y)).map fun v => (v, H)) K = jC (a7b P ts ty (kJ x) (kJ y) (ev l x) (ev l y)) fun v => K v H := by cases a7b P ts ty (kJ x) (kJ y) (ev l x) (ev l y) <;> rfl
 simp only [lB, h, iQ, Op.operands, Call.operands, h2]
 simp [and_assoc]
theorem b4e (ts : Array TypeId) (ty : TypeId) (cx cy : Bool) (a b : Int) : a7b P ts ty cx cy (.int .i64 a) (.int .i64 b) = some (.int .i64 (min a b)) := by
 have h : a7b P ts ty cx cy (.int .i64 a) (.int .i64 b) = some (.int .i64 (if b < a then b else a)) := by cases cx <;> cases cy <;> kernel_rfl
 rw [h]
 congr 2
 split <;> omega
section
variable {H : Heap}
def Var (H : Heap) (A n : Nat) (cs : List Value) : Prop := n = cs.length ∧ ∃ ty rw lo ver, hK H A = some (.cells cs ty rw lo ver) ∧ lo ≤ cs.length
theorem Var.ae {H' : Heap} {A n : Nat} {cs : List Value} (h : Var H A n cs) (hk : ∀ B, B < H.length → hK H' B = hK H B) : Var H' A n cs := by
 obtain ⟨h1, ty, rw, lo, ver, h2, h3⟩ := h
 exact ⟨h1, ty, rw, lo, ver, by rw [hk A (iR h2), h2], h3⟩
theorem Var.ld {A n : Nat} {cs : List Value} (h : Var H A n cs) (s : Option Nat) (off : Nat) : oQ (some false) s H (ptr A off n) = cs[off]? := by
 obtain ⟨rfl, ty, rw, lo, ver, h1, h2⟩ := h
 simp only [oQ, iL, h1]
 by_cases h : off < cs.length
 ·rw [if_pos (by simp; omega)]
  simp only [cR]
  rw [dD (by omega), dp]
  simp
 ·rw [if_neg (by simp; omega), dL (by omega)]
  rfl
theorem Var.aj {A n : Nat} {cs : List Value} (h : Var H A n cs) (m off : Nat) : oQ (some true) (some m) H (ptr A off n) = if off + m ≤ cs.length then some (.agg ((cs.drop off).take m).toArray) else none := by
 obtain ⟨rfl, ty, rw, lo, ver, h1, h2⟩ := h
 simp only [oQ, iL, h1, cR]
 by_cases h : off + m ≤ cs.length
 ·rw [if_pos (by simp; omega), if_pos h]
  rfl
 ·rw [if_neg (by simp; omega), if_neg h]
  rfl
theorem St.var {P : Program} {H0 : Base} {os : List Ob} (hS : St P H0 H os) (i : Nat) {A n : Nat} {cs : List Value} (ho : os[i]? = some ⟨ptr A 0 n, 0, cs⟩) : Var H A n cs := by
 obtain ⟨h1, ty, lo, ver, h2, h3⟩ := hS.cell i ho
 exact ⟨h1, ty, true, lo, ver, h2, h3⟩
theorem St.va {H0 : Heap} {os : List Ob} (hS : St P H0 H os) {A n : Nat} {cs : List Value} (h : Var H0 A n cs) : Var H A n cs := h.ae hS.ae
end
theorem qT {P : Program} (t t2 : TypeId) (cx cy : Bool) (u x : UInt8) : kH P .add t t2 cx cy (.string ⟨#[u]⟩) (.string ⟨#[x]⟩) = some (.string ⟨#[u, x]⟩) := by
 rw [a6n _ _ _ _ _ _ (by show 1 + 1 < 9223372036854775808; decide)]
 rfl
theorem tA {P : Program} {H : Heap} {s t : TypeId} {v : Value} {n : Int} (h : RdAt H v 1 [.int .u8 n]) (hs : kF P s = true) (ht : mS P t = true) (hbt : kF P t = false) (h0 : 0 ≤ n) (h1 : n < 256) (K : Value → Heap → Prop) :
 rG P s t H v K = K (.string ⟨#[UInt8.ofNat n.toNat]⟩) H := by
 obtain ⟨m, rfl⟩ : ∃ m : Nat, n = Int.ofNat m := ⟨n.toNat, by simp [fx h0]⟩
 have hm : m < 256 := by have : (m : Int) < 256 := h1; omega
 rcases h with ⟨_, h⟩ | ⟨A, i, e, row, ty, rw, lo, ver, k, g1, g2, g3, g4, g5, g6, rfl⟩
 ·cases h
 have hk : k = 1 := by simp at g6; omega
 subst hk
 have hc : iL H A i e 1 = some [.int .u8 (Int.ofNat m)] := by
  simp only [iL, g1]
  rw [if_pos (by simp at g4 ⊢; omega)]
  exact congrArg some g5
 have hb : mE [.int .u8 (Int.ofNat m)] = some ⟨#[UInt8.ofNat m]⟩ := by simp [mE, a0p, zW, hm]
 have hd : opD P ⟨none, .convert s t (.const (.slice (some ⟨A, i, some e⟩) 1 1)), t, "", #[], none⟩ [] H = some (.string ⟨#[UInt8.ofNat m]⟩, H) := by
  have hf : flat (.slice (some ⟨A, i, some e⟩) 1 1) = false := rfl
  simp only [opD, ev, hf, hs, ht, hc, hb, ft, dH, if_false, Bool.and_self, if_true, cR, dy]
 unfold rG
 rw [hd]
 apply propext
 constructor
 ·rintro ⟨v, H1, h2, h3⟩
  injection (cQ h2) with e1 e2
  subst e1 e2
  exact h3
 ·intro h3
  exact ⟨_, _, rfl, h3⟩
theorem a3J {P : Program} {t : TypeId} {n : Nat} {elem : TypeId} {size : Nat} (ha : P.underlying t = some (.array n elem)) (hs : gP P elem = some size) (A i e : Nat) (k : IntKind) (j : Int) (h0 : 0 ≤ j) (h1 : j < n) :
 uT (iA P t) P t (ptr A i e) (.int k j) = some (ptr A (i + j.toNat * size) e) := by
 have hn : iA P t = none := by simp [iA, gR, ha]
 rw [hn]
 simp only [uT, a0x, ha, ptr, hs, cR]
 rw [if_pos (by simp [h0, h1])]
end
end Go.Ds
namespace Go.Ds
section
variable {P : Program}
def b8y (inv : List Nat) (e : Edge) : Edge := { e with on := inv.getD e.on 0 }
def wG (inv : List Nat) (o : Oper) : Oper := { o with after := o.after.map (b8y inv), guard := o.guard.map fun g => (inv.getD g.1 0, g.2) }
def jG (π inv : List Nat) (ops : Array Oper) : Array Oper := (π.map fun i => wG inv (ops.getD i default)).toArray
def a8h (π inv : List Nat) (ops : Array Oper) : Bool :=
 decide (π.length = ops.size) && decide (inv.length = ops.size) && (List.range ops.size).all (fun i => decide (π.getD i 0 < ops.size) && decide (inv.getD i 0 < ops.size) && decide (inv.getD (π.getD i 0) 0 = i) && decide (π.getD (inv.getD i 0) 0 = i)) &&
 ops.toList.all fun o => o.after.toList.all (fun e => decide (e.on < ops.size)) && (match o.guard with | some g => decide (g.1 < ops.size) | none => true)
structure Perm (π inv : List Nat) (ops : Array Oper) : Prop where
 len : π.length = ops.size
 pi : ∀ i, i < ops.size → π.getD i 0 < ops.size
 iv : ∀ i, i < ops.size → inv.getD i 0 < ops.size
 ip : ∀ i, i < ops.size → inv.getD (π.getD i 0) 0 = i
 pv : ∀ i, i < ops.size → π.getD (inv.getD i 0) 0 = i
 edge : ∀ (i : Nat) (o : Oper), ops[i]? = some o → ∀ e ∈ o.after, e.on < ops.size
 guard : ∀ (i : Nat) (o : Oper) (g : Nat × Bool), ops[i]? = some o → o.guard = some g → g.1 < ops.size
theorem b6D {π inv : List Nat} {ops : Array Oper} (h : a8h π inv ops = true) : Perm π inv ops := by
 unfold a8h at h
 simp only [cT, decide_eq_true_eq, dg, dm] at h
 obtain ⟨⟨⟨h1, h2⟩, h3⟩, h4⟩ := h
 refine ⟨h1, fun i hi => (h3 i hi).1.1.1, fun i hi => (h3 i hi).1.1.2, fun i hi => (h3 i hi).1.2, fun i hi => (h3 i hi).2, fun i o ho e he => ?_, fun i o g ho hg => ?_⟩
 ·exact (h4 o (dA (i := i) (by simpa using ho))).1 e (by simpa using he)
 ·have := (h4 o (dA (i := i) (by simpa using ho))).2
  rw [hg] at this
  simpa using this
variable {π inv : List Nat} {ops : Array Oper}
theorem a5v (p : Nat) : (jG π inv ops)[p]? = (π[p]?).map fun i => wG inv (ops.getD i default) := by
 simp [jG]
theorem pL (D : Perm π inv ops) {p i : Nat} {o : Oper} (hp : p < ops.size) (hi : π.getD p 0 = i) (ho : ops[i]? = some o) : (jG π inv ops)[p]? = some (wG inv o) := by
 rw [a5v]
 have h1 : π[p]? = some i := by
  rw [cV] at hi
  rw [db (by rw [D.len]; exact hp)] at hi ⊢
  simpa using hi
 rw [h1]
 simp only [dy]
 rw [dJ, ho]
 rfl
theorem oJ (D : Perm π inv ops) : (jG π inv ops).size = ops.size := by simp [jG, D.len]
theorem a3R (D : Perm π inv ops) (tmps : Array Value) {j : Nat} (hj : j < ops.size) : yielded (jG π inv ops) tmps (inv.getD j 0) = yielded ops tmps j := by
 have ho : ops[j]? = some ops[j] := cX.2 ⟨hj, rfl⟩
 unfold yielded
 rw [pL D (D.iv j hj) (D.pv j hj) ho, ho]
 rfl
theorem a6t (D : Perm π inv ops) (tmps : Array Value) {i : Nat} {o : Oper} (ho : ops[i]? = some o) : Region.wanted (wG inv o) (yielded (jG π inv ops) tmps) = Region.wanted o (yielded ops tmps) := by
 unfold Region.wanted
 have e : (wG inv o).guard = o.guard.map fun g => (inv.getD g.1 0, g.2) := rfl
 rw [e]
 cases hg : o.guard with
 | none => rfl
 | some g =>
   simp only [dy]
   rw [a3R D tmps (D.guard i o g ho hg)]
theorem b6K (ro : Option Nat) (ρ : Operand → Value) (o : Oper) : (wG inv o).semAt ro ρ = o.semAt ro ρ := by
 obtain ⟨dst, op, type, pos, after, guard⟩ := o
 rfl
theorem b0C (w : World) (ρ : Operand → Value) (o : Oper) : (wG inv o).about P w ρ = o.about P w ρ := by
 obtain ⟨dst, op, type, pos, after, guard⟩ := o
 rfl
theorem b3w (F : Fence) (n : Nat) (o : Oper) (a : Act) (next : Act → World → Prop) (Q : Exit → Act → World → Prop) (r : Result Next) : (wG inv o).uponIn F n P a next Q r = o.uponIn F n P a next Q r := by
 obtain ⟨dst, op, type, pos, after, guard⟩ := o
 cases r with
 | ok x w => cases x <;> rfl
 | halt x w => cases x <;> rfl
theorem b1l (D : Perm π inv ops) (F : Fence) (n : Nat) (Q : Exit → Act → World → Prop) {i : Nat} (hi : i < ops.size) (K : Act → World → Prop) (a : Act) (w : World) :
 wpOpIn F n P (jG π inv ops) Q (inv.getD i 0) K a w = wpOpIn F n P ops Q i K a w := by
 have ho : ops[i]? = some ops[i] := cX.2 ⟨hi, rfl⟩
 unfold wpOpIn
 rw [pL D (D.iv i hi) (D.pv i hi) ho, ho]
 simp only [a6t D a.tmps ho, Oper.wpIn, b0C, b3w, b6K]
 rfl
def b9q (inv : List Nat) (n : Nat) (listed listed' : Array Bool) : Prop := listed.size = n ∧ listed'.size = n ∧ ∀ i, i < n → listed.getD i false = listed'.getD (inv.getD i 0) false
theorem uX (D : Perm π inv ops) {listed listed' : Array Bool} (hc : b9q inv ops.size listed listed') {i : Nat} (hi : i < ops.size) :
 i ∈ Region.ready .any ops listed ↔ inv.getD i 0 ∈ Region.ready .any (jG π inv ops) listed' := by
 have ho : ops[i]? = some ops[i] := cX.2 ⟨hi, rfl⟩
 have ho' := pL D (D.iv i hi) (D.pv i hi) ho
 have hsz := oJ D
 obtain ⟨c1, c2, c3⟩ := hc
 constructor
 ·intro h
  obtain ⟨o, h1, h2, h3⟩ := nN c1 h
  rw [ho] at h1
  obtain rfl := cQ h1
  refine xS (by rw [hsz]; exact c2) ho' (by rw [← c3 i hi]; exact h2) ?_
  intro e he hb
  have he' : e ∈ (ops[i]).after.map (b8y inv) := he
  obtain ⟨e0, he0, rfl⟩ := Array.mem_map.1 he'
  have := h3 e0 he0 hb
  show listed'.getD (inv.getD e0.on 0) false = true
  rw [← c3 _ (D.edge i _ ho e0 he0)]
  exact this
 ·intro h
  obtain ⟨o, h1, h2, h3⟩ := nN (by rw [hsz]; exact c2) h
  rw [ho'] at h1
  obtain rfl := cQ h1
  refine xS c1 ho (by rw [c3 i hi]; exact h2) ?_
  intro e he hb
  have := h3 (b8y inv e) (Array.mem_map.2 ⟨e, he, rfl⟩) hb
  rw [c3 _ (D.edge i _ ho e he)]
  exact this
theorem b3G (D : Perm π inv ops) (F : Fence) (k : Nat) {Q : Exit → Act → World → Prop} : ∀ (fuel : Nat) (listed listed' : Array Bool) (a : Act) (w : World), b9q inv ops.size listed listed' →
 wpAnyIn F k P .any (jG π inv ops) Q fuel listed' a w → wpAnyIn F k P .any ops Q fuel listed a w := by
 have hsz := oJ D
 have nil1 : ∀ {listed listed' : Array Bool}, b9q inv ops.size listed listed' → (Region.ready .any ops listed = [] ↔ Region.ready .any (jG π inv ops) listed' = []) := by
  intro listed listed' hc
  constructor
  ·intro h
   cases hr : Region.ready .any (jG π inv ops) listed' with
   | nil => rfl
   | cons p r =>
     exfalso
     have hp : p ∈ Region.ready .any (jG π inv ops) listed' := by rw [hr]; exact dV ..
     obtain ⟨o, h1, _, _⟩ := nN (by rw [hsz]; exact hc.2.1) hp
     have hpn : p < ops.size := by rw [← hsz]; exact (cX.1 h1).1
     have := (uX D hc (D.pi p hpn)).2 (by rw [D.ip p hpn]; exact hp)
     rw [h] at this
     cases this
  ·intro h
   cases hr : Region.ready .any ops listed with
   | nil => rfl
   | cons i r =>
     exfalso
     have hi : i ∈ Region.ready .any ops listed := by rw [hr]; exact dV ..
     obtain ⟨o, h1, _, _⟩ := nN hc.1 hi
     have := (uX D hc (cX.1 h1).1).1 hi
     rw [h] at this
     cases this
 intro fuel
 induction fuel with
 | zero =>
   intro listed listed' a w hc h
   exact ⟨(nil1 hc).2 h.1, h.2⟩
 | succ fuel ih =>
   intro listed listed' a w hc h
   refine ⟨fun hn => h.1 ((nil1 hc).1 hn), fun i hi => ?_⟩
   obtain ⟨o, h1, _, _⟩ := nN hc.1 hi
   have hin := (cX.1 h1).1
   have h2 := h.2 _ ((uX D hc hin).1 hi)
   rw [b1l D F k Q hin] at h2
   refine wpOpIn_mono (fun a' w' h3 => ih _ _ a' w' ⟨by simpa using hc.1, by simpa using hc.2.1, fun j hj => ?_⟩ h3) h2
   have e1 := rF (listed := listed) (i := i) (by rw [hc.1]; exact hin) j
   have e2 := rF (listed := listed') (i := inv.getD i 0) (by rw [hc.2.1]; exact D.iv i hin) (inv.getD j 0)
   have e3 : (inv.getD j 0 = inv.getD i 0) ↔ j = i := ⟨fun h => by rw [← D.pv j hj, h, D.pv i hin], fun h => by rw [h]⟩
   rw [dM, e1, e2, e3, hc.2.2 j hj]
end
section
variable {P : Program} {H : Heap} {π inv : List Nat} {ops : Array Oper}
theorem Sim.cB (jM : P.follows .mixedOrders = true) {id : Nat} (Dp : Perm π inv ops) {fl : Fl} (D : Draw P fl (jG π inv ops)) {T : Nat → List Value × Heap} {val : Nat → Value} (X : Text P (jG π inv ops) T val)
 (hread : ∀ i m o, (i, m) ∈ lH fl (jG π inv ops) → (jG π inv ops)[i]? = some o → Region.wanted o (iB (jG π inv ops) (T i).1) = true → ∃ H2, opD P o (T i).1 (T m).2 = some (val i, H2)) :
 Sim P (.region id ops true) (T 0).1 (T 0).2 .normal (T ops.size).1 (T ops.size).2 := by
 intro ro k B ρ w a hr hE hl hM hB
 have hsz := oJ Dp
 have := a2g D X hread ro k B hr hE hM
 rw [hsz] at this
 exact wpIn_region_any jM (b3G Dp (fe ro) k ops.size _ _ a _ ⟨by simp, by simp, fun i hi => by
  have := Dp.iv i hi
  simp only [dJ, Array.getElem?_replicate, hi, this, if_true]⟩ this)
theorem a1E (D : Perm π inv ops) (l : List Value) {j : Nat} (hj : j < ops.size) : iB (jG π inv ops) l (inv.getD j 0) = iB ops l j := by
 have ho : ops[j]? = some ops[j] := cX.2 ⟨hj, rfl⟩
 unfold iB
 rw [pL D (D.iv j hj) (D.pv j hj) ho, ho]
 rfl
theorem vC (D : Perm π inv ops) (l : List Value) {i : Nat} {o : Oper} (ho : ops[i]? = some o) : Region.wanted (wG inv o) (iB (jG π inv ops) l) = Region.wanted o (iB ops l) := by
 unfold Region.wanted
 have e : (wG inv o).guard = o.guard.map fun g => (inv.getD g.1 0, g.2) := rfl
 rw [e]
 cases hg : o.guard with
 | none => rfl
 | some g =>
   simp only [dy]
   rw [a1E D l (D.guard i o g ho hg)]
theorem a9d (o : Oper) (l : List Value) (K : Value → Heap → Prop) : lB P (wG inv o) l H K = lB P o l H K := by
 obtain ⟨dst, op, type, pos, after, guard⟩ := o
 rfl
theorem a2M (D : Perm π inv ops) : ∀ (os : List Oper) (tr : List (List Value × Heap × Value)) (l : List Value) (H : Heap) (K : List (List Value × Heap × Value) → List Value → Heap → Prop), (∀ o ∈ os, ∃ i : Nat, ops[i]? = some o) →
 lG P (jG π inv ops) (os.map (wG inv)) tr l H K = lG P ops os tr l H K
 | [], _, _, _, _, _ => rfl
 | o :: os, tr, l, H, K, h => by
   obtain ⟨i, ho⟩ := h o (by simp)
   have ih := fun tr l H => a2M D os tr l H K fun o ho => h o (by simp [ho])
   rw [dO, lG, lG, vC D l ho]
   have e : (wG inv o).dst = o.dst := rfl
   simp only [a9d, e, ih]
def b8k (o : Option Oper) (os : List Oper) : List Oper := match o with | some o => o :: os | none => os
def sel (os : List Oper) : List Nat → List Oper
 | [] => []
 | i :: π => b8k os[i]? (sel os π)
theorem b7r (os : List Oper) : sel os [] = [] := rfl
theorem a4G (os : List Oper) (i : Nat) (π : List Nat) : sel os (i :: π) = b8k os[i]? (sel os π) := rfl
theorem a2I (o : Oper) (os : List Oper) : b8k (some o) os = o :: os := rfl
theorem a8I (os : List Oper) : ∀ (π : List Nat), (∀ i ∈ π, i < os.length) → sel os π = π.map fun i => os.toArray.getD i default
 | [], _ => rfl
 | i :: π, h => by
   have hi := h i (by simp)
   rw [a4G, a8I os π fun j hj => h j (by simp [hj]), db hi, a2I, dO]
   congr 1
   simp [dJ, hi]
def xC (P : Program) (os : List Oper) (tr : List (List Value × Heap × Value)) (H1 : Heap) (π : List Nat) : List (Nat × Nat) → Prop
 | [] => True
 | (p, m) :: r => rdW P os.toArray (os[π.getD p 0]?) tr[p]? (trH tr[m]? H1) ∧ xC P os tr H1 π r
theorem a7W (os : List Oper) (tr) (H1 : Heap) (π : List Nat) : xC P os tr H1 π [] = True := rfl
theorem a5A (os : List Oper) (tr) (H1 : Heap) (π : List Nat) (p m : Nat) (r : List (Nat × Nat)) : xC P os tr H1 π ((p, m) :: r) = (rdW P os.toArray (os[π.getD p 0]?) tr[p]? (trH tr[m]? H1) ∧ xC P os tr H1 π r) := rfl
theorem a0o {os : List Oper} {tr} {H1 : Heap} {π : List Nat} : ∀ {tab : List (Nat × Nat)}, xC P os tr H1 π tab → ∀ x ∈ tab, rdW P os.toArray (os[π.getD x.1 0]?) tr[x.1]? (trH tr[x.2]? H1)
 | [], _, x, hx => by cases hx
 | (i, m) :: r, h, x, hx => by
   rcases dK.1 hx with rfl | hx
   ·exact h.1
   ·exact a0o h.2 x hx
theorem Wp.cd (jM : P.follows .mixedOrders = true) {id : Nat} {os : List Oper} {l : List Value} {Q : mL} (π inv : List Nat) (fl : Fl) (tab : List (Nat × Nat)) (hp : a8h π inv os.toArray = true)
 (htab : a0M P fl (jG π inv os.toArray) = some tab) (hn : sK (jG π inv os.toArray) tab = true)
 (h : lG P os.toArray (sel os π) [] l H fun tr l1 H1 => Q .normal l1 H1 ∧ xC P os tr H1 π tab) : Wp P (.region id os.toArray true) l H Q := by
 have Dp := b6D hp
 obtain ⟨D, htb⟩ := a1P htab
 have hsz := oJ Dp
 have hmem : ∀ i ∈ π, i < os.length := fun i hi => by
  obtain ⟨p, hpl, hpe⟩ := dI.1 hi
  have := Dp.pi p (by rw [← Dp.len]; exact hpl)
  rw [cV, db hpl, eI, hpe] at this
  simpa using this
 have hsel : (sel os π).map (wG inv) = (jG π inv os.toArray).toList := by
  rw [a8I os π hmem]
  simp [jG]
 rw [← a2M Dp (sel os π) [] l H _ (fun o ho => by
  rw [a8I os π hmem, dx] at ho
  obtain ⟨i, hi, rfl⟩ := ho
  have := hmem i hi
  exact ⟨i, by simp [dJ, this]⟩), hsel] at h
 obtain ⟨T, val, l', H', ext, h0, h1, h2, h3, h4, h5, h6⟩ := sY (jG π inv os.toArray).toList 0 rfl [] l H h
 have hlen : (jG π inv os.toArray).toList.length = os.toArray.size := by rw [eW, hsz]
 rw [hlen] at h1 h2 h3 h4
 have := Sim.cB jM (id := id) Dp D (T := T) (val := val) ⟨fun k hk => by rw [hsz] at hk; simpa using h4 k hk⟩ fun i m o hm ho hw => by
  rw [← htb] at hm
  have hr := a0o h6 (i, m) hm
  have hi : i < os.toArray.size := by rw [← hsz]; exact (cX.1 ho).1
  have hpi := Dp.pi i hi
  have hoo : os.toArray[π.getD i 0]? = some (os.toArray[π.getD i 0]) := cX.2 ⟨hpi, rfl⟩
  have hat := pL (inv := inv) Dp hi rfl hoo
  rw [ho] at hat
  have hat := cQ hat
  have hoo' : os[π.getD i 0]? = some (os.toArray[π.getD i 0]) := by rw [← hoo]; simp
  simp only [eM] at hr
  rw [hoo', h3 i hi] at hr
  unfold rdW at hr
  rw [hat, vC Dp _ hoo] at hw
  have hr := hr hw
  have hno : wH o = true := by
   unfold sK at hn
   have := dg.1 hn (i, m) hm
   simpa [ho] using this
  have hTm : trH ext[m]? H' = (T m).2 ∨ os.toArray.size < m := by
   unfold trH
   by_cases hm2 : m < os.toArray.size
   ·left; rw [h3 m hm2]
   ·by_cases hm3 : m = os.toArray.size
    ·left
     rw [dL (by omega), hm3, h1]
    ·right; omega
  rcases hTm with hTm | hTm
  ·rw [hTm, ← a9d (inv := inv), ← hat] at hr
   obtain ⟨v, H2, h7, h8⟩ := a8U hno hr
   exact ⟨H2, by rw [h7, h8]⟩
  ·exfalso
   rw [htb] at hm
   have := a0l hm
   rw [hsz] at this
   omega
 rw [h0, h1] at this
 exact ⟨_, _, _, this, h5⟩
end
def RA :=
 And.intro @b5d <| And.intro @b3i <| And.intro @b5Z <| And.intro @c0a <| And.intro @b9u <| And.intro @b2f <| And.intro @b6g <| And.intro @b8F <| And.intro @b6Y <| And.intro @b5k <| And.intro @b2N <| And.intro @a4o <| And.intro @a9O <| And.intro @b1R <| And.intro @a9F <| And.intro @a6E <| And.intro @a6A <| And.intro @a6g <| And.intro @b2g <| And.intro @a6G <| And.intro @b2L <| And.intro @b2t <| And.intro @b0w <| And.intro @b1j <| And.intro @b6b <| And.intro @b1z <| And.intro @a1s <| And.intro @a1H <| And.intro @a8p <| And.intro @b2n <| And.intro @b0y <| And.intro @b6o <| And.intro @a1I <| And.intro @a1M <| And.intro @b4T <| And.intro @c0c <| And.intro @a5Z <| And.intro @a5p <| And.intro @b0Q <| And.intro @b3f <| And.intro @a3B <| And.intro @a7U <| And.intro @a7B <| And.intro @a8t <| And.intro @a6P <| And.intro @a6o <| And.intro @a1C <| And.intro @a3w <| And.intro @a0I <| And.intro @a9P <| And.intro @b7s <| And.intro @b6C <| And.intro @b2K <| And.intro @a7h <| And.intro @b1p <| And.intro @a9S <| And.intro @a7t <| And.intro @a7q <| And.intro @a6q <| And.intro @a4i <| And.intro @b3T <| And.intro @a9V <| And.intro @a1D <| And.intro @a8d <| And.intro @a5O <| And.intro @a1w <| And.intro @a5f <| And.intro @a7F <| And.intro @a4T <| @b2h
def RB :=
 And.intro @b6l <| And.intro @a6J <| And.intro @a6z <| And.intro @b1t <| And.intro @a8E <| And.intro @a5L <| And.intro @a4K <| And.intro @b4a <| And.intro @a5R <| And.intro @a5d <| And.intro @b6O <| And.intro @b1h <| And.intro @a7a <| And.intro @b5S <| And.intro @b5Q <| And.intro @b5A <| And.intro @b6Z <| And.intro @a7m <| And.intro @a4q <| And.intro @b7g <| And.intro @b9e <| And.intro @b4u <| And.intro @a5t <| And.intro @a8G <| And.intro @b6T <| And.intro @b5c <| And.intro @b3c <| And.intro @a9U <| And.intro @b1k <| And.intro @b0z <| And.intro @b0L <| And.intro @b1n <| And.intro @b0S <| And.intro @b1B <| And.intro @b1u <| And.intro @b0l <| And.intro @b0d <| And.intro @b0t <| And.intro @b1b <| And.intro @b4C <| And.intro @b0o <| And.intro @a3d <| And.intro @b1C <| And.intro @b0T <| And.intro @a9M <| And.intro @b1w <| And.intro @b1D <| And.intro @b3M <| And.intro @b2B <| And.intro @b3j <| And.intro @b5O <| And.intro @b3K <| And.intro @a5g <| And.intro @a7i <| And.intro @a6x <| And.intro @b7q <| And.intro @b3b <| And.intro @a6r <| And.intro @b3v <| And.intro @b4r <| And.intro @a9D <| And.intro @a7L <| And.intro @b4D <| And.intro @b1r <| And.intro @a7A <| And.intro @b0W <| And.intro @b4h <| And.intro @a6y <| And.intro @b0K <| And.intro @b0q <| And.intro @a7Y <| And.intro @b1e <| And.intro @a7S <| And.intro @b7r <| And.intro @a4G <| And.intro @a2I <| And.intro @a7W <| And.intro @a5A <| And.intro @b6q <| And.intro @b1N <| And.intro @a9T <| And.intro @b2R <| And.intro @b3U <| And.intro @b0p <| And.intro @b3N <| And.intro @a9N <| And.intro @a4c <| And.intro @a7v <| And.intro @a5i <| And.intro @a7w <| And.intro @a8C <| And.intro @b3d <| And.intro @b4m <| And.intro @b1s <| And.intro @b4M <| And.intro @a5y <| And.intro @a3x <| And.intro @a5o <| And.intro @a5b <| And.intro @a4Q <| And.intro @c2s <| And.intro @c2e <| And.intro @b6F <| And.intro @b5s <| And.intro @b2c <| And.intro @b4e <| And.intro @b3F <| And.intro @a7j <| And.intro @b6G <| And.intro @b4F <| And.intro @b5j <| And.intro @pD <| And.intro @b4H <| And.intro @b2q <| @b6V
theorem RT :
 (∀ {α : Type} (l : List α), [] ++ l = l) ∧
 (∀ {α : Type} (l : List α), l ++ [] = l) ∧
 (∀ {α : Type} {a : α} {l m : List α}, a :: l ++ m = a :: (l ++ m)) ∧
 (∀ (cs : List Value) (i : Nat) (v : Value) (vs : List Value), iG cs i (v :: vs) = iG (cs.set i v) (i + 1) vs) ∧
 (∀ (cs : List Value) (i : Nat), iG cs i [] = cs) ∧
 (∀ {α : Type} {x : α} {xs : List α} {a : α}, (x :: xs).set 0 a = a :: xs) ∧
 (∀ {α : Type} {x : α} {xs : List α} {i : Nat} {a : α}, (x :: xs).set (i + 1) a = x :: xs.set i a) ∧
 (∀ (n : Nat), 0 + n = n) ∧
 (∀ (n : Nat), n * 1 = n) ∧
 (∀ (n : Nat), n + 0 = n) :=
 ⟨@List.nil_append, @List.append_nil, @List.cons_append, @oN, @rY, @List.set_cons_zero, @List.set_cons_succ, @Nat.zero_add, @Nat.mul_one, @Nat.add_zero⟩
end Go.Ds
namespace Go.Ds
open Go.Proofs Go.Proofs.Tryz
abbrev I (n : Int) : Value := .int .i64 n
theorem sR (H : Heap) : St prog H H [] := .refl ..
theorem jM : prog.follows .mixedOrders = true := by kernel_rfl
theorem tS3 : gP prog 3 = some 1 := by kernel_rfl
theorem b5z : gP prog 26 = some 3 := by kernel_rfl
theorem b5N : gP prog 28 = some 1 := by kernel_rfl
theorem vZ : gP prog 30 = some 3 := by kernel_rfl
theorem c1r : gP prog 31 = some 6 := by kernel_rfl
theorem c1Z : gP prog 36 = some 1 := by kernel_rfl
theorem c2d : gP prog 37 = some 1 := by kernel_rfl
theorem b6s : gP prog 38 = some 1 := by kernel_rfl
theorem oD : gP prog 40 = some 4 := by kernel_rfl
theorem b7l : gP prog 60 = some 1 := by kernel_rfl
theorem uK : gP prog 67 = some 2 := by kernel_rfl
theorem rT : gP prog 74 = some 2 := by kernel_rfl
theorem yD : gP prog 76 = some 2 := by kernel_rfl
theorem b5F : gP prog 77 = some 1 := by kernel_rfl
theorem vX : gP prog 79 = some 6 := by kernel_rfl
theorem nP : gP prog 96 = some 2 := by kernel_rfl
theorem uB : gP prog 108 = some 2 := by kernel_rfl
theorem b7H : gP prog 109 = some 1 := by kernel_rfl
theorem tS : gP prog 111 = some 5 := by kernel_rfl
theorem a9e : gP prog 120 = some 4 := by kernel_rfl
theorem b2Q : gP prog 124 = some 9 := by kernel_rfl
theorem tX : gP prog 126 = some 1 := by kernel_rfl
theorem nH : gP prog 128 = some 4 := by kernel_rfl
theorem b2y : gP prog 131 = some 4 := by kernel_rfl
theorem a9s : gP prog 133 = some 4 := by kernel_rfl
theorem tW : gP prog 135 = some 5 := by kernel_rfl
theorem yP : gP prog 186 = some 2 := by kernel_rfl
theorem a1c : gP prog 189 = some 3 := by kernel_rfl
theorem a8Q : gP prog 204 = some 3 := by kernel_rfl
theorem b3E : gP prog 207 = some 1 := by kernel_rfl
theorem b8R : iA prog 77 = some 1 := by kernel_rfl
theorem mF : kF prog 125 = true ∧ mS prog 9 = true ∧ kF prog 9 = false := ⟨by kernel_rfl, by kernel_rfl, by kernel_rfl⟩
theorem c3r (A i e : Nat) (k : IntKind) (j : Int) (h0 : 0 ≤ j) (h1 : j < 2) : uT (iA prog 31) prog 31 (ptr A i e) (.int k j) = some (ptr A (i + j.toNat * 3) e) := a3J (n := 2) (elem := 30) (size := 3) (by kernel_rfl) (by kernel_rfl) A i e k j h0 h1
theorem c3m (A i e : Nat) (k : IntKind) (j : Int) (h0 : 0 ≤ j) (h1 : j < 5) : uT (iA prog 53) prog 53 (ptr A i e) (.int k j) = some (ptr A (i + j.toNat * 1) e) := a3J (n := 5) (elem := 5) (size := 1) (by kernel_rfl) (by kernel_rfl) A i e k j h0 h1
theorem c0U (A i e : Nat) (k : IntKind) (j : Int) (h0 : 0 ≤ j) (h1 : j < 64) : uT (iA prog 320) prog 320 (ptr A i e) (.int k j) = some (ptr A (i + j.toNat * 1) e) := a3J (n := 64) (elem := 5) (size := 1) (by kernel_rfl) (by kernel_rfl) A i e k j h0 h1
theorem c3k : mD prog 27 = some (1, 8) := by kernel_rfl
theorem c3l : ((gR prog 27).bind (iI prog)).any iJ = true := by kernel_rfl
theorem c3F : mD prog 33 = some (2, 16) := by kernel_rfl
theorem c3v : ((gR prog 33).bind (iI prog)).any iJ = true := by kernel_rfl
theorem b8U : mD prog 36 = some (6, 80) := by kernel_rfl
theorem c0o : ((gR prog 36).bind (iI prog)).any iJ = true := by kernel_rfl
theorem b8K : mD prog 37 = some (5, 64) := by kernel_rfl
theorem c1k : ((gR prog 37).bind (iI prog)).any iJ = true := by kernel_rfl
theorem a7x : mD prog 38 = some (5, 48) := by kernel_rfl
theorem b7e : ((gR prog 38).bind (iI prog)).any iJ = true := by kernel_rfl
theorem a9J : mD prog 45 = some (2, 16) := by kernel_rfl
theorem b9x : ((gR prog 45).bind (iI prog)).any iJ = true := by kernel_rfl
theorem a1K : mD prog 60 = some (2, 16) := by kernel_rfl
theorem b4E : ((gR prog 60).bind (iI prog)).any iJ = true := by kernel_rfl
theorem b8s : mD prog 63 = some (3, 24) := by kernel_rfl
theorem c0P : ((gR prog 63).bind (iI prog)).any iJ = true := by kernel_rfl
theorem a3l : mD prog 77 = some (1, 8) := by kernel_rfl
theorem a7R : ((gR prog 77).bind (iI prog)).any iJ = true := by kernel_rfl
theorem b3L : mD prog 109 = some (4, 56) := by kernel_rfl
theorem b7N : ((gR prog 109).bind (iI prog)).any iJ = true := by kernel_rfl
theorem a9b : mD prog 125 = some (1, 1) := by kernel_rfl
theorem a9A : ((gR prog 125).bind (iI prog)).any iJ = true := by kernel_rfl
theorem oH : mD prog 126 = some (3, 40) := by kernel_rfl
theorem uE : ((gR prog 126).bind (iI prog)).any iJ = true := by kernel_rfl
theorem b1X : mD prog 139 = some (3, 40) := by kernel_rfl
theorem b2m : ((gR prog 139).bind (iI prog)).any iJ = true := by kernel_rfl
theorem c2f : mD prog 144 = some (1, 16) := by kernel_rfl
theorem c0I : ((gR prog 144).bind (iI prog)).any iJ = true := by kernel_rfl
theorem b8c : mD prog 145 = some (2, 16) := by kernel_rfl
theorem c0q : ((gR prog 145).bind (iI prog)).any iJ = true := by kernel_rfl
theorem a2y : mD prog 187 = some (2, 16) := by kernel_rfl
theorem a2v : ((gR prog 187).bind (iI prog)).any iJ = true := by kernel_rfl
theorem b7U : mD prog 231 = some (2, 16) := by kernel_rfl
theorem b8i : ((gR prog 231).bind (iI prog)).any iJ = true := by kernel_rfl
theorem c3A : b8E prog 77 = some (8, .int .i64 0) := by kernel_rfl
theorem c0M (t2 : TypeId) (cx cy : Bool) (a0 : Int) (a1 : Int) (b0 : Int) (b1 : Int) : kH prog .eql 67 t2 cx cy (.agg #[.int .i64 a0, .int .i64 a1]) (.agg #[.int .i64 b0, .int .i64 b1]) = some (.bool (decide (a0 = b0 ∧ a1 = b1))) ∧ kH prog .neq 67 t2 cx cy (.agg #[.int .i64 a0, .int .i64 a1]) (.agg #[.int .i64 b0, .int .i64 b1]) = some (.bool (decide (¬ (a0 = b0 ∧ a1 = b1)))) := by
 have h := vD (P := prog) (t := 67) (t2 := t2) (cx := cx) (cy := cy) (xs := [.int .i64 a0, .int .i64 a1]) (ys := [.int .i64 b0, .int .i64 b1]) (by kernel_rfl) (by kernel_rfl) (by kernel_rfl) (by kernel_rfl) rfl (by kernel_rfl) rfl rfl
 have e : ((List.range [Value.int .i64 a0, .int .i64 a1].length).all fun j => zR ([Value.int .i64 a0, .int .i64 a1].getD j undef) ([Value.int .i64 b0, .int .i64 b1].getD j undef)) = decide (a0 = b0 ∧ a1 = b1) := by
  show (zR (Value.int .i64 a0) (.int .i64 b0) && (zR (Value.int .i64 a1) (.int .i64 b1) && true)) = _
  rw [dM]
  simp [zR]
 rw [e] at h
 exact ⟨h.1, by rw [h.2]; simp⟩
theorem c0F (t2 : TypeId) (cx cy : Bool) (a0 : Int) (a1 : Int) (b0 : Int) (b1 : Int) : kH prog .eql 67 t2 cx cy (.agg #[.int .i64 a0, .int .i64 a1]) (.agg #[.int .i64 b0, .int .i64 b1]) = some (.bool (decide (a0 = b0 ∧ a1 = b1))) := (c0M t2 cx cy a0 a1 b0 b1).1
theorem c0j (t2 : TypeId) (cx cy : Bool) (a0 : Int) (a1 : Int) (b0 : Int) (b1 : Int) : kH prog .neq 67 t2 cx cy (.agg #[.int .i64 a0, .int .i64 a1]) (.agg #[.int .i64 b0, .int .i64 b1]) = some (.bool (decide (¬ (a0 = b0 ∧ a1 = b1)))) := (c0M t2 cx cy a0 a1 b0 b1).2
theorem c1V (t2 : TypeId) (cx cy : Bool) (a0 : Int) (a1 : Int) (b0 : Int) (b1 : Int) : kH prog .eql 74 t2 cx cy (.agg #[.int .i64 a0, .int .i64 a1]) (.agg #[.int .i64 b0, .int .i64 b1]) = some (.bool (decide (a0 = b0 ∧ a1 = b1))) ∧ kH prog .neq 74 t2 cx cy (.agg #[.int .i64 a0, .int .i64 a1]) (.agg #[.int .i64 b0, .int .i64 b1]) = some (.bool (decide (¬ (a0 = b0 ∧ a1 = b1)))) := by
 have h := vD (P := prog) (t := 74) (t2 := t2) (cx := cx) (cy := cy) (xs := [.int .i64 a0, .int .i64 a1]) (ys := [.int .i64 b0, .int .i64 b1]) (by kernel_rfl) (by kernel_rfl) (by kernel_rfl) (by kernel_rfl) rfl (by kernel_rfl) rfl rfl
 have e : ((List.range [Value.int .i64 a0, .int .i64 a1].length).all fun j => zR ([Value.int .i64 a0, .int .i64 a1].getD j undef) ([Value.int .i64 b0, .int .i64 b1].getD j undef)) = decide (a0 = b0 ∧ a1 = b1) := by
  show (zR (Value.int .i64 a0) (.int .i64 b0) && (zR (Value.int .i64 a1) (.int .i64 b1) && true)) = _
  rw [dM]
  simp [zR]
 rw [e] at h
 exact ⟨h.1, by rw [h.2]; simp⟩
theorem c1n (t2 : TypeId) (cx cy : Bool) (a0 : Int) (a1 : Int) (b0 : Int) (b1 : Int) : kH prog .eql 74 t2 cx cy (.agg #[.int .i64 a0, .int .i64 a1]) (.agg #[.int .i64 b0, .int .i64 b1]) = some (.bool (decide (a0 = b0 ∧ a1 = b1))) := (c1V t2 cx cy a0 a1 b0 b1).1
theorem c0k (t2 : TypeId) (cx cy : Bool) (a0 : Int) (a1 : Int) (b0 : Int) (b1 : Int) : kH prog .neq 74 t2 cx cy (.agg #[.int .i64 a0, .int .i64 a1]) (.agg #[.int .i64 b0, .int .i64 b1]) = some (.bool (decide (¬ (a0 = b0 ∧ a1 = b1)))) := (c1V t2 cx cy a0 a1 b0 b1).2
theorem c1z (t2 : TypeId) (cx cy : Bool) (a0 : Int) (a1 : Int) (b0 : Int) (b1 : Int) : kH prog .eql 96 t2 cx cy (.agg #[.int .u64 a0, .int .u64 a1]) (.agg #[.int .u64 b0, .int .u64 b1]) = some (.bool (decide (a0 = b0 ∧ a1 = b1))) ∧ kH prog .neq 96 t2 cx cy (.agg #[.int .u64 a0, .int .u64 a1]) (.agg #[.int .u64 b0, .int .u64 b1]) = some (.bool (decide (¬ (a0 = b0 ∧ a1 = b1)))) := by
 have h := vD (P := prog) (t := 96) (t2 := t2) (cx := cx) (cy := cy) (xs := [.int .u64 a0, .int .u64 a1]) (ys := [.int .u64 b0, .int .u64 b1]) (by kernel_rfl) (by kernel_rfl) (by kernel_rfl) (by kernel_rfl) rfl (by kernel_rfl) rfl rfl
 have e : ((List.range [Value.int .u64 a0, .int .u64 a1].length).all fun j => zR ([Value.int .u64 a0, .int .u64 a1].getD j undef) ([Value.int .u64 b0, .int .u64 b1].getD j undef)) = decide (a0 = b0 ∧ a1 = b1) := by
  show (zR (Value.int .u64 a0) (.int .u64 b0) && (zR (Value.int .u64 a1) (.int .u64 b1) && true)) = _
  rw [dM]
  simp [zR]
 rw [e] at h
 exact ⟨h.1, by rw [h.2]; simp⟩
theorem c1l (t2 : TypeId) (cx cy : Bool) (a0 : Int) (a1 : Int) (b0 : Int) (b1 : Int) : kH prog .eql 96 t2 cx cy (.agg #[.int .u64 a0, .int .u64 a1]) (.agg #[.int .u64 b0, .int .u64 b1]) = some (.bool (decide (a0 = b0 ∧ a1 = b1))) := (c1z t2 cx cy a0 a1 b0 b1).1
theorem c1X (t2 : TypeId) (cx cy : Bool) (a0 : Int) (a1 : Int) (b0 : Int) (b1 : Int) : kH prog .neq 96 t2 cx cy (.agg #[.int .u64 a0, .int .u64 a1]) (.agg #[.int .u64 b0, .int .u64 b1]) = some (.bool (decide (¬ (a0 = b0 ∧ a1 = b1)))) := (c1z t2 cx cy a0 a1 b0 b1).2
theorem b7I (t2 : TypeId) (cx cy : Bool) (a0 : Int) (a1 : Int) (b0 : Int) (b1 : Int) : kH prog .eql 186 t2 cx cy (.agg #[.int .i64 a0, .int .i64 a1]) (.agg #[.int .i64 b0, .int .i64 b1]) = some (.bool (decide (a0 = b0 ∧ a1 = b1))) ∧ kH prog .neq 186 t2 cx cy (.agg #[.int .i64 a0, .int .i64 a1]) (.agg #[.int .i64 b0, .int .i64 b1]) = some (.bool (decide (¬ (a0 = b0 ∧ a1 = b1)))) := by
 have h := vD (P := prog) (t := 186) (t2 := t2) (cx := cx) (cy := cy) (xs := [.int .i64 a0, .int .i64 a1]) (ys := [.int .i64 b0, .int .i64 b1]) (by kernel_rfl) (by kernel_rfl) (by kernel_rfl) (by kernel_rfl) rfl (by kernel_rfl) rfl rfl
 have e : ((List.range [Value.int .i64 a0, .int .i64 a1].length).all fun j => zR ([Value.int .i64 a0, .int .i64 a1].getD j undef) ([Value.int .i64 b0, .int .i64 b1].getD j undef)) = decide (a0 = b0 ∧ a1 = b1) := by
  show (zR (Value.int .i64 a0) (.int .i64 b0) && (zR (Value.int .i64 a1) (.int .i64 b1) && true)) = _
  rw [dM]
  simp [zR]
 rw [e] at h
 exact ⟨h.1, by rw [h.2]; simp⟩
theorem b9h (t2 : TypeId) (cx cy : Bool) (a0 : Int) (a1 : Int) (b0 : Int) (b1 : Int) : kH prog .eql 186 t2 cx cy (.agg #[.int .i64 a0, .int .i64 a1]) (.agg #[.int .i64 b0, .int .i64 b1]) = some (.bool (decide (a0 = b0 ∧ a1 = b1))) := (b7I t2 cx cy a0 a1 b0 b1).1
theorem b9a (t2 : TypeId) (cx cy : Bool) (a0 : Int) (a1 : Int) (b0 : Int) (b1 : Int) : kH prog .neq 186 t2 cx cy (.agg #[.int .i64 a0, .int .i64 a1]) (.agg #[.int .i64 b0, .int .i64 b1]) = some (.bool (decide (¬ (a0 = b0 ∧ a1 = b1)))) := (b7I t2 cx cy a0 a1 b0 b1).2
theorem b2Z {a1 : Value} {a2 : Int} (h1 : a1.cells = #[a1] ∧ oneCell a1 = true ∧ nX a1 = true) : kB prog 30 [(0, a1), (1, .int .u64 a2)] = some (.agg #[a1, .int .u64 a2, .int .u64 0]) := by cases a1 <;> first | (exfalso; simp [oneCell] at h1; done) | kernel_rfl
theorem b9F {a1 : ByteArray} : kB prog 40 [(0, .string a1)] = some (.agg #[.string a1, .slice none 0 0, .slice none 0 0, .slice none 0 0]) := by kernel_rfl
theorem a3z {a1 : ByteArray} {a2 : Value} {a3 : Value} {a4 : Value} (h2 : a2.cells = #[a2] ∧ oneCell a2 = true ∧ nX a2 = true) (h3 : a3.cells = #[a3] ∧ oneCell a3 = true ∧ nX a3 = true) (h4 : a4.cells = #[a4] ∧ oneCell a4 = true ∧ nX a4 = true) : kB prog 40 [(0, .string a1), (1, a2), (2, a3), (3, a4)] = some (.agg #[.string a1, a2, a3, a4]) := by cases a2 <;> cases a3 <;> cases a4 <;> first | (exfalso; simp [oneCell] at h2; done) | (exfalso; simp [oneCell] at h3; done) | (exfalso; simp [oneCell] at h4; done) | kernel_rfl
theorem wT {a1 : Int} {a2 : Int} : kB prog 67 [(0, .int .i64 a1), (1, .int .i64 a2)] = some (.agg #[.int .i64 a1, .int .i64 a2]) := by kernel_rfl
theorem b8h : kB prog 74 [] = some (.agg #[.int .i64 0, .int .i64 0]) := by kernel_rfl
theorem a0A {a1 : Int} {a2 : Int} : kB prog 74 [(0, .int .i64 a1), (1, .int .i64 a2)] = some (.agg #[.int .i64 a1, .int .i64 a2]) := by kernel_rfl
theorem sD {a1 : Int} {a2 : Int} : kB prog 76 [(0, .int .i64 a1), (1, .int .i64 a2)] = some (.agg #[.int .i64 a1, .int .i64 a2]) := by kernel_rfl
theorem a3W {a1 : ByteArray} {a2 : ByteArray} {a3 : Int} {a4 : Int} {a5 : Int} : kB prog 79 [(0, .string a1), (1, .string a2), (2, .agg #[.int .i64 a3, .int .i64 a4]), (3, .int .i64 a5)] = some (.agg #[.string a1, .string a2, .int .i64 a3, .int .i64 a4, .int .i64 a5, .slice none 0 0]) := by kernel_rfl
theorem a0T {a1 : ByteArray} {a2 : ByteArray} {a3 : Int} {a4 : Int} {a5 : Int} {a6 : Value} (h6 : a6.cells = #[a6] ∧ oneCell a6 = true ∧ nX a6 = true) : kB prog 79 [(0, .string a1), (1, .string a2), (2, .agg #[.int .i64 a3, .int .i64 a4]), (3, .int .i64 a5), (4, a6)] = some (.agg #[.string a1, .string a2, .int .i64 a3, .int .i64 a4, .int .i64 a5, a6]) := by cases a6 <;> first | (exfalso; simp [oneCell] at h6; done) | kernel_rfl
theorem a4X {a1 : Int} {a2 : Int} {a3 : Int} : kB prog 82 [(0, .agg #[.int .i64 a1, .int .i64 a2]), (1, .int .i64 a3)] = some (.agg #[.int .i64 a1, .int .i64 a2, .int .i64 a3]) := by kernel_rfl
theorem b8f : kB prog 96 [] = some (.agg #[.int .u64 0, .int .u64 0]) := by kernel_rfl
theorem b2T {a1 : Int} {a2 : Int} : kB prog 96 [(0, .int .u64 a1), (1, .int .u64 a2)] = some (.agg #[.int .u64 a1, .int .u64 a2]) := by kernel_rfl
theorem a1Y {a1 : Int} {a2 : Int} : kB prog 108 [(0, .int .i64 a1), (1, .int .i64 a2)] = some (.agg #[.int .i64 a1, .int .i64 a2]) := by kernel_rfl
theorem a5E {a1 : ByteArray} {a2 : Bool} {a3 : Int} {a4 : Int} : kB prog 111 [(0, .string a1), (1, .bool a2), (2, .agg #[.int .i64 a3, .int .i64 a4])] = some (.agg #[.string a1, .bool a2, .int .i64 a3, .int .i64 a4, .slice none 0 0]) := by kernel_rfl
theorem zE {a1 : ByteArray} {a2 : Int} {a3 : Int} {a4 : Value} (h4 : a4.cells = #[a4] ∧ oneCell a4 = true ∧ nX a4 = true) : kB prog 111 [(0, .string a1), (2, .agg #[.int .i64 a2, .int .i64 a3]), (3, a4)] = some (.agg #[.string a1, .bool false, .int .i64 a2, .int .i64 a3, a4]) := by cases a4 <;> first | (exfalso; simp [oneCell] at h4; done) | kernel_rfl
theorem a9K {a1 : ByteArray} {a2 : Int} {a3 : Int} : kB prog 128 [(0, .string a1), (1, .agg #[.int .i64 a2, .int .i64 a3])] = some (.agg #[.string a1, .int .i64 a2, .int .i64 a3, .slice none 0 0]) := by kernel_rfl
theorem a4I {a1 : ByteArray} {a2 : Int} {a3 : Int} {a4 : Value} (h4 : a4.cells = #[a4] ∧ oneCell a4 = true ∧ nX a4 = true) : kB prog 128 [(0, .string a1), (1, .agg #[.int .i64 a2, .int .i64 a3]), (2, a4)] = some (.agg #[.string a1, .int .i64 a2, .int .i64 a3, a4]) := by cases a4 <;> first | (exfalso; simp [oneCell] at h4; done) | kernel_rfl
theorem a4H {a1 : ByteArray} {a2 : Int} {a3 : Int} : kB prog 135 [(0, .string a1), (1, .int .i64 a2), (2, .int .i64 a3)] = some (.agg #[.string a1, .int .i64 a2, .int .i64 a3, .int .i64 0, .bool false]) := by kernel_rfl
theorem zQ {a1 : ByteArray} {a2 : Int} {a3 : Int} {a4 : Int} {a5 : Bool} : kB prog 135 [(0, .string a1), (1, .int .i64 a2), (2, .int .i64 a3), (3, .int .i64 a4), (4, .bool a5)] = some (.agg #[.string a1, .int .i64 a2, .int .i64 a3, .int .i64 a4, .bool a5]) := by kernel_rfl
theorem oT {a1 : Int} {a2 : Int} : kB prog 186 [(0, .int .i64 a1), (1, .int .i64 a2)] = some (.agg #[.int .i64 a1, .int .i64 a2]) := by kernel_rfl
theorem b8v : kB prog 189 [] = some (.agg #[.int .i64 0, .int .i64 0, .slice none 0 0]) := by kernel_rfl
theorem kM {a1 : Int} {a2 : Int} {a3 : Value} (h3 : a3.cells = #[a3] ∧ oneCell a3 = true ∧ nX a3 = true) : kB prog 189 [(0, .int .i64 a1), (1, .int .i64 a2), (2, a3)] = some (.agg #[.int .i64 a1, .int .i64 a2, a3]) := by cases a3 <;> first | (exfalso; simp [oneCell] at h3; done) | kernel_rfl
theorem b0N {a1 : Value} {a2 : Int} {a3 : Int} (h1 : a1.cells = #[a1] ∧ oneCell a1 = true ∧ nX a1 = true) : kB prog 204 [(0, a1), (1, .agg #[.int .i64 a2, .int .i64 a3])] = some (.agg #[a1, .int .i64 a2, .int .i64 a3]) := by cases a1 <;> first | (exfalso; simp [oneCell] at h1; done) | kernel_rfl
theorem b0h {a1 : Int} {a2 : Int} : kB prog 277 [(0, .int .u64 a1), (1, .int .u64 a2)] = some (.agg #[.int .u64 a1, .int .u64 a2]) := by kernel_rfl
theorem tR3 (l : List Value) (H : Heap) : gO prog Tryz.f3 l H = some (get l 6) := rfl
theorem c3P (l : List Value) (H : Heap) : gO prog Tryz.f10 l H = some (get l 0) := rfl
theorem a6T (l : List Value) (H : Heap) : gO prog Tryz.f11 l H = some (get l 2) := rfl
theorem c3N (l : List Value) (H : Heap) : gO prog Tryz.f12 l H = oQ (iZ prog 40) (gP prog 40) H (get l 2) := by
 show (Option.bind (Option.bind (kU prog H 40 (get l 2)) fun v => some [v]) fun vs => _) = _
 rw [kS]
 cases oQ _ _ H (get l 2) <;> rfl
theorem b0s (l : List Value) (H : Heap) : gO prog Tryz.f13 l H = some (get l 4) := rfl
theorem b7h (l : List Value) (H : Heap) : gO prog Tryz.f14 l H = some (get l 4) := rfl
theorem c0s (l : List Value) (H : Heap) : gO prog Tryz.f15 l H = if (iW (get l 6) && (iW (get l 7) && true)) = true then some (.tuple #[get l 6, get l 7]) else none := rfl
theorem c1J (l : List Value) (H : Heap) : gO prog Tryz.f16 l H = if (iW (get l 8) && (iW (get l 9) && (iW (get l 10) && true))) = true then some (.tuple #[get l 8, get l 9, get l 10]) else none := rfl
theorem a1B (l : List Value) (H : Heap) : gO prog Tryz.f20 l H = some (get l 2) := rfl
theorem c0w (l : List Value) (H : Heap) : gO prog Tryz.f21 l H = if (iW (get l 6) && (iW (get l 7) && true)) = true then some (.tuple #[get l 6, get l 7]) else none := rfl
theorem c3D (l : List Value) (H : Heap) : gO prog Tryz.f22 l H = if (iW (get l 6) && (iW (get l 7) && true)) = true then some (.tuple #[get l 6, get l 7]) else none := rfl
theorem b9f (l : List Value) (H : Heap) : gO prog Tryz.f27 l H = some (get l 4) := rfl
theorem c3e (l : List Value) (H : Heap) : gO prog Tryz.f29 l H = some (.tuple #[]) := rfl
theorem b8m (l : List Value) (H : Heap) : gO prog Tryz.f31 l H = some (get l 4) := rfl
theorem c3L (l : List Value) (H : Heap) : gO prog Tryz.f44 l H = oQ (iZ prog 40) (gP prog 40) H (get l 0) := by
 show (Option.bind (Option.bind (kU prog H 40 (get l 0)) fun v => some [v]) fun vs => _) = _
 rw [kS]
 cases oQ _ _ H (get l 0) <;> rfl
theorem c2Z (l : List Value) (H : Heap) : gO prog Tryz.f45 l H = (oQ (iZ prog 96) (gP prog 96) H (get l 2)).bind fun v => if (iW v && (iW (get l 3) && true)) = true then some (.tuple #[v, get l 3]) else none := by
 show (Option.bind (Option.bind (kU prog H 96 (get l 2)) fun v => some [v, get l 3]) fun vs => _) = _
 rw [kS]
 cases oQ _ _ H (get l 2) <;> rfl
theorem b9j (l : List Value) (H : Heap) : gO prog Tryz.f46 l H = some (get l 4) := rfl
theorem c3H (l : List Value) (H : Heap) : gO prog Tryz.f47 l H = oQ (iZ prog 79) (gP prog 79) H (get l 4) := by
 show (Option.bind (Option.bind (kU prog H 79 (get l 4)) fun v => some [v]) fun vs => _) = _
 rw [kS]
 cases oQ _ _ H (get l 4) <;> rfl
theorem a6W (l : List Value) (H : Heap) : gO prog Tryz.f48 l H = oQ (iZ prog 128) (gP prog 128) H (get l 8) := by
 show (Option.bind (Option.bind (kU prog H 128 (get l 8)) fun v => some [v]) fun vs => _) = _
 rw [kS]
 cases oQ _ _ H (get l 8) <;> rfl
theorem c2P (l : List Value) (H : Heap) : gO prog Tryz.f49 l H = (oQ (iZ prog 96) (gP prog 96) H (get l 2)).bind fun v => if (iW v && (iW (get l 3) && true)) = true then some (.tuple #[v, get l 3]) else none := by
 show (Option.bind (Option.bind (kU prog H 96 (get l 2)) fun v => some [v, get l 3]) fun vs => _) = _
 rw [kS]
 cases oQ _ _ H (get l 2) <;> rfl
theorem c3a (l : List Value) (H : Heap) : gO prog Tryz.f50 l H = some (get l 4) := rfl
theorem c1P (l : List Value) (H : Heap) : gO prog Tryz.f51 l H = some (get l 6) := rfl
theorem c3t (l : List Value) (H : Heap) : gO prog Tryz.f52 l H = some (get l 6) := rfl
theorem c3i (l : List Value) (H : Heap) : gO prog Tryz.f53 l H = some (get l 2) := rfl
theorem c2Q (l : List Value) (H : Heap) : gO prog Tryz.f54 l H = some (get l 4) := rfl
theorem a9L (l : List Value) (H : Heap) : gO prog Tryz.f55 l H = some (get l 2) := rfl
theorem a6X (l : List Value) (H : Heap) : gO prog Tryz.f56 l H = some (get l 2) := rfl
theorem c1d (l : List Value) (H : Heap) : gO prog Tryz.f57 l H = some (get l 4) := rfl
theorem b2F (l : List Value) (H : Heap) : gO prog Tryz.f58 l H = some (get l 4) := rfl
theorem yN (l : List Value) (H : Heap) : gO prog Tryz.f59 l H = some (get l 4) := rfl
theorem c2H (l : List Value) (H : Heap) : gO prog Tryz.f60 l H = some (get l 6) := rfl
theorem c3q (l : List Value) (H : Heap) : gO prog Tryz.f61 l H = if (iW (get l 4) && (iW (get l 5) && true)) = true then some (.tuple #[get l 4, get l 5]) else none := rfl
theorem b8Q (l : List Value) (H : Heap) : gO prog Tryz.f63 l H = some (get l 4) := rfl
theorem c3B (l : List Value) (H : Heap) : gO prog Tryz.f65 l H = some (get l 6) := rfl
theorem b2z (l : List Value) (H : Heap) : gO prog Tryz.f66 l H = some (get l 4) := rfl
theorem b9W (l : List Value) (H : Heap) : gO prog Tryz.f72 l H = some (get l 2) := rfl
theorem c2K (l : List Value) (H : Heap) : gO prog Tryz.f74 l H = some (.tuple #[]) := rfl
theorem c2F (l : List Value) (H : Heap) : gO prog Tryz.f92 l H = some (get l 6) := rfl
theorem c3G (l : List Value) (H : Heap) : gO prog Tryz.f93 l H = oQ (iZ prog 79) (gP prog 79) H (get l 2) := by
 show (Option.bind (Option.bind (kU prog H 79 (get l 2)) fun v => some [v]) fun vs => _) = _
 rw [kS]
 cases oQ _ _ H (get l 2) <;> rfl
theorem c2I (l : List Value) (H : Heap) : gO prog Tryz.f94 l H = some (get l 2) := rfl
theorem c1S (l : List Value) (H : Heap) : gO prog Tryz.f95 l H = oQ (iZ prog 96) (gP prog 96) H (get l 4) := by
 show (Option.bind (Option.bind (kU prog H 96 (get l 4)) fun v => some [v]) fun vs => _) = _
 rw [kS]
 cases oQ _ _ H (get l 4) <;> rfl
theorem c3J (l : List Value) (H : Heap) : gO prog Tryz.f96 l H = oQ (iZ prog 76) (gP prog 76) H (get l 2) := by
 show (Option.bind (Option.bind (kU prog H 76 (get l 2)) fun v => some [v]) fun vs => _) = _
 rw [kS]
 cases oQ _ _ H (get l 2) <;> rfl
theorem c2L (l : List Value) (H : Heap) : gO prog Tryz.f97 l H = oQ (iZ prog 76) (gP prog 76) H (get l 2) := by
 show (Option.bind (Option.bind (kU prog H 76 (get l 2)) fun v => some [v]) fun vs => _) = _
 rw [kS]
 cases oQ _ _ H (get l 2) <;> rfl
theorem b4Z (l : List Value) (H : Heap) : gO prog Tryz.f98 l H = some (get l 2) := rfl
theorem c3z (l : List Value) (H : Heap) : gO prog Tryz.f99 l H = oQ (iZ prog 96) (gP prog 96) H (get l 4) := by
 show (Option.bind (Option.bind (kU prog H 96 (get l 4)) fun v => some [v]) fun vs => _) = _
 rw [kS]
 cases oQ _ _ H (get l 4) <;> rfl
theorem b3o (l : List Value) (H : Heap) : gO prog Tryz.f100 l H = some (get l 4) := rfl
theorem c0h (l : List Value) (H : Heap) : gO prog Tryz.f101 l H = some (get l 2) := rfl
theorem b7M (l : List Value) (H : Heap) : gO prog Tryz.f102 l H = if (iW (get l 6) && (iW (get l 7) && true)) = true then some (.tuple #[get l 6, get l 7]) else none := rfl
theorem c0V (l : List Value) (H : Heap) : gO prog Tryz.f103 l H = some (get l 4) := rfl
theorem a5B (l : List Value) (H : Heap) : gO prog Tryz.f104 l H = some (get l 2) := rfl
theorem a4J (l : List Value) (H : Heap) : gO prog Tryz.f105 l H = some (get l 2) := rfl
theorem b7X (l : List Value) (H : Heap) : gO prog Tryz.f106 l H = some (get l 2) := rfl
theorem b7S (l : List Value) (H : Heap) : gO prog Tryz.f107 l H = some (get l 2) := rfl
theorem rK (l : List Value) (H : Heap) : gO prog Tryz.f108 l H = some (get l 4) := rfl
theorem c1Q (l : List Value) (H : Heap) : gO prog Tryz.f109 l H = some (get l 4) := rfl
theorem c2c (l : List Value) (H : Heap) : gO prog Tryz.f110 l H = some (get l 3) := rfl
theorem b8g (l : List Value) (H : Heap) : gO prog Tryz.f111 l H = some (.tuple #[]) := rfl
theorem c1K (l : List Value) (H : Heap) : gO prog Tryz.f113 l H = some (get l 4) := rfl
theorem b3Z (l : List Value) (H : Heap) : gO prog Tryz.f114 l H = some (get l 2) := rfl
theorem b7Q (l : List Value) (H : Heap) : gO prog Tryz.f115 l H = some (get l 4) := rfl
theorem c2v (l : List Value) (H : Heap) : gO prog Tryz.f116 l H = some (get l 4) := rfl
theorem c1M (l : List Value) (H : Heap) : gO prog Tryz.f117 l H = some (get l 2) := rfl
theorem c0L (l : List Value) (H : Heap) : gO prog Tryz.f118 l H = some (get l 6) := rfl
theorem c1W (l : List Value) (H : Heap) : gO prog Tryz.f128 l H = some (.tuple #[]) := rfl
theorem c0K (l : List Value) (H : Heap) : gO prog Tryz.f138 l H = some (get l 4) := rfl
theorem c0Y (l : List Value) (H : Heap) : gO prog Tryz.f139 l H = some (get l 2) := rfl
theorem c2h (l : List Value) (H : Heap) : gO prog Tryz.f140 l H = some (get l 2) := rfl
theorem b7B (l : List Value) (H : Heap) : gO prog Tryz.f141 l H = some (get l 2) := rfl
theorem a2r (l : List Value) (H : Heap) : gO prog Tryz.f142 l H = some (get l 2) := rfl
theorem c1g (l : List Value) (H : Heap) : gO prog Tryz.f143 l H = some (get l 4) := rfl
theorem b7y (l : List Value) (H : Heap) : gO prog Tryz.f144 l H = some (get l 2) := rfl
theorem b4p (l : List Value) (H : Heap) : gO prog Tryz.f145 l H = some (get l 2) := rfl
theorem a0d (l : List Value) (H : Heap) : gO prog Tryz.f146 l H = some (get l 4) := rfl
theorem b7E (l : List Value) (H : Heap) : gO prog Tryz.f147 l H = some (get l 4) := rfl
theorem b8e (l : List Value) (H : Heap) : gO prog Tryz.f153 l H = oQ (iZ prog 189) (gP prog 189) H (get l 4) := by
 show (Option.bind (Option.bind (kU prog H 189 (get l 4)) fun v => some [v]) fun vs => _) = _
 rw [kS]
 cases oQ _ _ H (get l 4) <;> rfl
theorem a8M (l : List Value) (H : Heap) : gO prog Tryz.f154 l H = (oQ (iZ prog 74) (gP prog 74) H (get l 6)).bind fun v => if (iW v && (iW (get l 7) && true)) = true then some (.tuple #[v, get l 7]) else none := by
 show (Option.bind (Option.bind (kU prog H 74 (get l 6)) fun v => some [v, get l 7]) fun vs => _) = _
 rw [kS]
 cases oQ _ _ H (get l 6) <;> rfl
theorem c1u (l : List Value) (H : Heap) : gO prog Tryz.f155 l H = some (get l 2) := rfl
theorem c1h (l : List Value) (H : Heap) : gO prog Tryz.f187 l H = some (get l 4) := rfl
theorem c1L (l : List Value) (H : Heap) : gO prog Tryz.f188 l H = some (.tuple #[]) := rfl
theorem c0p (l : List Value) (H : Heap) : gO prog Tryz.f189 l H = some (get l 2) := rfl
theorem c2x (l : List Value) (H : Heap) : gO prog Tryz.f190 l H = some (get l 4) := rfl
theorem b7C (l : List Value) (H : Heap) : gO prog Tryz.f191 l H = some (get l 2) := rfl
theorem b7w (l : List Value) (H : Heap) : gO prog Tryz.f192 l H = some (get l 4) := rfl
theorem c1x (l : List Value) (H : Heap) : gO prog Tryz.f193 l H = some (get l 4) := rfl
theorem b7G (l : List Value) (H : Heap) : gO prog Tryz.f211 l H = some (get l 4) := rfl
theorem b7A (l : List Value) (H : Heap) : gO prog Tryz.f212 l H = some (get l 3) := rfl
theorem c0l (l : List Value) (H : Heap) : gO prog Tryz.f213 l H = some (get l 4) := rfl
theorem b8d (l : List Value) (H : Heap) : gO prog Tryz.f231 l H = some (get l 4) := rfl
theorem a5l : MapK prog 147 Value.string (.bool false) := MapK.str (kt := 9) (et := 4) (by kernel_rfl) (by kernel_rfl) (by kernel_rfl) rfl
theorem a5J : MapK prog 207 (fun p : Int × Int => .agg #[I p.1, I p.2]) (.bool false) := MapK.struct (kt := 67) (et := 4) (fs := (rR prog 67).toArray) (by kernel_rfl) (by kernel_rfl) (by kernel_rfl) rfl (fun b k => by cases b <;> kernel_rfl) (fun a b => b8t (by kernel_rfl) (by kernel_rfl) (by kernel_rfl) (fun _ _ _ _ => by kernel_rfl) a b) (fun k => b9I k)
theorem tt0 : iZ prog 3 = some false ∧ iZ prog 4 = some false ∧ gP prog 4 = some 1 ∧ iZ prog 5 = some false ∧ gP prog 5 = some 1 ∧ iZ prog 9 = some false ∧ gP prog 9 = some 1 ∧ iZ prog 22 = some false ∧ gP prog 22 = some 1 ∧ iZ prog 23 = some false ∧ gP prog 23 = some 1 ∧ iZ prog 24 = some false ∧ gP prog 24 = some 1 ∧ iZ prog 26 = some true ∧ iZ prog 27 = some false ∧ gP prog 27 = some 1 ∧ iZ prog 28 = some false ∧ iZ prog 30 = some true ∧ iZ prog 31 = some true ∧ iZ prog 36 = some false ∧ iZ prog 37 = some false ∧ iZ prog 38 = some false ∧ iZ prog 40 = some true ∧ iZ prog 60 = some false ∧ iZ prog 67 = some true ∧ iZ prog 74 = some true ∧ iZ prog 76 = some true ∧ iZ prog 77 = some false ∧ iZ prog 79 = some true ∧ iZ prog 82 = some true ∧ gP prog 82 = some 3 ∧ iZ prog 96 = some true ∧ iZ prog 108 = some true ∧ iZ prog 109 = some false ∧ iZ prog 111 = some true ∧ iZ prog 118 = some false ∧ gP prog 118 = some 1 ∧ iZ prog 120 = some true ∧ iZ prog 122 = some false ∧ gP prog 122 = some 1 := by and_intros <;> kernel_rfl
theorem tt1 : iZ prog 124 = some true ∧ iZ prog 126 = some false ∧ iZ prog 128 = some true ∧ iZ prog 131 = some true ∧ iZ prog 133 = some true ∧ iZ prog 135 = some true ∧ iZ prog 186 = some true ∧ iZ prog 187 = some false ∧ gP prog 187 = some 1 ∧ iZ prog 189 = some true ∧ iZ prog 204 = some true ∧ iZ prog 207 = some false ∧ iA prog 22 = some 9 ∧ iA prog 23 = some 4 ∧ iA prog 24 = some 4 ∧ iA prog 27 = some 1 ∧ iA prog 33 = some 2 ∧ iA prog 36 = some 6 ∧ iA prog 37 = some 5 ∧ iA prog 38 = some 5 ∧ iA prog 45 = some 2 ∧ iA prog 60 = some 2 ∧ iA prog 63 = some 3 ∧ iA prog 109 = some 4 ∧ iA prog 118 = some 4 ∧ iA prog 125 = some 1 ∧ iA prog 126 = some 3 ∧ iA prog 139 = some 3 ∧ iA prog 144 = some 1 ∧ iA prog 145 = some 2 ∧ iA prog 187 = some 2 ∧ iA prog 231 = some 2 ∧ kK prog 27 = true ∧ kK prog 33 = true ∧ kK prog 36 = true ∧ kK prog 37 = true ∧ kK prog 38 = true ∧ kK prog 45 = true ∧ kK prog 60 = true ∧ kK prog 63 = true := by and_intros <;> kernel_rfl
theorem tt2 : kK prog 77 = true ∧ kK prog 109 = true ∧ kK prog 125 = true ∧ kK prog 126 = true ∧ kK prog 139 = true ∧ kK prog 144 = true ∧ kK prog 145 = true ∧ kK prog 187 = true ∧ kK prog 231 = true ∧ iA prog 9 = none ∧ mS prog 9 = true ∧ iD prog 26 0 = some 0 ∧ iD prog 26 1 = some 1 ∧ iD prog 26 2 = some 2 ∧ iD prog 30 0 = some 0 ∧ iD prog 30 1 = some 1 ∧ iD prog 30 2 = some 2 ∧ iD prog 40 0 = some 0 ∧ iD prog 40 1 = some 1 ∧ iD prog 40 2 = some 2 ∧ iD prog 40 3 = some 3 ∧ iD prog 67 0 = some 0 ∧ iD prog 67 1 = some 1 ∧ iD prog 74 0 = some 0 ∧ iD prog 74 1 = some 1 ∧ iD prog 76 0 = some 0 ∧ iD prog 76 1 = some 1 ∧ iD prog 79 0 = some 0 ∧ iD prog 79 1 = some 1 ∧ iD prog 79 2 = some 2 ∧ iD prog 79 3 = some 4 ∧ iD prog 79 4 = some 5 ∧ iD prog 96 0 = some 0 ∧ iD prog 96 1 = some 1 ∧ iD prog 108 0 = some 0 ∧ iD prog 108 1 = some 1 ∧ iD prog 111 0 = some 0 ∧ iD prog 111 2 = some 2 ∧ iD prog 111 3 = some 4 ∧ iD prog 120 0 = some 0 := by and_intros <;> kernel_rfl
theorem tt3 : iD prog 120 1 = some 1 ∧ iD prog 120 2 = some 2 ∧ iD prog 120 3 = some 3 ∧ iD prog 124 0 = some 0 ∧ iD prog 124 1 = some 1 ∧ iD prog 124 2 = some 2 ∧ iD prog 124 3 = some 3 ∧ iD prog 124 4 = some 4 ∧ iD prog 128 0 = some 0 ∧ iD prog 128 1 = some 1 ∧ iD prog 128 2 = some 3 ∧ iD prog 131 0 = some 0 ∧ iD prog 131 1 = some 1 ∧ iD prog 131 2 = some 2 ∧ iD prog 131 3 = some 3 ∧ iD prog 133 0 = some 0 ∧ iD prog 133 1 = some 1 ∧ iD prog 133 2 = some 2 ∧ iD prog 133 3 = some 3 ∧ iD prog 135 0 = some 0 ∧ iD prog 135 1 = some 1 ∧ iD prog 135 2 = some 2 ∧ iD prog 135 3 = some 3 ∧ iD prog 135 4 = some 4 ∧ iD prog 186 0 = some 0 ∧ iD prog 186 1 = some 1 ∧ iD prog 189 0 = some 0 ∧ iD prog 189 1 = some 1 ∧ iD prog 189 2 = some 2 ∧ iD prog 204 0 = some 0 ∧ iD prog 204 1 = some 1 ∧ iI prog 30 = some (.agg #[.slice none 0 0, .int .u64 0, .int .u64 0]) ∧ iT prog 30 = none ∧ iI prog 40 = some (.agg #[.string ⟨#[]⟩, .slice none 0 0, .slice none 0 0, .slice none 0 0]) ∧ iT prog 40 = none ∧ iI prog 60 = some (.slice none 0 0) ∧ iT prog 60 = none ∧ iI prog 67 = some (.agg #[.int .i64 0, .int .i64 0]) ∧ iT prog 67 = none ∧ iI prog 74 = some (.agg #[.int .i64 0, .int .i64 0]) := by and_intros <;> kernel_rfl
theorem tt4 : iT prog 74 = none ∧ iI prog 76 = some (.agg #[.int .i64 0, .int .i64 0]) ∧ iT prog 76 = none ∧ iI prog 79 = some (.agg #[.string ⟨#[]⟩, .string ⟨#[]⟩, .int .i64 0, .int .i64 0, .int .i64 0, .slice none 0 0]) ∧ iT prog 79 = none ∧ iI prog 96 = some (.agg #[.int .u64 0, .int .u64 0]) ∧ iT prog 96 = none ∧ iI prog 108 = some (.agg #[.int .i64 0, .int .i64 0]) ∧ iT prog 108 = none ∧ iI prog 111 = some (.agg #[.string ⟨#[]⟩, .bool false, .int .i64 0, .int .i64 0, .slice none 0 0]) ∧ iT prog 111 = none ∧ iI prog 120 = some (.agg #[.int .u8 0, .int .u8 0, .bool false, .slice none 0 0]) ∧ iT prog 120 = none ∧ iI prog 128 = some (.agg #[.string ⟨#[]⟩, .int .i64 0, .int .i64 0, .slice none 0 0]) ∧ iT prog 128 = none ∧ iI prog 133 = some (.agg #[.int .u8 0, .int .u8 0, .int .i8 0, .bool false]) ∧ iT prog 133 = none ∧ iI prog 135 = some (.agg #[.string ⟨#[]⟩, .int .i64 0, .int .i64 0, .int .i64 0, .bool false]) ∧ iT prog 135 = none ∧ iI prog 186 = some (.agg #[.int .i64 0, .int .i64 0]) ∧ iT prog 186 = none ∧ iI prog 189 = some (.agg #[.int .i64 0, .int .i64 0, .slice none 0 0]) ∧ iT prog 189 = none ∧ iI prog 207 = some (.map none) ∧ iT prog 207 = none ∧ zL prog 3 = some .i64 ∧ zL prog 5 = some .u8 ∧ zL prog 28 = some .u64 ∧ zL prog 122 = some .i8 ∧ zL prog 143 = some .u64 := by and_intros <;> kernel_rfl
def TS := (And.intro (And.intro (And.intro (And.intro (And.intro @tt0 @tt1) (And.intro @tt2 (And.intro @tt3 @tt4))) (And.intro (And.intro @tS3 (And.intro @b5z @b5N)) (And.intro @vZ (And.intro @c1r @c1Z)))) (And.intro (And.intro (And.intro @c2d (And.intro @b6s @oD)) (And.intro @b7l (And.intro @uK @rT))) (And.intro (And.intro @yD (And.intro @b5F @vX)) (And.intro @nP (And.intro @uB @b7H))))) (And.intro (And.intro (And.intro (And.intro @tS (And.intro @a9e @b2Q)) (And.intro @tX (And.intro @nH @b2y))) (And.intro (And.intro @a9s (And.intro @tW @yP)) (And.intro @a1c (And.intro @a8Q @b3E)))) (And.intro (And.intro (And.intro @b8R (And.intro @c3r @c3m)) (And.intro @c0U (And.intro @c0F @c0j))) (And.intro (And.intro @c1n (And.intro @c0k @c1l)) (And.intro @c1X (And.intro @b9h @b9a))))))
def RZ := And.intro @RB (And.intro @RC @TS)
end Go.Ds
namespace Go.Ds
open Go.Proofs
variable {P : Program} {H : Heap}
structure Drw where
 rank : Int
 shift : Int
 deriving DecidableEq, Inhabited
structure Seg where
 lo : Int
 hi : Int
 dv : Value
 draws : List Drw
 deriving Inhabited
structure Stp where
 name : ByteArray
 num : Int
 den : Int
 gv : Value
 segs : List Seg
 deriving Inhabited
structure Dvn where
 name : ByteArray
 pedal : Bool
 lo : Int
 hi : Int
 sv : Value
 stops : List Stp
 deriving Inhabited
structure Rk where
 name : ByteArray
 tone : ByteArray
 num : Int
 den : Int
 first : Int
 wv : Value
 wind : List Int
 deriving Inhabited
structure Cpl where
 name : ByteArray
 src : Int
 dst : Int
 shift : Int
 thr : Bool
 deriving Inhabited
structure Org where
 name : ByteArray
 rv : Value
 ranks : List Rk
 dv : Value
 dvs : List Dvn
 cv : Value
 cpls : List Cpl
 deriving Inhabited
def Drw.cells (d : Drw) : List Value := [I d.rank, I d.shift]
def Seg.cells (s : Seg) : List Value := [I s.lo, I s.hi, s.dv]
def Stp.cells (s : Stp) : List Value := [.string s.name, I s.num, I s.den, s.gv]
def Dvn.cells (d : Dvn) : List Value := [.string d.name, .bool d.pedal, I d.lo, I d.hi, d.sv]
def Rk.cells (r : Rk) : List Value := [.string r.name, .string r.tone, I r.num, I r.den, I r.first, r.wv]
def Cpl.cells (c : Cpl) : List Value := [.string c.name, I c.src, I c.dst, I c.shift, .bool c.thr]
def Org.cells (o : Org) : List Value := [.string o.name, o.rv, o.dv, o.cv]
def Seg.In (H : Heap) (s : Seg) : Prop := Sl 2 Drw.cells H s.dv s.draws ∧ s.draws.length < 1000000000
def Stp.In (H : Heap) (s : Stp) : Prop := Sl 3 Seg.cells H s.gv s.segs ∧ (∀ g ∈ s.segs, g.In H) ∧ s.segs.length < 1000000000
def Dvn.In (H : Heap) (d : Dvn) : Prop := Sl 4 Stp.cells H d.sv d.stops ∧ (∀ s ∈ d.stops, s.In H) ∧ d.stops.length < 1000000000
def Rk.In (H : Heap) (r : Rk) : Prop := Sl 1 (one I) H r.wv r.wind ∧ r.wind.length < 1000000000
def Org.In (H : Heap) (o : Org) : Prop := Sl 6 Rk.cells H o.rv o.ranks ∧ (∀ r ∈ o.ranks, r.In H) ∧ Sl 5 Dvn.cells H o.dv o.dvs ∧ (∀ d ∈ o.dvs, d.In H) ∧ Sl 5 Cpl.cells H o.cv o.cpls ∧ o.ranks.length < 1000000000 ∧ o.dvs.length < 1000000000 ∧ o.cpls.length < 1000000000
section
variable {H0 : Heap} {os : List Ob}
theorem Seg.In.ae {s : Seg} (h : s.In H0) (hS : St P H0 H os) : s.In H := ⟨hS.sl h.1, h.2⟩
theorem Stp.In.ae {s : Stp} (h : s.In H0) (hS : St P H0 H os) : s.In H := ⟨hS.sl h.1, fun g hg => (h.2.1 g hg).ae hS, h.2.2⟩
theorem Dvn.In.ae {d : Dvn} (h : d.In H0) (hS : St P H0 H os) : d.In H := ⟨hS.sl h.1, fun g hg => (h.2.1 g hg).ae hS, h.2.2⟩
theorem Rk.In.ae {r : Rk} (h : r.In H0) (hS : St P H0 H os) : r.In H := ⟨hS.sl h.1, h.2⟩
theorem Org.In.ae {o : Org} (h : o.In H0) (hS : St P H0 H os) : o.In H := ⟨hS.sl h.1, fun r hr => (h.2.1 r hr).ae hS, hS.sl h.2.2.1, fun d hd => (h.2.2.2.1 d hd).ae hS, hS.sl h.2.2.2.2.1, h.2.2.2.2.2⟩
end
def c0Q (n : Int) : Prop := -9223372036854775808 ≤ n ∧ n < 9223372036854775808
end Go.Ds
