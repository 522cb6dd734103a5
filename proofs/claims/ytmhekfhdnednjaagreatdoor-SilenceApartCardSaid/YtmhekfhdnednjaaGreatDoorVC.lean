/-
  A part of the proof of SilenceApart.
-/
import Derived.Test.YtmhekfhdnednjaaGreatDoorVA
import Derived.Test.YtmhekfhdnednjaaGreatDoorVB
import Derived.Test.YtmhekfhdnednjaaGreatDoorProg
import Derived.KernelRfl
import Derived.Lib.LaidTab
import Derived.Stop.LaidErr
import Derived.Laws.Strings
set_option linter.unusedVariables false
set_option linter.unusedSimpArgs false
set_option linter.defProp false
set_option linter.unusedSectionVars false
namespace Go.Ds
noncomputable section
inductive Pth where
 | z
 | l (p : Pth)
 | r (p : Pth)
inductive Fr where
 | e
 | n (v : Value) (l r : Fr)
def a5c : Nat → Nat → Pth := fun f => Nat.rec (motive := fun _ => Nat → Pth) (fun _ => .z) (fun _ ih k => Nat.rec (motive := fun _ => Pth) .z (fun k _ => Bool.rec (motive := fun _ => Pth) (.r (ih (Nat.div k 2))) (.l (ih (Nat.div k 2))) (Nat.beq (Nat.mod k 2) 0)) k) f
def kS (k : Nat) : Pth := a5c k k
def oH (p : Pth) : Fr → Value := Pth.rec (motive := fun _ => Fr → Value)
 (fun f => Fr.rec (motive := fun _ => Value) undef (fun v _ _ _ _ => v) f)
 (fun _ ih f => Fr.rec (motive := fun _ => Value) undef (fun _ l _ _ _ => ih l) f)
 (fun _ ih f => Fr.rec (motive := fun _ => Value) undef (fun _ _ r _ _ => ih r) f) p
def qE {α : Type} (v : Value) (p : Pth) : Fr → (Fr → α) → α := Pth.rec (motive := fun _ => Fr → (Fr → α) → α)
 (fun f K => Fr.rec (motive := fun _ => α) (K (.n v .e .e)) (fun _ l r _ _ => K (.n v l r)) f)
 (fun _ ih f K => Fr.rec (motive := fun _ => α) (ih .e fun l => K (.n undef l .e)) (fun w l r _ _ => ih l fun l => K (.n w l r)) f)
 (fun _ ih f K => Fr.rec (motive := fun _ => α) (ih .e fun r => K (.n undef .e r)) (fun w l r _ _ => ih r fun r => K (.n w l r)) f) p
def lP {α : Type} (p : Pth) : (Pth → α) → α := Pth.rec (motive := fun _ => (Pth → α) → α) (fun K => K .z) (fun _ ih K => ih fun p => K (.l p)) (fun _ ih K => ih fun p => K (.r p)) p
inductive LArg where
 | t (p : Pth)
 | c (v : Value)
def mR (f : Fr) (x : LArg) : Value := LArg.rec (motive := fun _ => Value) (fun p => oH p f) (fun v => v) x
inductive Rs where
 | no
 | ok (v : Value) (H : Heap)
 | th (v : Value) (H : Heap)
def oP {α : Type} (v : Value) (K : Value → α) : α :=
 match v with
 | .bool b => K (.bool b)
 | .int k n => K (.int k n)
 | .string s => K (.string s)
 | .pointer a => K (.pointer a)
 | .slice a n c => K (.slice a n c)
 | .map r => K (.map r)
 | .func fn a b => K (.func fn a b)
 | .agg cs => K (.agg cs)
 | .tuple vs => K (.tuple vs)
 | v => K v
inductive LOp where
 | bad
 | mv (x : LArg)
 | pick (c a b : LArg)
 | bin (g : IntKind → Int → Int → Option Value) (x y : LArg)
 | not (x : LArg)
 | ld1 (x : LArg)
 | ldn (n : Nat) (x : LArg)
 | st (n : Nat) (x y : LArg)
 | fa (off : Nat) (x : LArg)
 | ixs (size : Nat) (x i : LArg)
 | ixa (n size : Nat) (x i : LArg)
 | ext (i : Nat) (x : LArg)
 | f1 (off : Nat) (x : LArg)
 | fn (off n : Nat) (x : LArg)
 | len (x : LArg)
 | slen (x : LArg)
 | app (elem size bytes : Nat) (x y : LArg)
 | alloc (t : TypeId) (cs : List Value)
 | callF (f : FuncId) (p : Pth) (args : List LArg)
 | callV (g : LArg) (args : List LArg)
 | gen (o : Oper)
inductive LOps where
 | nil
 | cons (d : Option Pth) (o : LOp) (rest : LOps)
 | gcons (p : Pth) (w : Bool) (d : Option Pth) (o : LOp) (rest : LOps)
inductive LCode where
 | bad
 | skip
 | reg (ops : LOps)
 | drw (ops : LOps) (tab : List (Nat × Option Nat × Option (Pth × Bool) × LOp))
 | seq (a b : LCode)
 | cond (c : LArg) (x y : LCode)
 | block (id : Nat) (b : LCode)
 | loop (b : LCode)
 | exit (id : Nat)
 | ret
 | range (g : LArg) (ps : List Pth) (pp : List Pth) (params : Array Tmp) (assign body : Code) (a b : LCode)
inductive LRes where
 | t (p : Pth)
 | c1 (p : Pth)
 | cn (n : Nat) (p : Pth)
structure LFunc where
 ps : List Pth
 body : LCode
 res : List LRes
inductive LT where
 | e
 | n (g : Option LFunc) (l r : LT)
def a2U (p : Pth) : LT → Option LFunc := Pth.rec (motive := fun _ => LT → Option LFunc)
 (fun f => LT.rec (motive := fun _ => Option LFunc) none (fun v _ _ _ _ => v) f)
 (fun _ ih f => LT.rec (motive := fun _ => Option LFunc) none (fun _ l _ _ _ => ih l) f)
 (fun _ ih f => LT.rec (motive := fun _ => Option LFunc) none (fun _ _ r _ _ => ih r) f) p
def sG {α : Type} (v : LFunc) (p : Pth) : LT → (LT → α) → α := Pth.rec (motive := fun _ => LT → (LT → α) → α)
 (fun f K => LT.rec (motive := fun _ => α) (K (.n (some v) .e .e)) (fun _ l r _ _ => K (.n (some v) l r)) f)
 (fun _ ih f K => LT.rec (motive := fun _ => α) (ih .e fun l => K (.n none l .e)) (fun w l r _ _ => ih l fun l => K (.n w l r)) f)
 (fun _ ih f K => LT.rec (motive := fun _ => α) (ih .e fun r => K (.n none .e r)) (fun w l r _ _ => ih r fun r => K (.n w l r)) f) p
structure LEnv where
 L : Nat
 ps : List Pth
 pp : List Pth
 a : LCode
 b : LCode
def b8p (P : Program) (o : Oper) (ρ : Operand → Value) (H : Heap) : Option (Value × Heap) :=
 if o.op.operands.toList.all (fun x => flat (ρ x)) then
  match iP P (execOp ρ o) with
  | some (.value v) => if flat v then some (v, H) else none
  | _ => none
 else none
def c1P (P : Program) (o : Oper) (ρ : Operand → Value) (H : Heap) : Option (Value × Heap) :=
 let keep (v : Option Value) : Option (Value × Heap) := v.map fun v => (v, H)
 let plain : Option (Value × Heap) := b8p P o ρ H
 match o.op with
 | .move x | .assign x => some (ρ x, H)
 | .pick c a b => match ρ c with | .bool t => some (if t then ρ a else ρ b, H) | _ => none
 | .alloc t => (iZ P t).bind fun z => if jD z then rA P H t z else none
 | .box t x => xF P H t (ρ x)
 | .build t parts =>
   let ps := parts.toList.map fun (i, x) => (i, ρ x)
   if (iZ P t).any jD && ps.all (fun x => x.2.cells.toList.all oneCell) then
    (P.built t ps).map fun cs => (.agg cs, H)
   else none
 | .buildSlice t len parts =>
   (iJ P t).bind fun elem => (iF P elem).bind fun size => (iZ P elem).bind fun z =>
   let ps := parts.toList.map fun (i, x) => (i, ρ x)
   if len == 0 && ps.isEmpty && size != 0 then some (.slice (some ⟨H.length, 0, some 0⟩) 0 size, rT H elem []) else
   if jD z && ps.all (fun x => x.2.cells.toList.all oneCell) && len * size ≤ 2 ^ 24 && len * size != 0 && z.cells.size == size then
    (Instr.fill (fun i => some (i * size, size)) ((Array.range (len * size)).map (z.cells[· % z.cells.size]!)) ps).map fun cs =>
      (.slice (some ⟨H.length, 0, some cs.toList.length⟩) len size, rT H elem cs.toList)
   else none
 | .makeSlice t n c =>
   (iJ P t).bind fun elem => (iF P elem).bind fun size => (nV P elem).bind fun bytes => (iZ P elem).bind fun z =>
   match ρ n, ρ c with
   | .int .i64 a, .int .i64 b =>
     if jD z && decide (a ≤ b) && 0 ≤ a && b * (bytes + 1) ≤ (pC : Int) && size != 0 && z.cells.size == size then
      let cs := if size = 1 then List.replicate b.toNat (z.cells[0]!) else (madeCells z.cells (b.toNat * size)).toList
      some (.slice (some ⟨H.length, 0, some cs.length⟩) a.toNat size, rT H elem cs)
     else none
   | _, _ => none
 | .load t a => keep (lG P H t (ρ a))
 | .store t a x => (rI P H t (ρ a) (ρ x)).map fun H => (undef, H)
 | .nilCheck x => match ρ x with
   | .pointer (some a) => some (.pointer (some a), H)
   | .func (.func f) a b => some (.func (.func f) a b, H)
   | _ => none
 | .fieldAddr s x f => match ρ x with
   | .pointer (some ⟨A, i, some e⟩) => (oS P s f).bind fun fd => (iF P fd.type).bind fun n => if n == 0 then none else some (.pointer (some ⟨A, i + fd.offset, some e⟩), H)
   | _ => none
 | .indexAddr t x ix => match P.underlying t, ρ x, ρ ix with
   | some (.slice elem), .slice (some ⟨A, i, some e⟩) n _, .int _ j => (iF P elem).bind fun size =>
     if 0 ≤ j && j < n then some (.pointer (some ⟨A, i + j.toNat * size, some e⟩), H) else none
   | some (.array n elem), .pointer (some ⟨A, i, some e⟩), .int _ j => (iF P elem).bind fun size =>
     if 0 ≤ j && j < n then some (.pointer (some ⟨A, i + j.toNat * size, some e⟩), H) else none
   | some (.array n elem), .pointer (some ⟨A, i, none⟩), .int _ j => (iF P elem).bind fun size =>
     if 0 ≤ j && j < n then some (.pointer (some ⟨A, i + j.toNat * size, none⟩), H) else none
   | _, _, _ => none
 | .slice t x lo hi none => if flat (ρ x) then plain else match jI P t with
   | some (n, elem) => keep (a5R P H n elem (ρ x) (lo.map ρ) (hi.map ρ))
   | none => keep (xE P t (ρ x) (lo.map ρ) (hi.map ρ))
 | .field t x f => if flat (ρ x) then plain else
   match ρ x with
   | .agg cs => (oS P t f).bind fun fd => match jO P fd.type with
     | some true => (iF P fd.type).map fun n => (.agg (cs.extract fd.offset (fd.offset + n)), H)
     | some false => (cs[fd.offset]?).map fun v => (v, H)
     | none => none
   | _ => none
 | .extract t i => match ρ t with
   | .tuple vs => (vs[i]?).map fun v => (v, H)
   | _ => none
 | .makeFunc fn first captured => match fn with
   | .func f => if (first ++ captured).toList.all (fun x => oA (ρ x)) then some (.func (.func f) (first.map ρ) (captured.map ρ), H) else none
   | _ => none
 | .binOp op t x y _ => match op, ρ x, ρ y with
   | .eql, .slice (some _) _ _, .slice none 0 0 => if ((P.underlying t).map vQ) == some true then some (.bool false, H) else none
   | .neq, .slice (some _) _ _, .slice none 0 0 => if ((P.underlying t).map vQ) == some true then some (.bool true, H) else none
   | op, .int k a, .int k' b => if k = k' then (match mT op k a b with | some v => some (v, H) | none => plain) else plain
   | .eql, .pointer (some _), .pointer none => if tI P t then some (.bool false, H) else none
   | .neq, .pointer (some _), .pointer none => if tI P t then some (.bool true, H) else none
   | .eql, .pointer (some ⟨A, i, some e⟩), .pointer (some ⟨A', i', some e'⟩) => if tI P t && A == A' && i == i' && e == e' then some (.bool true, H) else none
   | .neq, .pointer (some ⟨A, i, some e⟩), .pointer (some ⟨A', i', some e'⟩) => if tI P t && A == A' && i == i' && e == e' then some (.bool false, H) else none
   | _, _, _ => plain
 | .call c => match c.callee with
   | .builtin .len => if c.args.size == 1 && c.argTypes.size == 1 then
      match (P.underlying (c.argTypes.getD 0 0)), ρ (c.args.getD 0 (.tmp 0)) with
      | some (.slice _), .slice a n k => keep (wV H (.slice a n k))
      | some .string, .string s => keep (wV H (.string s))
      | some (.map _ _), .map r => keep (wV H (.map r))
      | _, _ => none
     else none
   | .builtin .append => if c.args.size == 2 && c.argTypes.size == 2 && ((P.underlying (c.argTypes.getD 1 0)).map qF) == some true then
      nQ P H (c.argTypes.getD 0 0) (ρ (c.args.getD 0 (.tmp 0))) (ρ (c.args.getD 1 (.tmp 0)))
     else none
   | .builtin .copy => if c.args.size == 2 && c.argTypes.size == 2 then a2w P H (c.argTypes.getD 0 0) (ρ (c.args.getD 0 (.tmp 0))) (ρ (c.args.getD 1 (.tmp 0))) else none
   | .builtin .clear => if c.args.size == 1 && c.argTypes.size == 1 then sJ P H (c.argTypes.getD 0 0) (ρ (c.args.getD 0 (.tmp 0))) else none
   | .builtin .cap => plain
   | .builtin .unsafeSliceData => if c.args.size == 1 && c.argTypes.size == 1 then match ρ (c.args.getD 0 (.tmp 0)) with
      | .slice (some a) n _ => if n == 0 then none else some (.pointer (some a), H)
      | _ => none
     else none
   | .builtin .unsafeString => if c.args.size == 2 && c.argTypes.size == 2 then vO P H (c.argTypes.getD 0 0) (ρ (c.args.getD 0 (.tmp 0))) (ρ (c.args.getD 1 (.tmp 0))) else none
   | .builtin .max => plain
   | .builtin .min => plain
   | _ => none
 | .unOp op _ x => match op, ρ x with
   | .not, .bool b => some (.bool (!b), H)
   | _, _ => plain
 | .makeMap t r => pY P H t (r.map ρ)
 | .lookup t x k c => keep (pQ P H t (ρ x) (ρ k) c)
 | .mapUpdate t m k v => (a1k P H t (ρ m) (ρ k) (ρ v)).map fun H => (undef, H)
 | .mapEntry t m k => rG P H t (ρ m) (ρ k)
 | .entryStore _ m b v => (rE H (ρ m) (ρ b) (ρ v)).map fun H => (undef, H)
 | .convert s t x => if flat (ρ x) && !(lE P t) then plain else match ρ x with
   | .slice (some ⟨A, i, some e⟩) n _ => if lE P s && oX P t then keep ((jF H A i e n).bind fun l => (nH l).map .string) else none
   | .string b => if lE P t && oX P s && b.size ≤ 2 ^ 40 then (iJ P t).bind fun elem => some (.slice (some ⟨H.length, 0, some b.size⟩) b.size 1, b5w H elem (b.data.toList.map fun c => .int .u8 c.toNat)) else none
   | .pointer (some ⟨A, 0, some e⟩) => if a4k P H s t A e then some (.pointer (some ⟨A, 0, some e⟩), H) else none
   | _ => none
 | .index _ _ _ => plain
 | .makeInterface _ _ => plain
 | _ => none
def oE {α : Type} (b : Bool) (no : α) (x : α) : α := Bool.rec (motive := fun _ => α) no x b
def a8y {α : Type} (cs : List α) : Nat → Bool := List.rec (motive := fun _ => Nat → Bool) (fun e => Nat.beq e 0) (fun _ _ ih e => Nat.rec (motive := fun _ => Bool) true (fun m _ => ih m) e) cs
def a4G {α : Type} (cs : List α) : Nat → Bool := List.rec (motive := fun _ => Nat → Bool) (fun e => Nat.beq e 0) (fun _ _ ih e => Nat.rec (motive := fun _ => Bool) false (fun m _ => ih m) e) cs
def a1e {α : Type} (cs : List α) : Nat → Option α := List.rec (motive := fun _ => Nat → Option α) (fun _ => none) (fun v _ ih e => Nat.rec (motive := fun _ => Option α) (some v) (fun m _ => ih m) e) cs
def a2z {α : Type} (cs : List α) : Nat → (List α → Rs) → Rs := List.rec (motive := fun _ => Nat → (List α → Rs) → Rs) (fun n K => Nat.rec (motive := fun _ => Rs) (K []) (fun _ _ => .no) n) (fun v _ ih n K => Nat.rec (motive := fun _ => Rs) (K []) (fun m _ => ih m fun l => K (v :: l)) n) cs
def b1D {α : Type} (cs : List α) : Nat → List α := List.rec (motive := fun _ => Nat → List α) (fun _ => []) (fun v t ih n => Nat.rec (motive := fun _ => List α) (v :: t) (fun m _ => ih m) n) cs
def kIx (k : IntKind) : Nat := IntKind.rec (motive := fun _ => Nat) 0 1 2 3 4 5 6 7 k
def hMv (x : LArg) (f : Fr) (H : Heap) : Rs := oP (mR f x) fun v => .ok v H
def b7a (c a b : LArg) (f : Fr) (H : Heap) : Rs := match mR f c with
 | .bool t => oP (mR f (Bool.rec (motive := fun _ => LArg) b a t)) fun v => .ok v H
 | _ => .no
def oV (v : Option Value) (H : Heap) : Rs := Option.rec (motive := fun _ => Rs) .no (fun v => .th v H) v
def c0O (g : IntKind → Int → Int → Option Value) (k : IntKind) (a : Int) (H : Heap) (y : Value) : Rs := match y with
 | .int k' b => oE (Nat.beq (kIx k) (kIx k')) .no (oV (g k a b) H)
 | _ => .no
def c3q (g : IntKind → Int → Int → Option Value) (x y : LArg) (f : Fr) (H : Heap) : Rs := match mR f x with
 | .int k a => c0O g k a H (mR f y)
 | _ => .no
def c7i (x : LArg) (f : Fr) (H : Heap) : Rs := match mR f x with
 | .bool b => .ok (.bool (Bool.rec (motive := fun _ => Bool) true false b)) H
 | _ => .no
def b8a (b : Option Blk) (i e : Nat) (H : Heap) : Rs := match b with
 | some (.cells cs _ _ lo _) => oE (Nat.ble lo e) .no (oE (a8y cs e) .no (oE (Nat.ble (Nat.succ i) e) .no (Option.rec (motive := fun _ => Rs) .no (fun v => oP v fun v => .ok v H) (a1e cs i))))
 | _ => .no
def c3f (b : Option Blk) (i : Nat) (H : Heap) : Rs := match b with
 | some (.cells cs _ false lo 1) => oE (a8y cs lo) .no (Option.rec (motive := fun _ => Rs) .no (fun v => oP v fun v => .ok v H) (a1e cs i))
 | _ => .no
def b3q (x : LArg) (f : Fr) (H : Heap) : Rs := match mR f x with
 | .pointer (some ⟨A, i, some e⟩) => b8a (iO H A) i e H
 | .pointer (some ⟨A, i, none⟩) => c3f (iO H A) i H
 | _ => .no
def b8S (b : Option Blk) (n i e : Nat) (H : Heap) : Rs := match b with
 | some (.cells cs _ _ lo _) => oE (Nat.ble lo e) .no (oE (a8y cs e) .no (oE (Nat.ble (Nat.add i n) e) .no (a2z (b1D cs i) n fun l => .ok (.agg ⟨l⟩) H)))
 | _ => .no
def b2Q (n : Nat) (x : LArg) (f : Fr) (H : Heap) : Rs := match mR f x with
 | .pointer (some ⟨A, i, some e⟩) => b8S (iO H A) n i e H
 | _ => .no
def stB (b : Option Blk) (n A i e : Nat) (vs : List Value) (H : Heap) : Rs := match b with
 | some (.cells cs ty true lo ver) => oE (a4G vs n) .no (oE (vs.all oneCell) .no (oE (a4G cs e) .no (oE (Nat.ble (Nat.add i n) e) .no (oE (Nat.ble lo e) .no
    (.th undef (hset H A (.cells (jB cs i vs) ty true e ver)))))))
 | _ => .no
def hSt (n : Nat) (x y : LArg) (f : Fr) (H : Heap) : Rs := match mR f x with
 | .pointer (some ⟨A, i, some e⟩) => stB (iO H A) n A i e (mR f y).cells.toList H
 | _ => .no
def hFa (off : Nat) (x : LArg) (f : Fr) (H : Heap) : Rs := match mR f x with
 | .pointer (some ⟨A, i, some e⟩) => kC (Nat.add i off) fun i => .ok (.pointer (some ⟨A, i, some e⟩)) H
 | _ => .no
def ixP (A i e size n : Nat) (H : Heap) (j : Value) : Rs := match j with
 | .int _ (.ofNat j) => oE (Nat.blt j n) .no (kC (Nat.add i (Nat.mul j size)) fun i => .ok (.pointer (some ⟨A, i, some e⟩)) H)
 | _ => .no
def c1C (size : Nat) (x i : LArg) (f : Fr) (H : Heap) : Rs := match mR f x with
 | .slice (some ⟨A, a, some e⟩) n _ => ixP A a e size n H (mR f i)
 | _ => .no
def ixG (A i size n : Nat) (H : Heap) (j : Value) : Rs := match j with
 | .int _ (.ofNat j) => oE (Nat.blt j n) .no (kC (Nat.add i (Nat.mul j size)) fun i => .ok (.pointer (some ⟨A, i, none⟩)) H)
 | _ => .no
def c1I (n size : Nat) (x i : LArg) (f : Fr) (H : Heap) : Rs := match mR f x with
 | .pointer (some ⟨A, a, some e⟩) => ixP A a e size n H (mR f i)
 | .pointer (some ⟨A, a, none⟩) => ixG A a size n H (mR f i)
 | _ => .no
def okV (v : Option Value) (H : Heap) : Rs := Option.rec (motive := fun _ => Rs) .no (fun v => oP v fun v => .ok v H) v
def c2S (i : Nat) (x : LArg) (f : Fr) (H : Heap) : Rs := match mR f x with
 | .tuple ⟨vs⟩ => okV (a1e vs i) H
 | _ => .no
def hF1 (off : Nat) (x : LArg) (f : Fr) (H : Heap) : Rs := match mR f x with
 | .agg ⟨cs⟩ => okV (a1e cs off) H
 | _ => .no
def hFn (off n : Nat) (x : LArg) (f : Fr) (H : Heap) : Rs := match mR f x with
 | .agg ⟨cs⟩ => a2z (b1D cs off) n fun l => .ok (.agg ⟨l⟩) H
 | _ => .no
def c1v (x : LArg) (f : Fr) (H : Heap) : Rs := match mR f x with
 | .slice _ n _ => .th (goInt n) H
 | _ => .no
def b6J (x : LArg) (f : Fr) (H : Heap) : Rs := match mR f x with
 | .string s => .th (goInt s.size) H
 | _ => .no
def c3N (b : Option Blk) (elem size bytes A i e k : Nat) (n : Nat) (l : List Value) (P : Program) (H : Heap) : Rs := match b with
 | some (.cells cs ty true lo ver) => oE (Bool.rec (motive := fun _ => Bool) (iF P ty == some size) true (Nat.beq ty elem)) .no (oE (a4G cs e) .no (oE (Nat.ble lo e) .no
    (oE (Nat.beq (Nat.add i (Nat.mul k size)) e)
      (oE (Nat.beq n 0) (oE (Nat.ble (Nat.add i (Nat.mul (Nat.add k n) size)) e) .no (.th (.slice (some ⟨A, i, some e⟩) (k + n) size) (hset H A (.cells (jB cs (i + k * size) l) ty true e ver)))) .no)
      (oE (Nat.ble (Nat.mul (Nat.add k n) (Nat.succ bytes)) pC) .no (.th (.slice (some ⟨A, i, some (e + l.length)⟩) (k + n) size) (hset H A (.cells (a5o cs l) ty true lo (Bool.rec (motive := fun _ => Nat) 2 ver (Nat.beq ty elem)))))))))
 | _ => .no
def c5G (P : Program) (elem size bytes : Nat) (s : Value) (H : Heap) (n : Nat) (l : List Value) : Rs := match s with
 | .slice none k c => oE (Nat.beq k 0) .no (oE (Nat.beq c 0) .no (oE (Nat.ble (Nat.mul n (Nat.succ bytes)) pC) .no (oE (Nat.beq n 0) (.th (.slice (some ⟨H.length, 0, some l.length⟩) n size) (rT H elem l)) (.ok (.slice none 0 0) H))))
 | .slice (some ⟨A, i, some e⟩) k _ => c3N (iO H A) elem size bytes A i e k n l P H
 | _ => .no
def c2h (P : Program) (elem size bytes : Nat) (x y : LArg) (f : Fr) (H : Heap) : Rs := match zU H size (mR f y) with
 | some (n, l) => c5G P elem size bytes (mR f x) H n l
 | none => .no
def c1B (t : TypeId) (cs : List Value) (_ : Fr) (H : Heap) : Rs := .th (.pointer (some ⟨H.length, 0, some cs.length⟩)) (rT H t cs)
def evF (f : Fr) : Operand → Value
 | .tmp t => oH (kS t) f
 | .const v => v
 | .global g => .pointer (some ⟨g, 0, none⟩)
 | .func k => .func (.func k) #[] #[]
def c6Z (P : Program) (o : Oper) (f : Fr) (H : Heap) : Rs := match c1P P o (evF f) H with
 | some (v, H1) => .th v H1
 | none => .no
def a3K {α : Type} (f : Fr) (l : List LArg) : (List Value → α) → α := List.rec (motive := fun _ => (List Value → α) → α) (fun K => K []) (fun x _ ih K => oP (mR f x) fun v => ih fun l => K (v :: l)) l
structure Calls' where
 fn : Pth → FuncId → List Value → Heap → Rs
 rd : Nat → List Value → Heap → Rs
def c2X (C : Calls') (k : FuncId) (p : Pth) (args : List LArg) (f : Fr) (H : Heap) : Rs := a3K f args fun l => C.fn p k l H
def a8W (C : Calls') (l : List Value) (H : Heap) (g : Value) : Rs := match g with
 | .func (.func k) ⟨a⟩ ⟨b⟩ => kC k fun k => lP (kS k) fun p => C.fn p k (a5o a (a5o l b)) H
 | .func (.yield L) _ _ => C.rd L l H
 | _ => .no
def c1x (C : Calls') (g : LArg) (args : List LArg) (f : Fr) (H : Heap) : Rs := a3K f args fun l => a8W C l H (mR f g)
def c7g (_ : Fr) (_ : Heap) : Rs := .no
def opF (P : Program) (C : Calls') (o : LOp) : Fr → Heap → Rs :=
 LOp.rec (motive := fun _ => Fr → Heap → Rs) c7g hMv b7a c3q c7i b3q b2Q hSt hFa c1C c1I c2S hF1 hFn c1v b6J (c2h P) c1B (c2X C) (c1x C) (c6Z P) o
inductive Rf where
 | no
 | ok (f : Fr) (H : Heap)
def uE {α : Type} (d : Option Pth) (v : Value) (f : Fr) (K : Fr → α) : α := Option.rec (motive := fun _ => α) (K f) (fun p => qE v p f K) d
def b1H {α : Type} (no : α) (d : Option Pth) (f : Fr) (K : Fr → Heap → α) (r : Rs) : α :=
 Rs.rec (motive := fun _ => α) no (fun v H => uE d v f fun f => K f H) (fun v H => xT v fun v => nX H fun H => uE d v f fun f => K f H) r
def isB (v : Value) (w : Bool) : Bool := match v with
 | .bool b => Bool.rec (motive := fun _ => Bool) (Bool.rec (motive := fun _ => Bool) true false w) w b
 | _ => false
def yS (P : Program) (C : Calls') (ops : LOps) : Fr → Heap → Rf := LOps.rec (motive := fun _ => Fr → Heap → Rf)
 (fun f H => .ok f H)
 (fun d o _ ih f H => b1H .no d f ih (opF P C o f H))
 (fun p w d o _ ih f H => oE (isB (oH p f) w) (uE d undef f fun f => ih f H) (b1H .no d f ih (opF P C o f H))) ops
inductive Rt where
 | no
 | ok (tr : List (Fr × Heap × Value)) (f : Fr) (H : Heap)
def b1X (tr : List (Fr × Heap × Value)) (f0 : Fr) (H0 : Heap) (d : Option Pth) (K : List (Fr × Heap × Value) → Fr → Heap → Rt) (r : Rs) : Rt :=
 Rs.rec (motive := fun _ => Rt) .no (fun v H => uE d v f0 fun f => K ((f0, H0, v) :: tr) f H) (fun v H => xT v fun v => nX H fun H => uE d v f0 fun f => K ((f0, H0, v) :: tr) f H) r
def rM (P : Program) (C : Calls') (ops : LOps) : List (Fr × Heap × Value) → Fr → Heap → Rt := LOps.rec (motive := fun _ => List (Fr × Heap × Value) → Fr → Heap → Rt)
 (fun tr f H => .ok tr f H)
 (fun d o _ ih tr f H => b1X tr f H d ih (opF P C o f H))
 (fun p w d o _ ih tr f H => oE (isB (oH p f) w) (uE d undef f fun f1 => ih ((f, H, undef) :: tr) f1 H) (b1X tr f H d ih (opF P C o f H))) ops
def c0b (v : Value) (r : Rs) : Bool := Rs.rec (motive := fun _ => Bool) false (fun w _ => veq w v) (fun w _ => veq w v) r
def b5u (f : Fr) (g : Option (Pth × Bool)) : Bool := match g with
 | none => true
 | some (p, w) => isB (oH p f) w
def b4P (P : Program) (C : Calls') (tr : List (Fr × Heap × Value)) (H1 : Heap) (x : Nat × Option Nat × Option (Pth × Bool) × LOp) : Bool :=
 match a1e tr x.1 with
 | some (f, _, v) => oE (b5u f x.2.2.1) true (match x.2.1 with
   | none => c0b v (opF P C x.2.2.2 f H1)
   | some m => match a1e tr m with
     | some (_, H, _) => c0b v (opF P C x.2.2.2 f H)
     | none => false)
 | none => false
def b5o {α : Type} (p : α → Bool) (l : List α) : Bool := List.rec (motive := fun _ => Bool) true (fun x _ ih => oE (p x) false ih) l
inductive Rc where
 | no
 | ok (e : Ex) (f : Fr) (H : Heap)
def c5d (r : Rf) : Rc := Rf.rec (motive := fun _ => Rc) .no (fun f H => .ok .normal f H) r
def c0T (P : Program) (C : Calls') (tab : List (Nat × Option Nat × Option (Pth × Bool) × LOp)) (r : Rt) : Rc := Rt.rec (motive := fun _ => Rc) .no (fun tr f H => oE (b5o (b4P P C tr H) tab) .no (.ok .normal f H)) r
def pO {α : Type} (no : α) (l : List Value) : List Pth → Fr → (Fr → α) → α := List.rec (motive := fun _ => List Pth → Fr → (Fr → α) → α) (fun _ f K => K f)
 (fun v _ ih ps f K => List.rec (motive := fun _ => α) no (fun p ps _ => qE v p f fun f => ih ps f K) ps) l
def a4p (H : Heap) (f : Fr) (r : LRes) : Rs := LRes.rec (motive := fun _ => Rs) (fun p => oP (oH p f) fun v => .ok v H) (fun p => b3q (.t p) f H) (fun n p => b2Q n (.t p) f H) r
def b5t (H : Heap) (f : Fr) (l : List LRes) : (List Value → Rs) → Rs := List.rec (motive := fun _ => (List Value → Rs) → Rs) (fun K => K []) (fun r _ ih K => Rs.rec (motive := fun _ => Rs) .no (fun v _ => ih fun l => K (v :: l)) (fun _ _ => .no) (a4p H f r)) l
def noT (v : Value) : Bool := match v with | .tuple _ => false | _ => true
def a6O (l : List LRes) (f : Fr) (H : Heap) : Rs := match l with
 | [r] => a4p H f r
 | l => b5t H f l fun vs => oE (b5o noT vs) .no (.ok (.tuple ⟨vs⟩) H)
def c3j (l : List LRes) (r : Rc) : Rs := match r with
 | .ok .normal f H => a6O l f H
 | .ok .ret f H => a6O l f H
 | _ => .no
abbrev qK := List LEnv → LCode → Fr → Heap → Rc
def c2G (P : Program) (k : FuncId) (args : List Value) (H : Heap) : Rs := match qO P k args H with
 | some (v, H1) => .th v H1
 | none => .no
def oO (T : LT) (ih : qK) (E : List LEnv) (p : Pth) (args : List Value) (H : Heap) : Rs := match a2U p T with
 | some g => pO .no args g.ps .e fun f => c3j g.res (ih E g.body f H)
 | none => .no
def b5H (P : Program) (T : LT) (ih : qK) (E : List LEnv) (p : Pth) (k : FuncId) (args : List Value) (H : Heap) : Rs := match a2U p T with
 | some g => pO .no args g.ps .e fun f => c3j g.res (ih E g.body f H)
 | none => c2G P k args H
def b7d (E : List LEnv) (L : Nat) : Option LEnv := List.rec (motive := fun _ => Option LEnv) none (fun e _ ih => oE (Nat.beq e.L L) ih (some e)) E
def c1h (e : Ex) : Option Code := match e with | .normal => none | .ret => some .ret | .exit id => some (.exit id)
def a2y (L : Nat) (e : Ex) (H : Heap) : Rs := match iO H L with
 | some (.loop ⟨_, _, fn, tmps, ps, a, b, d⟩) => match c1h e with
   | none => .th (.bool true) (hset H L (.loop ⟨.ready, none, fn, tmps, ps, a, b, d⟩))
   | some c => .th (.bool false) (hset H L (.loop ⟨.done, some c, fn, tmps, ps, a, b, d⟩))
 | _ => .no
def b3k (L : Nat) (r : Rc) : Rs := match r with
 | .ok e _ H => a2y L e H
 | .no => .no
def a0x (ih : qK) (E : List LEnv) (en : LEnv) (f : Fr) (H : Heap) : Rs := match iO H en.L with
 | some (.loop ⟨.ready, p, fn, tmps, ps, a, b, d⟩) => nX (hset H en.L (.loop ⟨.busy, p, fn, tmps, ps, a, b, d⟩)) fun H => b3k en.L (ih E en.b f H)
 | _ => .no
def sU (ih : qK) (E : List LEnv) (en : LEnv) (r : Rc) : Rs := match r with
 | .ok .normal f H => a0x ih E en f H
 | _ => .no
def a9L (ih : qK) (E : List LEnv) (L : Nat) (args : List Value) (H : Heap) : Rs := match b7d E L with
 | some en => match iO H L with
   | some (.loop ⟨.ready, _, _, ⟨tmps⟩, ps, _, _, _⟩) => oE (a4G args ps.size) .no (pO .no tmps en.ps .e fun f => pO .no args en.pp f fun f => sU ih E en (ih E en.a f H))
   | _ => .no
 | none => .no
def a0s (P : Program) (T : LT) (ih : qK) (E : List LEnv) : Calls' := ⟨b5H P T ih E, a9L ih E⟩
def c6I (_ : Fr) (_ : Heap) : Rc := .no
def c5s (f : Fr) (H : Heap) : Rc := .ok .normal f H
def c7b (P : Program) (T : LT) (ih : qK) (E : List LEnv) (ops : LOps) (f : Fr) (H : Heap) : Rc := c5d (yS P (a0s P T ih E) ops f H)
def c6s (P : Program) (T : LT) (ih : qK) (E : List LEnv) (ops : LOps) (tab : List (Nat × Option Nat × Option (Pth × Bool) × LOp)) (f : Fr) (H : Heap) : Rc := c0T P (a0s P T ih E) tab (rM P (a0s P T ih E) ops [] f H)
def b7U (ih : qK) (E : List LEnv) (b : LCode) (r : Rc) : Rc := match r with
 | .ok .normal f H => ih E b f H
 | r => r
def c6v (ih : qK) (E : List LEnv) (a b : LCode) (_ _ : Fr → Heap → Rc) (f : Fr) (H : Heap) : Rc := b7U ih E b (ih E a f H)
def b6Z (ih : qK) (E : List LEnv) (c : LArg) (x y : LCode) (_ _ : Fr → Heap → Rc) (f : Fr) (H : Heap) : Rc := match mR f c with
 | .bool t => ih E (Bool.rec (motive := fun _ => LCode) y x t) f H
 | _ => .no
def c6d (id : Nat) (r : Rc) : Rc := match r with
 | .ok (.exit i) f H => .ok (Bool.rec (motive := fun _ => Ex) (.exit i) .normal (Nat.beq i id)) f H
 | r => r
def c3l (ih : qK) (E : List LEnv) (id : Nat) (b : LCode) (_ : Fr → Heap → Rc) (f : Fr) (H : Heap) : Rc := c6d id (ih E b f H)
def c4Y (ih : qK) (E : List LEnv) (b : LCode) (_ : Fr → Heap → Rc) (f : Fr) (H : Heap) : Rc := b7U ih E (.loop b) (ih E b f H)
def c5i (id : Nat) (f : Fr) (H : Heap) : Rc := .ok (.exit id) f H
def c7s (f : Fr) (H : Heap) : Rc := .ok .ret f H
def frL {α : Type} (f : Fr) (ps : List Pth) : (List Value → α) → α := List.rec (motive := fun _ => (List Value → α) → α) (fun K => K []) (fun p _ ih K => oP (oH p f) fun v => ih fun l => K (v :: l)) ps
def tV (L : Nat) (f : Fr) (H : Heap) : Rc := match iO H L with
 | some (.loop ⟨.ready, none, fn, tmps, ps, a, b, d⟩) => nX (hset H L (.loop ⟨.exhausted, none, fn, tmps, ps, a, b, d⟩)) fun H => .ok .normal f H
 | some (.loop ⟨.done, none, fn, tmps, ps, a, b, d⟩) => nX (hset H L (.loop ⟨.exhausted, none, fn, tmps, ps, a, b, d⟩)) fun H => .ok .normal f H
 | some (.loop ⟨.done, some .ret, fn, tmps, ps, a, b, d⟩) => nX (hset H L (.loop ⟨.exhausted, some .ret, fn, tmps, ps, a, b, d⟩)) fun H => .ok .ret f H
 | some (.loop ⟨.done, some (.exit id), fn, tmps, ps, a, b, d⟩) => nX (hset H L (.loop ⟨.exhausted, some (.exit id), fn, tmps, ps, a, b, d⟩)) fun H => .ok (.exit id) f H
 | _ => .no
def b3o (L : Nat) (f : Fr) (r : Rs) : Rc := match r with
 | .no => .no
 | .ok _ H => tV L f H
 | .th _ H => nX H fun H => tV L f H
def b1S (T : LT) (ih : qK) (E : List LEnv) (f : Fr) (L : Nat) (k : FuncId) (args : List Value) (H : Heap) : Rc := lP (kS k) fun p => b3o L f (oO T ih E p args H)
def a9m (T : LT) (ih : qK) (E : List LEnv) (g : LArg) (ps pp : List Pth) (params : Array Tmp) (assign body : Code) (a b : LCode) (_ _ : Fr → Heap → Rc) (f : Fr) (H : Heap) : Rc := match mR f g with
 | .func (.func k) ⟨x⟩ ⟨y⟩ => kC H.length fun L => frL f ps fun l => nX (H.cons (.loop ⟨.ready, none, 0, ⟨l⟩, params, assign, body, 0⟩)) fun H1 =>
    kC k fun k => b1S T ih (⟨L, ps, pp, a, b⟩ :: E) f L k (a5o x (.func (.yield L) #[] #[] :: y)) H1
 | _ => .no
def b1a (P : Program) (T : LT) (ih : qK) (E : List LEnv) (c : LCode) : Fr → Heap → Rc :=
 LCode.rec (motive := fun _ => Fr → Heap → Rc) c6I c5s (c7b P T ih E) (c6s P T ih E) (c6v ih E) (b6Z ih E) (c3l ih E) (c4Y ih E) c5i c7s (a9m T ih E) c
def exF (P : Program) (T : LT) (n : Nat) : qK := Nat.rec (motive := fun _ => qK) (fun _ _ _ _ => .no) (fun _ ih => b1a P T ih) n
section
variable {α : Type}
def lS (x : Operand) (K : LArg → α) : α := match x with
 | .tmp t => lP (kS t) fun p => K (.t p)
 | .const v => K (.c v)
 | .global g => K (.c (.pointer (some ⟨g, 0, none⟩)))
 | .func k => K (.c (.func (.func k) #[] #[]))
def a5P (l : List Operand) : (List LArg → α) → α := List.rec (motive := fun _ => (List LArg → α) → α) (fun K => K []) (fun x _ ih K => lS x fun x => ih fun l => K (x :: l)) l
def a3k (o : Option Nat) (d : α) (K : Nat → α) : α := match o with
 | some n => kC n K
 | none => d
def c6S (k : IntKind) (a b : Int) : Option Value := some (.int k (wK k (c0a a b)))
def c6Q (k : IntKind) (a b : Int) : Option Value := some (.int k (wK k (b8y a b)))
def c5O (a b : Int) : Int := match a, b with
 | .ofNat a, .ofNat b => .ofNat (Nat.mul a b)
 | a, b => a * b
def c3Z (k : IntKind) (a b : Int) : Option Value := some (.int k (wK k (c5O a b)))
def c5I (a b : Int) : Int := match a, b with
 | .ofNat a, .ofNat b => .ofNat (Nat.div a b)
 | a, b => a.tdiv b
def c5X (a b : Int) : Int := match a, b with
 | .ofNat a, .ofNat b => .ofNat (Nat.mod a b)
 | a, b => a.tmod b
def b8k (k : IntKind) (a b : Int) : Option Value := match eqI b 0 with | true => none | false => some (.int k (wK k (c5I a b)))
def c0k (k : IntKind) (a b : Int) : Option Value := match eqI b 0 with | true => none | false => some (.int k (c5X a b))
def c7c (_ : IntKind) (a b : Int) : Option Value := some (.bool (eqI a b))
def c6w (_ : IntKind) (a b : Int) : Option Value := some (.bool (!eqI a b))
def c6C (_ : IntKind) (a b : Int) : Option Value := some (.bool (ltI a b))
def c6K (_ : IntKind) (a b : Int) : Option Value := some (.bool (!ltI b a))
def c6x (_ : IntKind) (a b : Int) : Option Value := some (.bool (ltI b a))
def c6z (_ : IntKind) (a b : Int) : Option Value := some (.bool (!ltI a b))
def b8c (op : BinOp) : Option (IntKind → Int → Int → Option Value) := match op with
 | .add => some c6S
 | .sub => some c6Q
 | .mul => some c3Z
 | .quo => some b8k
 | .rem => some c0k
 | .eql => some c7c
 | .neq => some c6w
 | .lss => some c6C
 | .leq => some c6K
 | .gtr => some c6x
 | .geq => some c6z
 | _ => none
def c1G (d : Option TypeDesc) : Bool := match d with | some (.int _) => true | _ => false
def c7B (P : Program) (s : TypeId) (f : Nat) (d : α) (K1 : Nat → α) (Kn : Nat → Nat → α) : α := match oS P s f with
 | some fd => kC fd.offset fun off => match jO P fd.type with
   | some true => a3k (iF P fd.type) d fun n => Kn off n
   | some false => K1 off
   | none => d
 | none => d
def b6f (P : Program) (o : Oper) (c : Call) (K : LOp → α) : α := match c.callee with
 | .value (.func k) => lP (kS k) fun p => a5P c.args.toList fun l => K (.callF k p l)
 | .value g => lS g fun g => a5P c.args.toList fun l => K (.callV g l)
 | .builtin .len => oE (c.args.size == 1 && c.argTypes.size == 1) (K (.gen o)) (match P.underlying (c.argTypes.getD 0 0) with
    | some (.slice _) => lS (c.args.getD 0 (.tmp 0)) fun x => K (.len x)
    | some .string => lS (c.args.getD 0 (.tmp 0)) fun x => K (.slen x)
    | _ => K (.gen o))
 | .builtin .append => oE (c.args.size == 2 && c.argTypes.size == 2 && ((P.underlying (c.argTypes.getD 1 0)).map qF) == some true) (K (.gen o))
    (match iJ P (c.argTypes.getD 0 0) with
     | some elem => a3k (iF P elem) (K (.gen o)) fun size => a3k (nV P elem) (K (.gen o)) fun bytes => match iZ P elem with
       | some z => oE (z.cells.size == size && size != 0) (K (.gen o)) (kC elem fun elem => lS (c.args.getD 0 (.tmp 0)) fun x => lS (c.args.getD 1 (.tmp 0)) fun y => K (.app elem size bytes x y))
       | none => K (.gen o)
     | none => K (.gen o))
 | _ => K (.gen o)
def c4z (P : Program) (o : Oper) (K : LOp → α) : α := match o.op with
 | .move x => lS x fun x => K (.mv x)
 | .assign x => lS x fun x => K (.mv x)
 | .pick c a b => lS c fun c => lS a fun a => lS b fun b => K (.pick c a b)
 | .binOp op t x y _ => oE (c1G (P.underlying t)) (K (.gen o)) (match b8c op with
   | some g => lS x fun x => lS y fun y => K (.bin g x y)
   | none => K (.gen o))
 | .load t x => match jO P t with
   | some true => a3k (iF P t) (K (.gen o)) fun n => lS x fun x => K (.ldn n x)
   | some false => lS x fun x => K (.ld1 x)
   | none => K (.gen o)
 | .store t x y => a3k (iF P t) (K (.gen o)) fun n => lS x fun x => lS y fun y => K (.st n x y)
 | .fieldAddr s x f => match oS P s f with
   | some fd => match iF P fd.type with
     | some 0 => K (.gen o)
     | some _ => kC fd.offset fun off => lS x fun x => K (.fa off x)
     | none => K (.gen o)
   | none => K (.gen o)
 | .indexAddr t x i => match P.underlying t with
   | some (.slice elem) => a3k (iF P elem) (K (.gen o)) fun size => lS x fun x => lS i fun i => K (.ixs size x i)
   | some (.array n elem) => a3k (iF P elem) (K (.gen o)) fun size => lS x fun x => lS i fun i => K (.ixa n size x i)
   | _ => K (.gen o)
 | .extract t i => kC i fun i => lS t fun t => K (.ext i t)
 | .call c => b6f P o c K
 | _ => K (.gen o)
def yT (P : Program) (o : Oper) (K : LOp → α) : α := oE (o.op.operands.toList.all iT) (K .bad) (c4z P o K)
def a7g (k : Nat) (d : Option Tmp) (no : α) (K : Option Pth → α) : α := match d with
 | none => K none
 | some t => oE (Nat.blt t k) no (lP (kS t) fun p => K (some p))
def uT (P : Program) (k : Nat) (ops : Array Oper) (l : List Oper) : (LOps → α) → α → α := List.rec (motive := fun _ => (LOps → α) → α → α) (fun K _ => K .nil)
 (fun o _ ih K no => a7g k o.dst no fun d => yT P o fun o' => match o.guard with
   | none => ih (fun r => K (.cons d o' r)) no
   | some (j, w) => match (ops[j]?).bind (·.dst) with
     | some t => oE (Nat.blt t k) no (lP (kS t) fun p => a0m w fun w => ih (fun r => K (.gcons p w d o' r)) no)
     | none => no) l
def loG (k : Nat) (ops : Array Oper) (g : Option (Nat × Bool)) (no : α) (K : Option (Pth × Bool) → α) : α := match g with
 | none => K none
 | some (j, w) => match (ops[j]?).bind (·.dst) with
   | some t => oE (Nat.blt t k) no (lP (kS t) fun p => a0m w fun w => K (some (p, w)))
   | none => no
def tL (P : Program) (k : Nat) (ops : Array Oper) (N : Nat) (tab : List (Nat × Nat)) : (List (Nat × Option Nat × Option (Pth × Bool) × LOp) → α) → α → α := List.rec (motive := fun _ => (List (Nat × Option Nat × Option (Pth × Bool) × LOp) → α) → α → α) (fun K _ => K [])
 (fun x _ ih K no => match ops[x.1]? with
   | some o => loG k ops o.guard no fun g => yT P o fun o' => kC (N - 1 - x.1) fun i => oE (Nat.blt x.2 N) (ih (fun l => K ((i, none, g, o') :: l)) no) (kC (N - 1 - x.2) fun m => ih (fun l => K ((i, some m, g, o') :: l)) no)
   | none => no) tab
def b7s (k : Nat) : (List Pth → α) → α := Nat.rec (motive := fun _ => (List Pth → α) → α) (fun K => K []) (fun n ih K => lP (kS n) fun p => ih fun l => K (p :: l)) k
def c3e {β : Type} (l : List β) : List β → (List β → α) → α := List.rec (motive := fun _ => List β → (List β → α) → α) (fun a K => K a) (fun x _ ih a K => ih (x :: a) K) l
def b2B (k : Nat) (K : List Pth → α) : α := b7s k fun l => c3e l [] K
def xL (k : Nat) (l : List Tmp) : (List Pth → α) → α → α := List.rec (motive := fun _ => (List Pth → α) → α → α) (fun K _ => K []) (fun t _ ih K no => oE (Nat.blt t k) no (lP (kS t) fun p => ih (fun l => K (p :: l)) no)) l
def nE (P : Program) (k : Nat) (c : Code) : (LCode → α) → α := Code.rec (motive := fun _ => (LCode → α) → α)
 (fun K => K .skip)
 (fun _ ops d K => Bool.rec (motive := fun _ => α) (uT P k ops ops.toList (fun l => K (.reg l)) (K .bad))
   (match nA P ops with
     | some [] => uT P k ops ops.toList (fun l => K (.reg l)) (K .bad)
     | some tab => uT P k ops ops.toList (fun l => tL P k ops ops.size tab (fun t => K (.drw l t)) (K .bad)) (K .bad)
     | none => K .bad) d)
 (fun _ _ iha ihb K => iha fun a => ihb fun b => K (.seq a b))
 (fun c _ _ ihx ihy K => oE (iT c) (K .bad) (lS c fun c => ihx fun x => ihy fun y => K (.cond c x y)))
 (fun id _ ih K => kC id fun id => ih fun b => K (.block id b))
 (fun _ ih K => ih fun b => K (.loop b))
 (fun g ps assign body iha ihb K => oE (iT g) (K .bad) (lS g fun g' => b2B k fun pp => xL k ps.toList (fun q => iha fun a => ihb fun b => K (.range g' pp q ps assign body a b)) (K .bad)))
 (fun id K => kC id fun id => K (.exit id))
 (fun _ _ K => K .bad)
 (fun _ K => K .skip)
 (fun _ K => K .bad)
 (fun K => K .ret)
 (fun _ K => K .bad) c
def a0K (P : Program) (l : List ResultVar) : (List LRes → α) → α → α := List.rec (motive := fun _ => (List LRes → α) → α → α) (fun K _ => K [])
 (fun r _ ih K no => match r with
   | .tmp t => lP (kS t) fun p => ih (fun l => K (.t p :: l)) no
   | .cell a t => match jO P t with
     | some true => a3k (iF P t) no fun n => lP (kS a) fun p => ih (fun l => K (.cn n p :: l)) no
     | some false => lP (kS a) fun p => ih (fun l => K (.c1 p :: l)) no
     | none => no) l
def a2C (P : Program) (f : FuncId) (no : α) (K : LFunc → α) : α := match P.funcs[f]? with
 | some fn => match fn.body with
   | some c => oE (fn.name == "runtime.NumGoroutine") (a0K P fn.results.toList (fun res => b2B fn.ntmps fun ps => nE P fn.ntmps c fun b => K ⟨ps, b, res⟩) no) no
   | none => no
 | none => no
def tW (P : Program) (fs : List FuncId) : LT → (LT → α) → α := List.rec (motive := fun _ => LT → (LT → α) → α) (fun T K => K T)
 (fun f _ ih T K => a2C P f (ih T K) fun g => lP (kS f) fun p => sG g p T fun T => ih T K) fs
end
end
end Go.Ds
namespace Go.Ds
section
variable {α : Type}
theorem vA (f k : Nat) : a5c (f + 1) (k + 1) = if k % 2 = 0 then .l (a5c f (k / 2)) else .r (a5c f (k / 2)) := by
 show Bool.rec (motive := fun _ => Pth) (.r (a5c f (k / 2))) (.l (a5c f (k / 2))) (Nat.beq (k % 2) 0) = _
 by_cases h : k % 2 = 0
 ·rw [if_pos h, h]; rfl
 ·rw [if_neg h]
  have : Nat.beq (k % 2) 0 = false := gf.2 fun e => h (dU e)
  rw [this]
theorem a4q (f : Nat) : a5c f 0 = .z := by cases f <;> rfl
theorem a1U : ∀ (f g a b : Nat), a ≤ f → b ≤ g → a5c f a = a5c g b → a = b
 | _, _, 0, 0, _, _, _ => rfl
 | 0, _, a + 1, _, h, _, _ => by omega
 | _, 0, _, b + 1, _, h, _ => by omega
 | f, g + 1, 0, b + 1, _, _, h => by
   rw [a4q, vA] at h
   split at h <;> cases h
 | f + 1, g, a + 1, 0, _, _, h => by
   rw [a4q, vA] at h
   split at h <;> cases h
 | f + 1, g + 1, a + 1, b + 1, ha, hb, h => by
   rw [vA, vA] at h
   by_cases h1 : a % 2 = 0
   ·rw [if_pos h1] at h
    by_cases h2 : b % 2 = 0
    ·rw [if_pos h2] at h
     injection h with h
     have := a1U f g (a / 2) (b / 2) (by omega) (by omega) h
     omega
    ·rw [if_neg h2] at h; cases h
   ·rw [if_neg h1] at h
    by_cases h2 : b % 2 = 0
    ·rw [if_pos h2] at h; cases h
    ·rw [if_neg h2] at h
     injection h with h
     have := a1U f g (a / 2) (b / 2) (by omega) (by omega) h
     omega
theorem b1o {a b : Nat} (h : kS a = kS b) : a = b := a1U _ _ _ _ (di _) (di _) h
theorem lM (p : Pth) (K : Pth → α) : lP p K = K p := by
 induction p generalizing K with
 | z => rfl
 | l p ih => exact ih _
 | r p ih => exact ih _
theorem mU (v : Value) (K : Value → α) : oP v K = K v := by cases v <;> rfl
theorem tB (v : Value) (p : Pth) (f : Fr) (K : Fr → α) : qE v p f K = K (qE v p f fun f => f) := by
 induction p generalizing f α with
 | z => cases f <;> rfl
 | l p ih =>
   cases f with
   | e =>
     show qE v p .e (fun l => K (.n undef l .e)) = K (qE v p .e fun l => .n undef l .e)
     rw [ih, ih (K := fun l => Fr.n undef l .e)]
   | n w l r =>
     show qE v p l (fun l => K (.n w l r)) = K (qE v p l fun l => .n w l r)
     rw [ih, ih (K := fun l => Fr.n w l r)]
 | r p ih =>
   cases f with
   | e =>
     show qE v p .e (fun l => K (.n undef .e l)) = K (qE v p .e fun l => .n undef .e l)
     rw [ih, ih (K := fun l => Fr.n undef .e l)]
   | n w l r =>
     show qE v p r (fun r => K (.n w l r)) = K (qE v p r fun r => .n w l r)
     rw [ih, ih (K := fun r => Fr.n w l r)]
theorem uM (p : Pth) : oH p .e = undef := by
 cases p <;> rfl
theorem b3b (v : Value) (p q : Pth) (f : Fr) : (q = p → oH q (qE v p f fun f => f) = v) ∧ (q ≠ p → oH q (qE v p f fun f => f) = oH q f) := by
 induction p generalizing f q with
 | z =>
   refine ⟨fun h => ?_, fun h => ?_⟩
   ·subst h; cases f <;> rfl
   ·cases q with
    | z => exact absurd rfl h
    | l q =>
      cases f with
      | e => show oH q .e = undef; exact uM q
      | n => rfl
    | r q =>
      cases f with
      | e => show oH q .e = undef; exact uM q
      | n => rfl
 | l p ih =>
   have h1 : ∀ f, qE v (.l p) f (fun f => f) = match f with | .e => .n undef (qE v p .e fun f => f) .e | .n w l r => .n w (qE v p l fun f => f) r := fun f => by
    cases f with
    | e => exact tB v p .e fun l => Fr.n undef l .e
    | n w l r => exact tB v p l fun l => Fr.n w l r
   rw [h1]
   cases q with
   | z => exact ⟨fun h => (nomatch h), fun _ => by cases f <;> rfl⟩
   | r q =>
     refine ⟨fun h => (nomatch h), fun _ => ?_⟩
     cases f with
     | e => show oH q .e = undef; exact uM q
     | n => rfl
   | l q =>
     refine ⟨fun h => ?_, fun h => ?_⟩
     ·injection h with h
      cases f with
      | e => exact (ih q .e).1 h
      | n w l r => exact (ih q l).1 h
     ·have h : q ≠ p := fun e => h (by rw [e])
      cases f with
      | e => show oH q (qE v p .e fun f => f) = undef; rw [(ih q .e).2 h, uM]
      | n w l r => exact (ih q l).2 h
 | r p ih =>
   have h1 : ∀ f, qE v (.r p) f (fun f => f) = match f with | .e => .n undef .e (qE v p .e fun f => f) | .n w l r => .n w l (qE v p r fun f => f) := fun f => by
    cases f with
    | e => exact tB v p .e fun l => Fr.n undef .e l
    | n w l r => exact tB v p r fun r => Fr.n w l r
   rw [h1]
   cases q with
   | z => exact ⟨fun h => (nomatch h), fun _ => by cases f <;> rfl⟩
   | l q =>
     refine ⟨fun h => (nomatch h), fun _ => ?_⟩
     cases f with
     | e => show oH q .e = undef; exact uM q
     | n => rfl
   | r q =>
     refine ⟨fun h => ?_, fun h => ?_⟩
     ·injection h with h
      cases f with
      | e => exact (ih q .e).1 h
      | n w l r => exact (ih q r).1 h
     ·have h : q ≠ p := fun e => h (by rw [e])
      cases f with
      | e => show oH q (qE v p .e fun f => f) = undef; rw [(ih q .e).2 h, uM]
      | n w l r => exact (ih q r).2 h
def FAg (f : Fr) (l : List Value) : Prop := ∀ t, oH (kS t) f = get l t
def FRel (k : Nat) (f : Fr) (l : List Value) : Prop := l.length = k ∧ FAg f l
noncomputable def b5r (f : Fr) (t : Tmp) (v : Value) : Fr := qE v (kS t) f fun f => f
theorem a3R (f : Fr) (t u : Tmp) (v : Value) : oH (kS u) (b5r f t v) = if u = t then v else oH (kS u) f := by
 have h := b3b v (kS t) (kS u) f
 by_cases he : u = t
 ·rw [if_pos he]; exact h.1 (by rw [he])
 ·rw [if_neg he]; exact h.2 (fun e => he (b1o e))
theorem FRel.put {k : Nat} {f : Fr} {l : List Value} (h : FRel k f l) {t : Tmp} (ht : t < k) (v : Value) : FRel k (b5r f t v) (Go.Ds.put l (some t) v) := by
 refine ⟨by simp [Go.Ds.put, kH, h.1], fun u => ?_⟩
 rw [a3R, b1Q]
 by_cases he : u = t
 ·subst he; rw [if_pos rfl, if_pos ⟨rfl, by rw [h.1]; exact ht⟩]
 ·rw [if_neg he, if_neg (fun hh => he (cY hh.1).symm)]; exact h.2 u
theorem FRel.set {k : Nat} {f : Fr} {l : List Value} (h : FRel k f l) {t : Tmp} (ht : t < k) (v : Value) : FRel k (b5r f t v) (l.set t v) := by
 have := h.put ht v
 simpa [Go.Ds.put, kH] using this
def Rs.Is (r : Rs) (v : Value) (H : Heap) : Prop := r = .ok v H ∨ r = .th v H
theorem Rs.ar {v : Value} {H : Heap} : ¬ Rs.no.Is v H := by rintro (h | h) <;> cases h
theorem Rs.aP {v w : Value} {H H1 : Heap} (h : (Rs.ok v H).Is w H1) : w = v ∧ H1 = H := by
 rcases h with h | h
 ·injection h with a b; exact ⟨a.symm, b.symm⟩
 ·cases h
theorem Rs.aS {v w : Value} {H H1 : Heap} (h : (Rs.th v H).Is w H1) : w = v ∧ H1 = H := by
 rcases h with h | h
 ·cases h
 ·injection h with a b; exact ⟨a.symm, b.symm⟩
theorem kP (b : Bool) (no x : α) : oE b no x = if b = true then x else no := by cases b <;> rfl
theorem lF {b : Bool} {x : Rs} {v : Value} {H : Heap} (h : (oE b Rs.no x).Is v H) : b = true ∧ x.Is v H := by
 cases b with
 | false => exact absurd h Rs.ar
 | true => exact ⟨rfl, h⟩
theorem zK {β : Type} : ∀ (cs : List β) (e : Nat), a8y cs e = decide (e ≤ cs.length)
 | [], 0 => rfl
 | [], e + 1 => by simp; rfl
 | _ :: _, 0 => rfl
 | _ :: cs, e + 1 => by show a8y cs e = _; rw [zK cs e]; simp
theorem xZ {β : Type} : ∀ (cs : List β) (e : Nat), a4G cs e = decide (e = cs.length)
 | [], 0 => rfl
 | [], e + 1 => by simp; rfl
 | _ :: _, 0 => by simp; rfl
 | _ :: cs, e + 1 => by show a4G cs e = _; rw [xZ cs e]; simp
theorem zD {β : Type} : ∀ (cs : List β) (e : Nat), a1e cs e = cs[e]?
 | [], _ => rfl
 | _ :: _, 0 => rfl
 | _ :: cs, e + 1 => by show a1e cs e = _; rw [zD cs e]; simp
theorem a6v {β : Type} : ∀ (cs : List β) (e : Nat), b1D cs e = cs.drop e
 | [], e => by cases e <;> rfl
 | _ :: _, 0 => rfl
 | _ :: cs, e + 1 => by show b1D cs e = _; rw [a6v cs e]; rfl
theorem a8u {β : Type} : ∀ {cs : List β} {n : Nat} {K : List β → Rs} {v : Value} {H : Heap}, (a2z cs n K).Is v H → n ≤ cs.length ∧ (K (cs.take n)).Is v H
 | [], 0, K, v, H, h => ⟨di _, h⟩
 | [], n + 1, K, v, H, h => absurd h Rs.ar
 | _ :: _, 0, K, v, H, h => ⟨fb _, h⟩
 | c :: cs, n + 1, K, v, H, h => by
   have h' : (a2z cs n fun l => K (c :: l)).Is v H := h
   obtain ⟨h1, h2⟩ := a8u h'
   exact ⟨by simp; omega, h2⟩
theorem b8D {a b : IntKind} (h : Nat.beq (kIx a) (kIx b) = true) : a = b := by
 cases a <;> cases b <;> first | rfl | (exact absurd h (by decide))
theorem b7f (k : Nat) (K : List Pth → α) : b7s k K = K ((List.range k).map kS).reverse := by
 induction k generalizing K with
 | zero => rfl
 | succ n ih =>
   show lP (kS n) (fun p => b7s n fun l => K (p :: l)) = _
   rw [lM, ih, eo]
   simp
theorem b7O {β : Type} (l : List β) : ∀ (a : List β) (K : List β → α), c3e l a K = K (l.reverse ++ a) := by
 induction l with
 | nil => intro a K; rfl
 | cons x l ih => intro a K; show c3e l (x :: a) K = _; rw [ih]; simp
theorem b1y (k : Nat) (K : List Pth → α) : b2B k K = K ((List.range k).map kS) := by
 unfold b2B; rw [b7f, b7O]; simp
theorem pJ (n : Nat) (d : α) (K : Nat → α) : a3k (some n) d K = K n := jX n K
def LK (H H' : Heap) : Prop := H.length ≤ H'.length ∧ ∀ A r', A < H.length → iO H' A = some (.loop r') →
 ∃ r, iO H A = some (.loop r) ∧ r'.assign = r.assign ∧ r'.body = r.body ∧ r'.params = r.params ∧ r'.tmps = r.tmps
theorem LK.refl (H : Heap) : LK H H := ⟨di _, fun _ r _ h => ⟨r, h, rfl, rfl, rfl, rfl⟩⟩
theorem LK.trans {H H1 H2 : Heap} (h : LK H H1) (k : LK H1 H2) : LK H H2 := ⟨dK h.1 k.1, fun A r' hA hr => by
 obtain ⟨r1, h1, a1, b1, c1, d1⟩ := k.2 A r' (dN hA h.1) hr
 obtain ⟨r, h2, a2, b2, c2, d2⟩ := h.2 A r1 hA h1
 exact ⟨r, h2, a1.trans a2, b1.trans b2, c1.trans c2, d1.trans d2⟩⟩
def Blk.cd : Blk → Bool
 | .loop _ => true
 | _ => false
theorem LK.hset (H : Heap) (A : Nat) {b : Blk} (hb : b.cd = false) : LK H (hset H A b) := by
 refine ⟨by rw [jA]; exact di _, fun B r' hB h => ?_⟩
 by_cases he : A = B
 ·subst he; rw [iR _ hB] at h; injection h with h; subst h; cases hb
 ·rw [iL _ he] at h; exact ⟨r', h, rfl, rfl, rfl, rfl⟩
theorem LK.cons (H : Heap) (b : Blk) : LK H (H.cons b) := by
 refine ⟨by rw [length_cons]; omega, fun B r' hB h => ?_⟩
 rw [jR b hB] at h; exact ⟨r', h, rfl, rfl, rfl, rfl⟩
theorem LK.row (H : Heap) (ty : TypeId) (cs : List Value) : LK H (rT H ty cs) := by rw [lK]; exact .cons _ _
theorem LK.loop {H : Heap} {L : Nat} {r r' : Loop} (h : iO H L = some (.loop r)) (e : r'.assign = r.assign ∧ r'.body = r.body ∧ r'.params = r.params ∧ r'.tmps = r.tmps) : LK H (Go.Ds.hset H L (.loop r')) := by
 refine ⟨by rw [jA]; exact di _, fun B r2 hB hg => ?_⟩
 by_cases he : L = B
 ·subst he; rw [iR _ hB] at hg; injection hg with hg; injection hg with hg; subst hg; exact ⟨r, h, e⟩
 ·rw [iL _ he] at hg; exact ⟨r2, hg, rfl, rfl, rfl, rfl⟩
variable {P : Program}
theorem a7c {H H' : Heap} {t : TypeId} {p v : Value} (h : rI P H t p v = some H') : LK H H' := by
 unfold rI at h
 split at h
 ·split at h
  ·dsimp only at h
   split at h
   ·injection h with h; subst h; exact .hset _ _ rfl
   ·cases h
  ·cases h
 ·cases h
theorem a4c {H H' : Heap} {t : TypeId} {v r : Value} (h : xF P H t v = some (r, H')) : LK H H' := by
 unfold xF at h
 dsimp only at h
 split at h
 ·injection h with h; injection h with _ h; subst h; exact .row _ _ _
 ·cases h
theorem a5t {H H' : Heap} {t : TypeId} {s x r : Value} (h : nQ P H t s x = some (r, H')) : LK H H' := by
 unfold nQ at h
 simp only [db] at h
 obtain ⟨elem, _, size, _, bytes, _, z, _, ⟨n, l⟩, _, h⟩ := h
 try dsimp only at h
 split at h
 ·split at h
  ·split at h
   ·injection h with h; injection h with _ h; subst h; exact .refl _
   ·injection h with h; injection h with _ h; subst h; exact .row _ _ _
  ·cases h
 ·split at h
  ·split at h
   ·injection h with h; injection h with _ h; subst h; exact .hset _ _ rfl
   ·split at h
    ·injection h with h; injection h with _ h; subst h; exact .hset _ _ rfl
    ·cases h
  ·cases h
 ·cases h
theorem a6o {H H' : Heap} {t : TypeId} {v r : Value} (h : rA P H t v = some (r, H')) : LK H H' := by
 unfold rA at h
 split at h
 ·dsimp only at h
  rename_i n elem _
  have key : ∀ (b : Bool), (if b = true then some (Value.pointer (some ⟨H.length, 0, some v.cells.toList.length⟩), b4M H elem v.cells.toList) else none) = some (r, H') → LK H H' := by
   intro b h
   cases b
   ·cases h
   ·injection h with h; injection h with _ h; subst h; rw [a1r]; exact .cons _ _
  exact key _ h
 ·exact a4c h
theorem a5Y {H H' : Heap} {t : TypeId} {x y r : Value} (h : vO P H t x y = some (r, H')) : LK H H' := by
 unfold vO at h
 split at h
 ·split at h
  ·split at h
   ·simp only [dp] at h
    obtain ⟨_, _, h⟩ := h
    injection h with _ h; subst h; exact .hset _ _ rfl
   ·cases h
  ·cases h
 ·cases h
theorem a5X {H H' : Heap} {k : FuncId} {args : List Value} {r : Value} (h : qO P k args H = some (r, H')) : LK H H' := by
 unfold qO at h
 simp only [db] at h
 obtain ⟨fn, _, h⟩ := h
 split at h
 case isFalse => cases h
 split at h
 ·split at h
  ·injection h with h; injection h with _ h; subst h; exact .refl _
  ·cases h
 split at h
 ·split at h
  ·split at h
   ·simp only [db] at h
    obtain ⟨_, _, h⟩ := h
    split at h
    ·injection h with h; injection h with _ h; subst h; exact .row _ _ _
    ·cases h
   ·cases h
  ·cases h
 split at h
 ·split at h
  ·split at h
   ·split at h
    ·injection h with h; injection h with _ h; subst h; exact .refl _
    ·cases h
   ·cases h
  ·cases h
 ·cases h
theorem b0s {H H' : Heap} {t : TypeId} {s x r : Value} (h : a2w P H t s x = some (r, H')) : LK H H' := by
 unfold a2w at h
 simp only [db] at h
 obtain ⟨elem, _, size, _, m, _, h⟩ := h
 try dsimp only at h
 split at h
 ·split at h
  ·injection h with h; injection h with _ h; subst h; exact .refl _
  ·cases h
 ·split at h
  ·injection h with h; injection h with _ h; subst h; exact .refl _
  ·simp only [db] at h
   obtain ⟨l, _, h⟩ := h
   split at h
   ·split at h
    ·injection h with h; injection h with _ h; subst h; exact .hset _ _ rfl
    ·cases h
   ·cases h
 ·cases h
theorem a8q {H H' : Heap} {t : TypeId} {x r : Value} (h : sJ P H t x = some (r, H')) : LK H H' := by
 unfold sJ at h
 simp only [db] at h
 obtain ⟨elem, _, z, _, h⟩ := h
 split at h
 ·injection h with h; injection h with _ h; subst h; exact .refl _
 ·split at h
  ·injection h with h; injection h with _ h; subst h; exact .refl _
  ·try dsimp only at h
   split at h
   ·split at h
    ·injection h with h; injection h with _ h; subst h; exact .hset _ _ rfl
    ·cases h
   ·cases h
 ·cases h
theorem b3l {H H' : Heap} {t : TypeId} {m k v : Value} (h : a1k P H t m k v = some H') : LK H H' := by
 unfold a1k at h
 simp only [db] at h
 obtain ⟨⟨kt, et⟩, _, h⟩ := h
 dsimp only at h
 split at h
 ·split at h
  ·split at h
   ·simp only [db] at h
    obtain ⟨r, _, h⟩ := h
    split at h
    ·simp only [db] at h
     obtain ⟨e, _, h⟩ := h
     split at h
     ·injection h with h; subst h; exact .hset _ _ rfl
     ·cases h
    ·injection h with h; subst h; exact .hset _ _ rfl
   ·cases h
  ·cases h
 ·cases h
theorem a6l {H H' : Heap} {t : TypeId} {m k r : Value} (h : rG P H t m k = some (r, H')) : LK H H' := by
 unfold rG at h
 simp only [db] at h
 obtain ⟨⟨kt, et⟩, _, h⟩ := h
 dsimp only at h
 split at h
 ·split at h
  ·split at h
   ·simp only [db] at h
    obtain ⟨r, _, h⟩ := h
    split at h
    ·simp only [db] at h
     obtain ⟨e, _, h⟩ := h
     split at h
     ·injection h with h; injection h with _ h; subst h; exact .hset _ _ rfl
     ·cases h
    ·simp only [db] at h
     obtain ⟨z, _, h⟩ := h
     split at h
     ·injection h with h; injection h with _ h; subst h; exact .hset _ _ rfl
     ·cases h
   ·cases h
  ·cases h
 ·cases h
theorem a7t {H H' : Heap} {m b v : Value} (h : rE H m b v = some H') : LK H H' := by
 unfold rE at h
 split at h
 ·split at h
  ·split at h
   ·simp only [db] at h
    obtain ⟨e, _, h⟩ := h
    injection h with h; subst h; exact .hset _ _ rfl
   ·cases h
  ·cases h
 ·cases h
theorem a3m {H H' : Heap} {t : TypeId} {o : Option Value} {r : Value} (h : pY P H t o = some (r, H')) : LK H H' := by
 unfold pY at h
 simp only [db] at h
 obtain ⟨_, _, h⟩ := h
 split at h
 ·injection h with h; injection h with _ h; subst h; exact .cons _ _
 ·injection h with h; injection h with _ h; subst h; exact .cons _ _
 ·cases h
theorem a6F {H H' : Heap} {o : Oper} {l : List Value} {r : Value} (h : kQ P o l H = some (r, H')) : H' = H := by
 unfold kQ at h
 split at h
 ·split at h
  ·split at h
   ·injection h with h; injection h with _ h; exact h.symm
   ·cases h
  ·cases h
 ·cases h
theorem vC {H H' : Heap} {v r : Value} (h : some (v, H) = some (r, H')) : LK H H' := by injection h with h; injection h with _ h; subst h; exact .refl _
theorem uK {H H' : Heap} {v : Option Value} {r : Value} (h : v.map (fun v => (v, H)) = some (r, H')) : LK H H' := by
 cases v with
 | none => cases h
 | some v => exact vC h
set_option maxHeartbeats 1000000 in
theorem b5T {H H' : Heap} {o : Oper} {l : List Value} {r : Value} (h : opD P o l H = some (r, H')) : LK H H' := by
 obtain ⟨dst, op, type, pos, after, guard⟩ := o
 have pl : ∀ {o : Oper}, kQ P o l H = some (r, H') → LK H H' := fun h => by rw [a6F h]; exact .refl _
 cases op with
 | alloc t =>
   simp only [opD, db] at h
   obtain ⟨z, _, h⟩ := h
   split at h
   ·exact a6o h
   ·cases h
 | box t x => simp only [opD] at h; exact a4c h
 | store t x y =>
   simp only [opD, dp] at h
   obtain ⟨H1, h, e⟩ := h
   injection e with _ e; subst e
   exact a7c h
 | mapUpdate t m x y =>
   simp only [opD, dp] at h
   obtain ⟨H1, h, e⟩ := h
   injection e with _ e; subst e
   exact b3l h
 | mapEntry t m x => simp only [opD] at h; exact a6l h
 | entryStore t m x y =>
   simp only [opD, dp] at h
   obtain ⟨H1, h, e⟩ := h
   injection e with _ e; subst e
   exact a7t h
 | makeMap t x => simp only [opD] at h; exact a3m h
 | buildSlice t len parts =>
   simp only [opD, db] at h
   obtain ⟨elem, _, size, _, z, _, h⟩ := h
   split at h
   ·injection h with h; injection h with _ h; subst h; exact .row _ _ _
   split at h
   ·simp only [dp] at h
    obtain ⟨cs, _, e⟩ := h
    injection e with _ e; subst e
    exact .row _ _ _
   ·cases h
 | makeSlice t n c =>
   simp only [opD, db] at h
   obtain ⟨elem, _, size, _, bytes, _, z, _, h⟩ := h
   split at h
   ·split at h
    ·injection h with h; injection h with _ h; subst h; exact .row _ _ _
    ·cases h
   ·cases h
 | call c =>
   simp only [opD] at h
   split at h
   ·split at h
    ·split at h
     all_goals first | exact uK h | cases h
    ·cases h
   ·split at h
    ·exact a5t h
    ·cases h
   ·split at h
    ·exact b0s h
    ·cases h
   ·split at h
    ·exact a8q h
    ·cases h
   ·exact pl h
   ·split at h
    ·split at h
     ·split at h
      ·cases h
      ·exact vC h
     ·cases h
    ·cases h
   ·split at h
    ·exact a5Y h
    ·cases h
   ·exact pl h
   ·exact pl h
   ·cases h
 | convert s t x =>
   simp only [opD] at h
   split at h
   ·exact pl h
   ·split at h
    ·split at h
     ·exact uK h
     ·cases h
    ·split at h
     ·simp only [db] at h
      obtain ⟨_, _, h⟩ := h
      injection h with h; injection h with _ h; subst h
      rw [b1z]; exact .cons _ _
     ·cases h
    ·split at h
     ·exact vC h
     ·cases h
    ·cases h
 | slice t x lo hi mx =>
   cases mx with
   | some _ => simp only [opD] at h; cases h
   | none =>
     simp only [opD] at h
     split at h
     ·exact pl h
     ·split at h
      ·exact uK h
      ·exact uK h
 | _ =>
   simp only [opD] at h
   repeat' first
    | exact LK.refl _
    | exact vC h
    | exact uK h
    | exact pl h
    | (cases h; done)
    | split at h
    | (simp only [db, dp] at h; obtain ⟨_, _, h⟩ := h)
    | (obtain ⟨_, _, h⟩ := h)
    | (injection h with h; injection h with _ h; subst h; exact LK.refl _)
    | (injection h with _ h; subst h; exact LK.refl _)
    | (cases h; exact LK.refl _)
end
end Go.Ds
namespace Go.Ds
variable {P : Program}
structure CallsOk (P : Program) (C : Calls') (H0 : Heap) : Prop where
 fn : ∀ p f args H v H1, LK H0 H → (C.fn p f args H).Is v H1 → p = kS f → (FnS P f args H (fun v' H' => v' = v ∧ H' = H1) ∨ qO P f args H = some (v, H1)) ∧ LK H H1
 rd : ∀ L args H v H1, LK H0 H → (C.rd L args H).Is v H1 → xR P L args H v H1 ∧ LK H H1
noncomputable def iY (x : Operand) : LArg := match x with
 | .tmp t => .t (kS t)
 | .const v => .c v
 | .global g => .c (.pointer (some ⟨g, 0, none⟩))
 | .func k => .c (.func (.func k) #[] #[])
theorem lA {α : Type} (x : Operand) (K : LArg → α) : lS x K = K (iY x) := by
 cases x with
 | tmp t => exact lM _ _
 | _ => rfl
theorem jT {f : Fr} {l : List Value} (h : FAg f l) (x : Operand) : mR f (iY x) = ev l x := by
 cases x with
 | tmp t => exact h t
 | _ => rfl
theorem a4r {α : Type} (l : List Operand) (K : List LArg → α) : a5P l K = K (l.map iY) := by
 induction l generalizing K with
 | nil => rfl
 | cons x l ih =>
   show lS x (fun x => a5P l fun l => K (x :: l)) = _
   rw [lA, ih]; rfl
theorem a6z {α : Type} {f : Fr} {l : List Value} (h : FAg f l) (xs : List Operand) (K : List Value → α) : a3K f (xs.map iY) K = K (xs.map (ev l)) := by
 induction xs generalizing K with
 | nil => rfl
 | cons x xs ih =>
   show oP (mR f (iY x)) (fun v => a3K f (xs.map iY) fun l => K (v :: l)) = _
   rw [mU, ih, jT h]; rfl
theorem c2m {f : Fr} {l : List Value} (h : FAg f l) : evF f = ev l := by
 funext x
 cases x with
 | tmp t => exact h t
 | _ => rfl
def wE (P : Program) (o : Oper) (lo : LOp) : Prop := ∀ C H0 f l H v H1, CallsOk P C H0 → LK H0 H → FAg f l → (opF P C lo f H).Is v H1 → StepR P o l H v H1 ∧ LK H H1
def LowPl (P : Program) (o : Oper) (lo : LOp) : Prop := ∀ C f l H v H1, FAg f l → (opF P C lo f H).Is v H1 → opD P o l H = some (v, H1)
theorem LowPl.low {o : Oper} {lo : LOp} (hok : o.op.operands.toList.all iT = true) (h : LowPl P o lo) : wE P o lo :=
 fun C _ f l H v H1 _ _ hf hr => by have := h C f l H v H1 hf hr; exact ⟨.op hok this, b5T this⟩
theorem b9j (o : Oper) : wE P o .bad := fun _ _ _ _ _ _ _ _ _ _ h => absurd h Rs.ar
theorem b9C (o : Oper) : LowPl P o (.gen o) := fun C f l H v H1 hf hr => by
 have hr : (match c1P P o (evF f) H with | some (v, H1) => Rs.th v H1 | none => .no).Is v H1 := hr
 rw [c2m hf] at hr
 have e : c1P P o (ev l) H = opD P o l H := rfl
 rw [e] at hr
 split at hr
 ·rename_i v2 H2 h2
  obtain ⟨rfl, rfl⟩ := Rs.aS hr
  exact h2
 ·exact absurd hr Rs.ar
section
variable {dst : Option Tmp} {type : TypeId} {pos : String} {after : Array Edge} {guard : Option (Nat × Bool)}
theorem c1F (x : Operand) : LowPl P ⟨dst, .move x, type, pos, after, guard⟩ (.mv (iY x)) := fun C f l H v H1 hf hr => by
 have hr : (oP (mR f (iY x)) fun v => Rs.ok v H).Is v H1 := hr
 rw [mU, jT hf] at hr
 obtain ⟨rfl, rfl⟩ := Rs.aP hr
 rfl
theorem c1N (x : Operand) : LowPl P ⟨dst, .assign x, type, pos, after, guard⟩ (.mv (iY x)) := fun C f l H v H1 hf hr => by
 have hr : (oP (mR f (iY x)) fun v => Rs.ok v H).Is v H1 := hr
 rw [mU, jT hf] at hr
 obtain ⟨rfl, rfl⟩ := Rs.aP hr
 rfl
theorem b4O (c a b : Operand) : LowPl P ⟨dst, .pick c a b, type, pos, after, guard⟩ (.pick (iY c) (iY a) (iY b)) := fun C f l H v H1 hf hr => by
 have hr : (b7a (iY c) (iY a) (iY b) f H).Is v H1 := hr
 unfold b7a at hr
 rw [jT hf] at hr
 split at hr
 ·rename_i t ht
  rw [mU] at hr
  simp only [opD, ht]
  cases t
  ·have hr : (Rs.ok (mR f (iY b)) H).Is v H1 := hr
   rw [jT hf] at hr
   obtain ⟨rfl, rfl⟩ := Rs.aP hr; rfl
  ·have hr : (Rs.ok (mR f (iY a)) H).Is v H1 := hr
   rw [jT hf] at hr
   obtain ⟨rfl, rfl⟩ := Rs.aP hr; rfl
 ·exact absurd hr Rs.ar
theorem b9m (a b : Int) : c5O a b = a * b := by cases a <;> cases b <;> rfl
theorem a5U (a b : Int) : c5I a b = a.tdiv b := by cases a <;> cases b <;> rfl
theorem a5N (a b : Int) : c5X a b = a.tmod b := by cases a <;> cases b <;> rfl
theorem b7S {op : BinOp} {g : IntKind → Int → Int → Option Value} (h : b8c op = some g) (k : IntKind) (a b : Int) : mT op k a b = g k a b := by
 cases op <;> simp only [b8c] at h <;> first | (cases h; done) | (injection h with h; subst h)
 all_goals first
  | rfl
  | (simp only [mT, c3Z, b9m]; done)
  | (simp only [mT, b8k, a5U]; done)
  | (simp only [mT, c0k, a5N]; done)
  | (simp only [mT, b8k, a5U]; rfl)
  | (simp only [mT, c0k, a5N]; rfl)
  | (simp only [mT, b8k, a5U]; cases eqI b 0 <;> rfl)
  | (simp only [mT, c0k, a5N]; cases eqI b 0 <;> rfl)
theorem c5F {o : Option Value} {H H1 : Heap} {v : Value} (h : (oV o H).Is v H1) : o = some v ∧ H1 = H := by
 cases o with
 | none => exact absurd h Rs.ar
 | some w => obtain ⟨rfl, rfl⟩ := Rs.aS h; exact ⟨rfl, rfl⟩
theorem b7g {o : Option Value} {H H1 : Heap} {v : Value} (h : (okV o H).Is v H1) : o = some v ∧ H1 = H := by
 cases o with
 | none => exact absurd h Rs.ar
 | some w =>
   have h : (oP w fun v => Rs.ok v H).Is v H1 := h
   rw [mU] at h
   obtain ⟨rfl, rfl⟩ := Rs.aP h; exact ⟨rfl, rfl⟩
theorem b9i {op : BinOp} {g : IntKind → Int → Int → Option Value} (hg : b8c op = some g) (t yt : TypeId) (x y : Operand) : LowPl P ⟨dst, .binOp op t x y yt, type, pos, after, guard⟩ (.bin g (iY x) (iY y)) := fun C f l H v H1 hf hr => by
 have hr : (c3q g (iY x) (iY y) f H).Is v H1 := hr
 unfold c3q at hr
 rw [jT hf] at hr
 split at hr
 ·rename_i k a hx
  unfold c0O at hr
  rw [jT hf] at hr
  split at hr
  ·rename_i k' b hy
   obtain ⟨hk, hq⟩ := lF hr
   obtain rfl := b8D hk
   obtain ⟨hv, rfl⟩ := c5F hq
   rw [← b7S hg] at hv
   have : opD P ⟨dst, .binOp op t x y yt, type, pos, after, guard ⟩ l H1 = if k = k then (match mT op k a b with | some v => some (v, H1) | none => kQ P ⟨dst, .binOp op t x y yt, type, pos, after, guard ⟩ l H1) else kQ P ⟨dst, .binOp op t x y yt, type, pos, after, guard ⟩ l H1 := by
    simp only [opD, hx, hy]
    cases op <;> rfl
   rw [this, if_pos rfl, hv]
  ·exact absurd hr Rs.ar
 ·exact absurd hr Rs.ar
theorem b9c {b : Option Blk} {i e : Nat} {H H1 : Heap} {v : Value} (h : (b8a b i e H).Is v H1) : H1 = H ∧ ∃ cs ty rw lo ver, b = some (.cells cs ty rw lo ver) ∧ lo ≤ e ∧ e ≤ cs.length ∧ i + 1 ≤ e ∧ cs[i]? = some v := by
 unfold b8a at h
 split at h
 ·rename_i cs ty rw lo ver
  obtain ⟨h1, h⟩ := lF h
  obtain ⟨h2, h⟩ := lF h
  obtain ⟨h3, h⟩ := lF h
  have h : (okV (a1e cs i) H).Is v H1 := h
  obtain ⟨h4, h5⟩ := b7g h
  rw [zK] at h2
  rw [zD] at h4
  exact ⟨h5, cs, ty, rw, lo, ver, rfl, eK h1, by simpa using h2, eK h3, h4⟩
 ·exact absurd h Rs.ar
theorem b9z {b : Option Blk} {n i e : Nat} {H H1 : Heap} {v : Value} (h : (b8S b n i e H).Is v H1) : H1 = H ∧ ∃ cs ty rw lo ver, b = some (.cells cs ty rw lo ver) ∧ lo ≤ e ∧ e ≤ cs.length ∧ i + n ≤ e ∧ v = .agg ((cs.drop i).take n).toArray := by
 unfold b8S at h
 split at h
 ·rename_i cs ty rw lo ver
  obtain ⟨h1, h⟩ := lF h
  obtain ⟨h2, h⟩ := lF h
  obtain ⟨h3, h⟩ := lF h
  obtain ⟨h4, h⟩ := a8u h
  obtain ⟨rfl, rfl⟩ := Rs.aP h
  rw [zK] at h2
  exact ⟨rfl, cs, ty, rw, lo, ver, rfl, eK h1, by simpa using h2, eK h3, by rw [a6v]⟩
 ·exact absurd h Rs.ar
theorem b1s {X : LArg} {f : Fr} {H H1 : Heap} {v w : Value} {t : TypeId} (ht : jO P t = some false) (hw : mR f X = w) (h : (b3q X f H).Is v H1) : H1 = H ∧ lG P H t w = some v := by
 unfold b3q at h
 rw [hw] at h
 split at h
 ·rename_i A i e
  obtain ⟨h1, cs, ty, rw', lo, ver, h2, h3, h4, h5, h6⟩ := b9c h
  refine ⟨h1, ?_⟩
  simp only [lG, ht, jF, h2]
  rw [if_pos (by simp; omega)]
  simp [h6]
 ·rename_i A i
  unfold c3f at h
  split at h
  ·rename_i cs ty lo hg
   obtain ⟨h1, h⟩ := lF h
   rw [zK] at h1
   have h1 : lo ≤ cs.length := by simpa using h1
   cases hn : a1e cs i with
   | none => rw [hn] at h; exact absurd h Rs.ar
   | some c =>
     rw [hn] at h
     have h : (oP c fun v => Rs.ok v H).Is v H1 := h
     rw [mU] at h
     obtain ⟨rfl, rfl⟩ := Rs.aP h
     rw [zD] at hn
     have hi := (du.1 hn).1
     refine ⟨rfl, ?_⟩
     simp only [lG, ht, jF, hg]
     rw [if_pos (by simp; omega)]
     simp [hn]
  ·exact absurd h Rs.ar
 ·exact absurd h Rs.ar
theorem b1L {X : LArg} {f : Fr} {H H1 : Heap} {v w : Value} {t : TypeId} {n : Nat} (ht : jO P t = some true) (hn : iF P t = some n) (hw : mR f X = w) (h : (b2Q n X f H).Is v H1) : H1 = H ∧ lG P H t w = some v := by
 unfold b2Q at h
 rw [hw] at h
 split at h
 ·rename_i A i e
  obtain ⟨h1, cs, ty, rw', lo, ver, h2, h3, h4, h5, h6⟩ := b9z h
  refine ⟨h1, ?_⟩
  simp only [lG, ht, hn, da, jF, h2]
  rw [if_pos (by simp; omega), h6]
  rfl
 ·exact absurd h Rs.ar
theorem b9G {t : TypeId} (ht : jO P t = some false) (x : Operand) : LowPl P ⟨dst, .load t x, type, pos, after, guard⟩ (.ld1 (iY x)) := fun C f l H v H1 hf hr => by
 obtain ⟨rfl, h⟩ := b1s (P := P) ht (jT hf x) hr
 simp only [opD, h, dP]
theorem b8X {t : TypeId} {n : Nat} (ht : jO P t = some true) (hn : iF P t = some n) (x : Operand) : LowPl P ⟨dst, .load t x, type, pos, after, guard⟩ (.ldn n (iY x)) := fun C f l H v H1 hf hr => by
 obtain ⟨rfl, h⟩ := b1L (P := P) ht hn (jT hf x) hr
 simp only [opD, h, dP]
theorem c1o {t : TypeId} {n : Nat} (hn : iF P t = some n) (x y : Operand) : LowPl P ⟨dst, .store t x y, type, pos, after, guard⟩ (.st n (iY x) (iY y)) := fun C f l H v H1 hf hr => by
 have hr : (hSt n (iY x) (iY y) f H).Is v H1 := hr
 unfold hSt at hr
 rw [jT hf, jT hf] at hr
 split at hr
 ·rename_i A i e hx
  unfold stB at hr
  split at hr
  ·rename_i cs ty lo ver hg
   obtain ⟨h1, hr⟩ := lF hr
   obtain ⟨h2, hr⟩ := lF hr
   obtain ⟨h3, hr⟩ := lF hr
   obtain ⟨h4, hr⟩ := lF hr
   obtain ⟨h5, hr⟩ := lF hr
   obtain ⟨rfl, rfl⟩ := Rs.aS hr
   rw [xZ] at h1 h3
   have h1 : n = (ev l y).cells.toList.length := by simpa only [decide_eq_true_eq] using h1
   have h3 : e = cs.length := by simpa only [decide_eq_true_eq] using h3
   have h4 : i + n ≤ e := eK h4
   have h5 : lo ≤ e := eK h5
   simp only [opD, rI, hx, hg]
   rw [if_pos ⟨by rw [hn, h1], h2, h3, by omega, h5⟩]
   simp only [dP]
   rw [h3]
  ·exact absurd hr Rs.ar
 ·exact absurd hr Rs.ar
theorem c1Q {s : TypeId} {k n : Nat} {fd : Field} (hf' : oS P s k = some fd) (hn : iF P fd.type = some n) (hn0 : n ≠ 0) (x : Operand) : LowPl P ⟨dst, .fieldAddr s x k, type, pos, after, guard⟩ (.fa fd.offset (iY x)) := fun C f l H v H1 hf hr => by
 have hr : (hFa fd.offset (iY x) f H).Is v H1 := hr
 unfold hFa at hr
 rw [jT hf] at hr
 split at hr
 ·rename_i A i e hx
  rw [jX] at hr
  obtain ⟨rfl, rfl⟩ := Rs.aP hr
  simp only [opD, hx, hf', da, hn]
  rw [if_neg (by simpa using hn0)]; rfl
 ·exact absurd hr Rs.ar
theorem b6v {A i e size n : Nat} {H H1 : Heap} {j v : Value} (h : (ixP A i e size n H j).Is v H1) : H1 = H ∧ ∃ k m, j = .int k (.ofNat m) ∧ m < n ∧ v = .pointer (some ⟨A, i + m * size, some e⟩) := by
 unfold ixP at h
 split at h
 ·rename_i k m
  obtain ⟨h1, h⟩ := lF h
  rw [jX] at h
  obtain ⟨rfl, rfl⟩ := Rs.aP h
  rw [blt_eq] at h1
  exact ⟨rfl, k, m, rfl, by simpa using h1, rfl⟩
 ·exact absurd h Rs.ar
theorem b9f {t elem : TypeId} {size : Nat} (ht : P.underlying t = some (.slice elem)) (hs : iF P elem = some size) (x i : Operand) : LowPl P ⟨dst, .indexAddr t x i, type, pos, after, guard⟩ (.ixs size (iY x) (iY i)) := fun C f l H v H1 hf hr => by
 have hr : (c1C size (iY x) (iY i) f H).Is v H1 := hr
 unfold c1C at hr
 rw [jT hf, jT hf] at hr
 split at hr
 ·rename_i A a e n c hx
  obtain ⟨rfl, k, m, hj, hm, rfl⟩ := b6v hr
  simp only [opD, ht, hx, hj, hs, da]
  rw [if_pos (by simp; omega)]
  rfl
 ·exact absurd hr Rs.ar
theorem c5e (a b : Nat) : Nat.beq a b = (a == b) := by
 cases h : Nat.beq a b with
 | true => rw [dU h]; simp
 | false => have := Nat.ne_of_beq_eq_false h; simp [this]
theorem c2r {A i size n : Nat} {H H1 : Heap} {j v : Value} (h : (ixG A i size n H j).Is v H1) : H1 = H ∧ ∃ k m, j = .int k (.ofNat m) ∧ m < n ∧ v = .pointer (some ⟨A, i + m * size, none⟩) := by
 unfold ixG at h
 split at h
 ·rename_i k m
  obtain ⟨h1, h⟩ := lF h
  rw [jX] at h
  obtain ⟨rfl, rfl⟩ := Rs.aP h
  exact ⟨rfl, k, m, rfl, by simpa [iw] using h1, rfl⟩
 ·exact absurd h Rs.ar
theorem b8I {t elem : TypeId} {n size : Nat} (ht : P.underlying t = some (.array n elem)) (hs : iF P elem = some size) (x i : Operand) : LowPl P ⟨dst, .indexAddr t x i, type, pos, after, guard⟩ (.ixa n size (iY x) (iY i)) := fun C f l H v H1 hf hr => by
 have hr : (c1I n size (iY x) (iY i) f H).Is v H1 := hr
 unfold c1I at hr
 rw [jT hf, jT hf] at hr
 split at hr
 ·rename_i A a e hx
  obtain ⟨rfl, k, m, hj, hm, rfl⟩ := b6v hr
  simp only [opD, ht, hx, hj, hs, da]
  rw [if_pos (by simp; omega)]
  rfl
 ·rename_i A a hx
  obtain ⟨rfl, k, m, hj, hm, rfl⟩ := c2r hr
  simp only [opD, ht, hx, hj, hs, da]
  rw [if_pos (by simp; omega)]
  rfl
 ·exact absurd hr Rs.ar
theorem b7T (i : Nat) (x : Operand) : LowPl P ⟨dst, .extract x i, type, pos, after, guard⟩ (.ext i (iY x)) := fun C f l H v H1 hf hr => by
 have hr : (c2S i (iY x) f H).Is v H1 := hr
 unfold c2S at hr
 rw [jT hf] at hr
 split at hr
 ·rename_i vs hx
  obtain ⟨h1, rfl⟩ := b7g hr
  rw [zD] at h1
  simp only [opD, hx]
  simp [h1]
 ·exact absurd hr Rs.ar
theorem b9B {c : Call} {elem : TypeId} (hc : c.callee = .builtin .len) (h1 : c.args.size = 1) (h2 : c.argTypes.size = 1) (ht : P.underlying (c.argTypes.getD 0 0) = some (.slice elem)) : LowPl P ⟨dst, .call c, type, pos, after, guard⟩ (.len (iY (c.args.getD 0 (.tmp 0)))) := fun C f l H v H1 hf hr => by
 have hr : (c1v (iY (c.args.getD 0 (.tmp 0))) f H).Is v H1 := hr
 unfold c1v at hr
 rw [jT hf] at hr
 split at hr
 ·rename_i a n k hx
  obtain ⟨rfl, rfl⟩ := Rs.aS hr
  simp only [opD, hc, h1, h2, ht, hx, wV]; rfl
 ·exact absurd hr Rs.ar
theorem b6Y {c : Call} (hc : c.callee = .builtin .len) (h1 : c.args.size = 1) (h2 : c.argTypes.size = 1) (ht : P.underlying (c.argTypes.getD 0 0) = some .string) : LowPl P ⟨dst, .call c, type, pos, after, guard⟩ (.slen (iY (c.args.getD 0 (.tmp 0)))) := fun C f l H v H1 hf hr => by
 have hr : (b6J (iY (c.args.getD 0 (.tmp 0))) f H).Is v H1 := hr
 unfold b6J at hr
 rw [jT hf] at hr
 split at hr
 ·rename_i s hx
  obtain ⟨rfl, rfl⟩ := Rs.aS hr
  simp only [opD, hc, h1, h2, ht, hx, wV]; rfl
 ·exact absurd hr Rs.ar
theorem b9Z {c : Call} {elem : TypeId} {size bytes : Nat} {z : Value} (hc : c.callee = .builtin .append) (h1 : c.args.size = 2) (h2 : c.argTypes.size = 2) (hi : ((P.underlying (c.argTypes.getD 1 0)).map qF) = some true)
 (he : iJ P (c.argTypes.getD 0 0) = some elem) (hs : iF P elem = some size) (hb : nV P elem = some bytes) (hz : iZ P elem = some z) (hzs : z.cells.size = size) (hs0 : size ≠ 0) :
 LowPl P ⟨dst, .call c, type, pos, after, guard⟩ (.app elem size bytes (iY (c.args.getD 0 (.tmp 0))) (iY (c.args.getD 1 (.tmp 0)))) := fun C f l H v H1 hf hr => by
 have hr : (c2h P elem size bytes (iY (c.args.getD 0 (.tmp 0))) (iY (c.args.getD 1 (.tmp 0))) f H).Is v H1 := hr
 unfold c2h at hr
 rw [jT hf, jT hf] at hr
 have hD : opD P ⟨dst, .call c, type, pos, after, guard⟩ l H = nQ P H (c.argTypes.getD 0 0) (ev l (c.args.getD 0 (.tmp 0))) (ev l (c.args.getD 1 (.tmp 0))) := by
  simp only [opD, hc, h1, h2, hi]; rfl
 rw [hD]
 unfold nQ
 rw [he, da, hs, da, hb, da, hz, da]
 split at hr
 ·rename_i n m hsrc
  rw [hsrc, da]
  unfold c5G at hr
  split at hr
  ·rename_i k cc hx
   obtain ⟨g1, hq1⟩ := lF hr
   obtain ⟨g2, hq2⟩ := lF hq1
   obtain ⟨g3, hq⟩ := lF hq2
   clear hr hq1 hq2
   obtain rfl : k = 0 := dU g1
   obtain rfl : cc = 0 := dU g2
   have g3 : n * (bytes + 1) ≤ pC := eK g3
   simp only [hx]
   rw [if_pos (by simp [hs0, hzs, g3])]
   rw [kP] at hq
   by_cases hn : n = 0
   ·subst hn
    rw [if_pos (by rfl)] at hq
    obtain ⟨rfl, rfl⟩ := Rs.aP hq
    simp
   ·rw [if_neg (fun e => hn (dU e))] at hq
    obtain ⟨rfl, rfl⟩ := Rs.aS hq
    simp [hn]
  ·rename_i A i e k cc hx
   unfold c3N at hr
   split at hr
   ·rename_i cs ty lo ver hg
    obtain ⟨g2, hr⟩ := lF hr
    obtain ⟨g4, hr⟩ := lF hr
    obtain ⟨g5, hr⟩ := lF hr
    have g2 : (ty == elem || iF P ty == some size) = true := by
     rw [c5e] at g2
     cases hh : (ty == elem) with
     | true => rfl
     | false => rw [hh] at g2; exact g2
    rw [xZ] at g4
    have g4 : e = cs.length := by simpa only [decide_eq_true_eq] using g4
    have g5 : lo ≤ e := eK g5
    simp only [hx, hg]
    rw [kP] at hr
    by_cases g3 : i + k * size = e
    ·rw [if_pos (by simpa using g3)] at hr
     obtain ⟨g1, hr⟩ := lF hr
     obtain ⟨rfl, rfl⟩ := Rs.aS hr
     have g1 : (k + n) * (bytes + 1) ≤ pC := eK g1
     have et : (Bool.rec (motive := fun _ => Nat) 2 ver (Nat.beq ty elem)) = (if (ty == elem) = true then ver else 2) := by
      rw [c5e]
      cases hh : (ty == elem) with
      | true => rfl
      | false => rfl
     rw [et, if_pos (by simp only [g2, fF, cZ, bne_iff_ne, beq_iff_eq, decide_eq_true_eq]; exact ⟨⟨⟨⟨⟨hs0, g1⟩, by simpa using hzs⟩, g3⟩, g4⟩, g5⟩)]
    ·rw [if_neg (by simpa using g3)] at hr
     rw [kP] at hr
     by_cases hn : n = 0
     ·rw [if_pos (by simpa using hn)] at hr
      exact absurd hr Rs.ar
     ·rw [if_neg (by simpa using hn)] at hr
      obtain ⟨g6, hr⟩ := lF hr
      obtain ⟨rfl, rfl⟩ := Rs.aS hr
      have g6 : i + (k + n) * size ≤ e := eK g6
      rw [if_neg (by simp [g3]), if_pos (by simp only [g2, fF, cZ, bne_iff_ne, beq_iff_eq, decide_eq_true_eq]; exact ⟨⟨⟨⟨⟨hs0, hn⟩, by simpa using hzs⟩, g6⟩, g4⟩, g5⟩), g4]
   ·exact absurd hr Rs.ar
  ·exact absurd hr Rs.ar
 ·exact absurd hr Rs.ar
theorem b2M {c : Call} {k : FuncId} (hc : c.callee = .value (.func k)) (hok : (Op.call c).operands.toList.all iT = true) : wE P ⟨dst, .call c, type, pos, after, guard⟩ (.callF k (kS k) (c.args.toList.map iY)) := fun C H0 f l H v H1 hC hk hf hr => by
 have hr : (a3K f (c.args.toList.map iY) fun l => C.fn (kS k) k l H).Is v H1 := hr
 rw [a6z hf] at hr
 obtain ⟨h1 | hx, h2⟩ := hC.fn _ _ _ _ _ _ hk hr rfl
 case inr => exact ⟨.ext hok c (.func k) k #[] #[] rfl hc rfl (by simpa using hx), h2⟩
 obtain ⟨he, v', H', hcall, rfl, rfl⟩ := h1.fn
 exact ⟨.call hok c (.func k) k #[] #[] rfl hc rfl he (by simpa using hcall), h2⟩
theorem b2x {c : Call} {g : Operand} (hc : c.callee = .value g) (hok : (Op.call c).operands.toList.all iT = true) : wE P ⟨dst, .call c, type, pos, after, guard⟩ (.callV (iY g) (c.args.toList.map iY)) := fun C H0 f l H v H1 hC hk hf hr => by
 have hr : (a3K f (c.args.toList.map iY) fun l => a8W C l H (mR f (iY g))).Is v H1 := hr
 rw [a6z hf, jT hf] at hr
 unfold a8W at hr
 split at hr
 ·rename_i k a b hg
  rw [jX, lM] at hr
  obtain ⟨h1 | hx, h2⟩ := hC.fn _ _ _ _ _ _ hk hr rfl
  case inr => exact ⟨.ext hok c g k ⟨a⟩ ⟨b⟩ rfl hc hg (by simpa [yO] using hx), h2⟩
  obtain ⟨he, v', H', hcall, rfl, rfl⟩ := h1.fn
  exact ⟨.call hok c g k ⟨a⟩ ⟨b⟩ rfl hc hg he (by simpa [yO] using hcall), h2⟩
 ·rename_i L a b hg
  obtain ⟨h1, h2⟩ := hC.rd _ _ _ _ _ hk hr
  exact ⟨.round hok c g L _ _ rfl hc hg h1, h2⟩
 ·exact absurd hr Rs.ar
end
set_option maxHeartbeats 1000000 in
theorem b1g {α : Type} (o : Oper) (K : LOp → α) : ∃ lo, wE P o lo ∧ yT P o K = K lo := by
 unfold yT
 rw [kP]
 by_cases hok : o.op.operands.toList.all iT = true
 case neg => rw [if_neg hok]; exact ⟨_, b9j o, rfl⟩
 rw [if_pos hok]
 have gen : ∃ lo, wE P o lo ∧ K (.gen o) = K lo := ⟨_, (b9C o).low hok, rfl⟩
 obtain ⟨dst, op, type, pos, after, guard⟩ := o
 unfold c4z
 cases op with
 | move x => simp only [lA]; exact ⟨_, (c1F x).low hok, rfl⟩
 | assign x => simp only [lA]; exact ⟨_, (c1N x).low hok, rfl⟩
 | pick c a b => simp only [lA]; exact ⟨_, (b4O c a b).low hok, rfl⟩
 | binOp op t x y yt =>
   simp only [lA, kP]
   split
   ·split
    ·rename_i g hg; exact ⟨_, (b9i hg t yt x y).low hok, rfl⟩
    ·exact gen
   ·exact gen
 | load t x =>
   simp only [lA]
   split
   ·rename_i ht
    cases hn : iF P t with
    | none => exact gen
    | some n => rw [pJ]; exact ⟨_, (b8X ht hn x).low hok, rfl⟩
   ·rename_i ht; exact ⟨_, (b9G ht x).low hok, rfl⟩
   ·exact gen
 | store t x y =>
   simp only [lA]
   cases hn : iF P t with
   | none => exact gen
   | some n => rw [pJ]; exact ⟨_, (c1o hn x y).low hok, rfl⟩
 | fieldAddr s x k =>
   simp only [lA]
   split
   ·rename_i fd hfd
    split
    ·exact gen
    ·rename_i n hn0 hn
     rw [jX]
     exact ⟨_, (c1Q hfd hn (fun e => hn0 e) x).low hok, rfl⟩
    ·exact gen
   ·exact gen
 | indexAddr t x i =>
   simp only [lA]
   split
   ·rename_i elem ht
    cases hs : iF P elem with
    | none => exact gen
    | some n => rw [pJ]; exact ⟨_, (b9f ht hs x i).low hok, rfl⟩
   ·rename_i n elem ht
    cases hs : iF P elem with
    | none => exact gen
    | some m => rw [pJ]; exact ⟨_, (b8I ht hs x i).low hok, rfl⟩
   ·exact gen
 | extract t i => simp only [lA]; rw [jX]; exact ⟨_, (b7T i t).low hok, rfl⟩
 | call c =>
   simp only
   unfold b6f
   split
   ·rename_i k hc
    rw [lM, a4r]
    exact ⟨_, b2M hc hok, rfl⟩
   ·rename_i g _ hc
    rw [lA, a4r]
    exact ⟨_, b2x hc hok, rfl⟩
   ·rename_i hc
    rw [kP]
    split
    ·rename_i h1
     simp only [cZ, beq_iff_eq] at h1
     split
     ·rename_i elem ht; rw [lA]; exact ⟨_, (b9B hc h1.1 h1.2 ht).low hok, rfl⟩
     ·rename_i ht; rw [lA]; exact ⟨_, (b6Y hc h1.1 h1.2 ht).low hok, rfl⟩
     ·exact gen
    ·exact gen
   ·rename_i hc
    rw [kP]
    split
    ·rename_i h1
     simp only [cZ, beq_iff_eq] at h1
     split
     ·rename_i elem he
      cases hs : iF P elem with
      | none => exact gen
      | some size =>
        rw [pJ]
        cases hb : nV P elem with
        | none => exact gen
        | some bytes =>
          rw [pJ]
          split
          ·rename_i z hz
           rw [kP]
           split
           ·rename_i h2
            simp only [cZ, beq_iff_eq, bne_iff_ne] at h2
            rw [jX, lA, lA]
            exact ⟨_, (b9Z hc h1.1.1 h1.1.2 h1.2 he hs hb hz h2.1 h2.2).low hok, rfl⟩
           ·exact gen
          ·exact gen
     ·exact gen
    ·exact gen
   ·exact gen
 | _ => exact gen
def DOk (k : Nat) (dst : Option Tmp) (d : Option Pth) : Prop := (dst = none ∧ d = none) ∨ ∃ t, dst = some t ∧ t < k ∧ d = some (kS t)
inductive LowOps (P : Program) (k : Nat) (ops : Array Oper) : List Oper → LOps → Prop
 | nil : LowOps P k ops [] .nil
 | cons {o : Oper} {os : List Oper} {d : Option Pth} {lo : LOp} {r : LOps} (hd : DOk k o.dst d) (ho : wE P o lo) (hg : o.guard = none) (hr : LowOps P k ops os r) : LowOps P k ops (o :: os) (.cons d lo r)
 | gcons {o : Oper} {os : List Oper} {d : Option Pth} {lo : LOp} {r : LOps} {j t : Nat} {w : Bool} (hd : DOk k o.dst d) (ho : wE P o lo) (hg : o.guard = some (j, w)) (ht : (ops[j]?).bind (·.dst) = some t) (htk : t < k) (hr : LowOps P k ops os r) : LowOps P k ops (o :: os) (.gcons (kS t) w d lo r)
def GOk (ops : Array Oper) (o : Oper) (g : Option (Pth × Bool)) : Prop := (o.guard = none ∧ g = none) ∨ ∃ j w t, o.guard = some (j, w) ∧ (ops[j]?).bind (·.dst) = some t ∧ g = some (kS t, w)
theorem GOk.runs {ops : Array Oper} {o : Oper} {g : Option (Pth × Bool)} (h : GOk ops o g) {f : Fr} {l : List Value} (hf : FAg f l) (hw : Region.wanted o (iX ops l) = true) : b5u f g = true := by
 rcases h with ⟨_, rfl⟩ | ⟨j, w, t, hg, ht, rfl⟩
 ·rfl
 ·simp only [Region.wanted, hg, iX, ht] at hw
  show isB (oH (kS t) f) w = true
  rw [hf t, oW, de]
  cases hl : l[t]? with
  | none => rw [hl] at hw; simp at hw
  | some v =>
    rw [hl] at hw
    cases v <;> simp at hw
    subst hw
    rename_i b
    cases b <;> rfl
inductive LowTab (P : Program) (ops : Array Oper) : List (Nat × Nat) → List (Nat × Option Nat × Option (Pth × Bool) × LOp) → Prop
 | nil : LowTab P ops [] []
 | cons {i m : Nat} {o : Oper} {lo : LOp} {tab : List (Nat × Nat)} {t : List (Nat × Option Nat × Option (Pth × Bool) × LOp)} {g : Option (Pth × Bool)} (ho : ops[i]? = some o) (hgd : GOk ops o g) (hl : wE P o lo) (hr : LowTab P ops tab t) :
    LowTab P ops ((i, m) :: tab) ((ops.size - 1 - i, if m < ops.size then some (ops.size - 1 - m) else none, g, lo) :: t)
inductive Low (P : Program) (k : Nat) : Code → LCode → Prop
 | bad (c : Code) : Low P k c .bad
 | skip : Low P k .skip .skip
 | label (t : Nat) : Low P k (.label t) .skip
 | reg {id : Nat} {ops : Array Oper} {d : Bool} {lo : LOps} (h : LowOps P k ops ops.toList lo) (hd : d = true → nA P ops = some []) : Low P k (.region id ops d) (.reg lo)
 | drw {id : Nat} {ops : Array Oper} {lo : LOps} {tab : List (Nat × Nat)} {t : List (Nat × Option Nat × Option (Pth × Bool) × LOp)} (h : LowOps P k ops ops.toList lo) (ht : nA P ops = some tab) (hl : LowTab P ops tab t) : Low P k (.region id ops true) (.drw lo t)
 | seq {a b : Code} {A B : LCode} (ha : Low P k a A) (hb : Low P k b B) : Low P k (.seq a b) (.seq A B)
 | cond {c : Operand} {x y : Code} {X Y : LCode} (hc : iT c = true) (hx : Low P k x X) (hy : Low P k y Y) : Low P k (.cond c x y) (.cond (iY c) X Y)
 | block {id : Nat} {b : Code} {B : LCode} (hb : Low P k b B) : Low P k (.block id b) (.block id B)
 | loop {b : Code} {B : LCode} (hb : Low P k b B) : Low P k (.loop b) (.loop B)
 | exit (id : Nat) : Low P k (.exit id) (.exit id)
 | ret : Low P k .ret .ret
 | range {g : Operand} {ps : Array Tmp} {assign body : Code} {A B : LCode} (hg : iT g = true) (hps : ∀ t ∈ ps.toList, t < k) (ha : Low P k assign A) (hb : Low P k body B) :
    Low P k (.rangeFunc g ps assign body) (.range (iY g) ((List.range k).map kS) (ps.toList.map kS) ps assign body A B)
section
variable {α : Type}
theorem b5B (k : Nat) (dst : Option Tmp) (no : α) (K : Option Pth → α) : (∃ d, DOk k dst d ∧ a7g k dst no K = K d) ∨ a7g k dst no K = no := by
 cases dst with
 | none => exact .inl ⟨none, .inl ⟨rfl, rfl⟩, rfl⟩
 | some t =>
   simp only [a7g, kP]
   split
   ·rename_i h
    rw [lM]
    rw [blt_eq] at h
    exact .inl ⟨_, .inr ⟨t, rfl, by simpa using h, rfl⟩, rfl⟩
   ·exact .inr rfl
theorem a1J (k : Nat) (ops : Array Oper) (l : List Oper) (K : LOps → α) (no : α) : (∃ L, LowOps P k ops l L ∧ uT P k ops l K no = K L) ∨ uT P k ops l K no = no := by
 induction l generalizing K with
 | nil => exact .inl ⟨_, .nil, rfl⟩
 | cons o l ih =>
   let K2 : Option Pth → LOp → α := fun d o' => match o.guard with
    | none => uT P k ops l (fun r => K (.cons d o' r)) no
    | some (j, w) => match (ops[j]?).bind (·.dst) with
      | some t => oE (Nat.blt t k) no (lP (kS t) fun p => a0m w fun w => uT P k ops l (fun r => K (.gcons p w d o' r)) no)
      | none => no
   have e : uT P k ops (o :: l) K no = a7g k o.dst no fun d => yT P o fun o' => K2 d o' := rfl
   rw [e]
   rcases b5B k o.dst no (fun d => yT P o fun o' => K2 d o') with ⟨d, hd, h1⟩ | h1
   ·rw [h1]
    obtain ⟨lo, hlo, h2⟩ := b1g (P := P) o (fun o' => K2 d o')
    rw [h2]
    simp only [K2]
    split
    ·rename_i hg
     rcases ih (fun r => K (.cons d lo r)) with ⟨L, hL, h3⟩ | h3
     ·exact .inl ⟨_, .cons hd hlo hg hL, h3⟩
     ·exact .inr h3
    ·rename_i j w hg
     split
     ·rename_i t ht
      rw [kP]
      split
      ·rename_i htk
       rw [lM, vL]
       rw [blt_eq] at htk
       rcases ih (fun r => K (.gcons (kS t) w d lo r)) with ⟨L, hL, h3⟩ | h3
       ·exact .inl ⟨_, .gcons hd hlo hg ht (by simpa using htk) hL, h3⟩
       ·exact .inr h3
      ·exact .inr rfl
     ·exact .inr rfl
   ·exact .inr h1
theorem c2f (k : Nat) (ops : Array Oper) (o : Oper) (no : α) (K : Option (Pth × Bool) → α) : (∃ g, GOk ops o g ∧ loG k ops o.guard no K = K g) ∨ loG k ops o.guard no K = no := by
 cases hg : o.guard with
 | none => exact .inl ⟨none, .inl ⟨hg, rfl⟩, rfl⟩
 | some x =>
   obtain ⟨j, w⟩ := x
   unfold loG
   cases ht : (ops[j]?).bind (·.dst) with
   | none => exact .inr (by simp only [ht])
   | some t =>
     simp only [ht, kP]
     split
     ·refine .inl ⟨some (kS t, w), .inr ⟨j, w, t, hg, ht, rfl⟩, ?_⟩
      rw [lM, vL]
     ·exact .inr rfl
theorem b6w (k : Nat) (ops : Array Oper) (tab : List (Nat × Nat)) (K : List (Nat × Option Nat × Option (Pth × Bool) × LOp) → α) (no : α) : (∃ t, LowTab P ops tab t ∧ tL P k ops ops.size tab K no = K t) ∨ tL P k ops ops.size tab K no = no := by
 induction tab generalizing K with
 | nil => exact .inl ⟨_, .nil, rfl⟩
 | cons x tab ih =>
   obtain ⟨i, m⟩ := x
   cases ho : ops[i]? with
   | none =>
     refine .inr ?_
     show (match ops[i]? with
      | some o => _
      | none => no) = no
     rw [ho]
   | some o =>
     let K2 : Option (Pth × Bool) → LOp → α := fun g o' => kC (ops.size - 1 - i) fun i => oE (Nat.blt m ops.size) (tL P k ops ops.size tab (fun l => K ((i, none, g, o') :: l)) no) (kC (ops.size - 1 - m) fun m => tL P k ops ops.size tab (fun l => K ((i, some m, g, o') :: l)) no)
     have e : tL P k ops ops.size ((i, m) :: tab) K no = loG k ops o.guard no fun g => yT P o fun o' => K2 g o' := by
      show (match ops[i]? with
       | some o => loG k ops o.guard no fun g => yT P o fun o' => K2 g o'
       | none => no) = _
      rw [ho]
     rw [e]
     rcases c2f k ops o no (fun g => yT P o fun o' => K2 g o') with ⟨g, hgd, h1⟩ | h1
     ·rw [h1]
      obtain ⟨lo, hlo, h2⟩ := b1g (P := P) o (fun o' => K2 g o')
      rw [h2]
      show (∃ t, _ ∧ kC (ops.size - 1 - i) (fun i => oE (Nat.blt m ops.size) (tL P k ops ops.size tab (fun l => K ((i, none, g, lo) :: l)) no) (kC (ops.size - 1 - m) fun m => tL P k ops ops.size tab (fun l => K ((i, some m, g, lo) :: l)) no)) = K t) ∨ kC (ops.size - 1 - i) (fun i => oE (Nat.blt m ops.size) (tL P k ops ops.size tab (fun l => K ((i, none, g, lo) :: l)) no) (kC (ops.size - 1 - m) fun m => tL P k ops ops.size tab (fun l => K ((i, some m, g, lo) :: l)) no)) = no
      rw [jX, kP, jX, blt_eq]
      by_cases hm : m < ops.size
      ·rw [if_pos (by simpa using hm)]
       rcases ih (fun l => K ((ops.size - 1 - i, some (ops.size - 1 - m), g, lo) :: l)) with ⟨t, ht, h3⟩ | h3
       ·have := LowTab.cons (m := m) ho hgd hlo ht
        rw [if_pos hm] at this
        exact .inl ⟨_, this, h3⟩
       ·exact .inr h3
      ·rw [if_neg (by simpa using hm)]
       rcases ih (fun l => K ((ops.size - 1 - i, none, g, lo) :: l)) with ⟨t, ht, h3⟩ | h3
       ·have := LowTab.cons (m := m) ho hgd hlo ht
        rw [if_neg hm] at this
        exact .inl ⟨_, this, h3⟩
       ·exact .inr h3
     ·exact .inr h1
theorem b2D (k : Nat) (l : List Tmp) (K : List Pth → α) (no : α) : ((∀ t ∈ l, t < k) ∧ xL k l K no = K (l.map kS)) ∨ xL k l K no = no := by
 induction l generalizing K with
 | nil => exact .inl ⟨by simp, rfl⟩
 | cons t l ih =>
   show _ ∨ oE (Nat.blt t k) no (lP (kS t) fun p => xL k l (fun l => K (p :: l)) no) = no
   have e : xL k (t :: l) K no = oE (Nat.blt t k) no (lP (kS t) fun p => xL k l (fun l => K (p :: l)) no) := rfl
   rw [e, kP, lM, blt_eq]
   by_cases h : t < k
   ·rw [if_pos (by simpa using h)]
    rcases ih (fun l => K (kS t :: l)) with ⟨h1, h2⟩ | h2
    ·exact .inl ⟨by simpa using ⟨h, h1⟩, h2⟩
    ·exact .inr h2
   ·rw [if_neg (by simpa using h)]; exact .inr rfl
theorem b2c (k : Nat) (c : Code) (K : LCode → α) : ∃ C, Low P k c C ∧ nE P k c K = K C := by
 induction c generalizing K with
 | skip => exact ⟨_, .skip, rfl⟩
 | region id ops d =>
   cases d with
   | false =>
     show ∃ C, _ ∧ uT P k ops ops.toList (fun l => K (.reg l)) (K .bad) = K C
     rcases a1J (P := P) k ops ops.toList (fun l => K (.reg l)) (K .bad) with ⟨L, hL, h⟩ | h
     ·exact ⟨_, .reg hL (fun h => by cases h), h⟩
     ·exact ⟨_, .bad _, h⟩
   | true =>
     show ∃ C, _ ∧ (match nA P ops with
      | some [] => uT P k ops ops.toList (fun l => K (.reg l)) (K .bad)
      | some tab => uT P k ops ops.toList (fun l => tL P k ops ops.size tab (fun t => K (.drw l t)) (K .bad)) (K .bad)
      | none => K .bad) = K C
     split
     ·rename_i hd
      rcases a1J (P := P) k ops ops.toList (fun l => K (.reg l)) (K .bad) with ⟨L, hL, h⟩ | h
      ·exact ⟨_, .reg hL (fun _ => hd), h⟩
      ·exact ⟨_, .bad _, h⟩
     ·rename_i tab _ hd
      rcases a1J (P := P) k ops ops.toList (fun l => tL P k ops ops.size tab (fun t => K (.drw l t)) (K .bad)) (K .bad) with ⟨L, hL, h⟩ | h
      ·rw [h]
       rcases b6w (P := P) k ops tab (fun t => K (.drw L t)) (K .bad) with ⟨t, ht, h2⟩ | h2
       ·exact ⟨_, .drw hL hd ht, h2⟩
       ·exact ⟨_, .bad _, h2⟩
      ·exact ⟨_, .bad _, h⟩
     ·exact ⟨_, .bad _, rfl⟩
 | seq a b iha ihb =>
   show ∃ C, _ ∧ nE P k a (fun a => nE P k b fun b => K (.seq a b)) = K C
   obtain ⟨A, hA, h1⟩ := iha (fun a => nE P k b fun b => K (.seq a b))
   obtain ⟨B, hB, h2⟩ := ihb (fun b => K (.seq A b))
   exact ⟨_, .seq hA hB, h1.trans h2⟩
 | cond c x y ihx ihy =>
   show ∃ C, _ ∧ oE (iT c) (K .bad) (lS c fun c => nE P k x fun x => nE P k y fun y => K (.cond c x y)) = K C
   rw [kP]
   split
   ·rename_i hc
    rw [lA]
    obtain ⟨X, hX, h1⟩ := ihx (fun x => nE P k y fun y => K (.cond (iY c) x y))
    obtain ⟨Y, hY, h2⟩ := ihy (fun y => K (.cond (iY c) X y))
    exact ⟨_, .cond hc hX hY, h1.trans h2⟩
   ·exact ⟨_, .bad _, rfl⟩
 | block id b ih =>
   show ∃ C, _ ∧ kC id (fun id => nE P k b fun b => K (.block id b)) = K C
   rw [jX]
   obtain ⟨B, hB, h1⟩ := ih (fun b => K (.block id b))
   exact ⟨_, .block hB, h1⟩
 | loop b ih =>
   show ∃ C, _ ∧ nE P k b (fun b => K (.loop b)) = K C
   obtain ⟨B, hB, h1⟩ := ih (fun b => K (.loop b))
   exact ⟨_, .loop hB, h1⟩
 | rangeFunc g ps assign body iha ihb =>
   show ∃ C, _ ∧ oE (iT g) (K .bad) (lS g fun g' => b2B k fun pp => xL k ps.toList (fun q => nE P k assign fun a => nE P k body fun b => K (.range g' pp q ps assign body a b)) (K .bad)) = K C
   rw [kP]
   split
   ·rename_i hg
    rw [lA, b1y]
    rcases b2D k ps.toList (fun q => nE P k assign fun a => nE P k body fun b => K (.range (iY g) ((List.range k).map kS) q ps assign body a b)) (K .bad) with ⟨hps, h⟩ | h
    ·obtain ⟨A, hA, h1⟩ := iha (fun a => nE P k body fun b => K (.range (iY g) ((List.range k).map kS) (ps.toList.map kS) ps assign body a b))
     obtain ⟨B, hB, h2⟩ := ihb (fun b => K (.range (iY g) ((List.range k).map kS) (ps.toList.map kS) ps assign body A b))
     exact ⟨_, .range hg hps hA hB, h.trans (h1.trans h2)⟩
    ·exact ⟨_, .bad _, h⟩
   ·exact ⟨_, .bad _, rfl⟩
 | exit id =>
   show ∃ C, _ ∧ kC id (fun id => K (.exit id)) = K C
   rw [jX]
   exact ⟨_, .exit id, rfl⟩
 | label t => exact ⟨_, .label t, rfl⟩
 | ret => exact ⟨_, .ret, rfl⟩
 | scope b _ => exact ⟨_, .bad _, rfl⟩
 | goto t => exact ⟨_, .bad _, rfl⟩
 | refuse w => exact ⟨_, .bad _, rfl⟩
end
theorem vI {α : Type} {k : Nat} {f : Fr} {l : List Value} (h : FRel k f l) {dst : Option Tmp} {d : Option Pth} (hd : DOk k dst d) (v : Value) (K : Fr → α) : ∃ f', uE d v f K = K f' ∧ FRel k f' (put l dst v) := by
 rcases hd with ⟨rfl, rfl⟩ | ⟨t, rfl, ht, rfl⟩
 ·exact ⟨f, rfl, h⟩
 ·exact ⟨b5r f t v, tB v (kS t) f K, h.put ht v⟩
theorem yK {ops : Array Oper} {l : List Value} {j t : Nat} (ht : (ops[j]?).bind (·.dst) = some t) (htl : t < l.length) (w : Bool) : (iX ops l j == some w) = isB (get l t) w := by
 have hg : get l t = l[t] := by rw [oW]; simp [htl]
 unfold iX
 rw [ht, hg]
 simp only [dr htl]
 cases hv : l[t] <;> simp [isB]
 rename_i b
 cases b <;> cases w <;> rfl
theorem b8G {k : Nat} {ops : Array Oper} {C : Calls'} {H0 : Heap} (hC : CallsOk P C H0) {os : List Oper} {lo : LOps} (hlo : LowOps P k ops os lo) : ∀ {i : Nat}, ops.toList.drop i = os → ∀ {f : Fr} {l : List Value} {H : Heap} {f1 : Fr} {H1 : Heap},
 FRel k f l → LK H0 H → yS P C lo f H = .ok f1 H1 → ∃ l1, FRel k f1 l1 ∧ OpsR P ops (List.range' i os.length) l H l1 H1 ∧ LK H H1 := by
 induction hlo with
 | nil =>
   intro i _ f l H f1 H1 hf _ h
   injection h with h1 h2
   subst h1 h2
   exact ⟨l, hf, .nil l H, .refl H⟩
 | @cons o os d lo r hd ho hg hr ih =>
   intro i hi f l H f1 H1 hf hk h
   have hio : ops[i]? = some o := by
    have : (ops.toList.drop i)[0]? = some o := by rw [hi]; rfl
    rw [dI] at this
    simpa using this
   have hi' : ops.toList.drop (i + 1) = os := by rw [← fH, hi]; rfl
   have hw : Region.wanted o (iX ops l) = true := by simp [Region.wanted, hg]
   have h : b1H Rf.no d f (yS P C r) (opF P C lo f H) = .ok f1 H1 := h
   have key : ∀ v H2, (opF P C lo f H).Is v H2 → (uE d v f fun f => yS P C r f H2) = .ok f1 H1 → ∃ l1, FRel k f1 l1 ∧ OpsR P ops (List.range' i (o :: os).length) l H l1 H1 ∧ LK H H1 := by
    intro v H2 hop hrest
    obtain ⟨hs, hk2⟩ := ho C H0 f l H v H2 hC hk hf.2 hop
    obtain ⟨f', e, hf'⟩ := vI hf hd v (fun f => yS P C r f H2)
    rw [e] at hrest
    obtain ⟨l1, h1, h2, h3⟩ := ih hi' hf' (hk.trans hk2) hrest
    exact ⟨l1, h1, .step hio hw hs h2, hk2.trans h3⟩
   cases hop : opF P C lo f H with
   | no => rw [hop] at h; cases h
   | ok v H2 => rw [hop] at h; exact key v H2 (.inl hop) h
   | th v H2 =>
     rw [hop] at h
     have h : xT v (fun v => nX H2 fun H2 => uE d v f fun f => yS P C r f H2) = .ok f1 H1 := h
     rw [yA, mB] at h
     exact key v H2 (.inr hop) h
 | @gcons o os d lo r j t w hd ho hg ht htk hr ih =>
   intro i hi f l H f1 H1 hf hk h
   have hio : ops[i]? = some o := by
    have : (ops.toList.drop i)[0]? = some o := by rw [hi]; rfl
    rw [dI] at this
    simpa using this
   have hi' : ops.toList.drop (i + 1) = os := by rw [← fH, hi]; rfl
   have hwi : Region.wanted o (iX ops l) = isB (oH (kS t) f) w := by
    simp only [Region.wanted, hg]
    rw [yK ht (by rw [hf.1]; exact htk) w, hf.2 t]
   have h : oE (isB (oH (kS t) f) w) (uE d undef f fun f => yS P C r f H) (b1H Rf.no d f (yS P C r) (opF P C lo f H)) = .ok f1 H1 := h
   rw [kP] at h
   split at h
   ·rename_i hb
    have key : ∀ v H2, (opF P C lo f H).Is v H2 → (uE d v f fun f => yS P C r f H2) = .ok f1 H1 → ∃ l1, FRel k f1 l1 ∧ OpsR P ops (List.range' i (o :: os).length) l H l1 H1 ∧ LK H H1 := by
     intro v H2 hop hrest
     obtain ⟨hs, hk2⟩ := ho C H0 f l H v H2 hC hk hf.2 hop
     obtain ⟨f', e, hf'⟩ := vI hf hd v (fun f => yS P C r f H2)
     rw [e] at hrest
     obtain ⟨l1, h1, h2, h3⟩ := ih hi' hf' (hk.trans hk2) hrest
     exact ⟨l1, h1, .step hio (by rw [hwi, hb]) hs h2, hk2.trans h3⟩
    cases hop : opF P C lo f H with
    | no => rw [hop] at h; cases h
    | ok v H2 => rw [hop] at h; exact key v H2 (.inl hop) h
    | th v H2 =>
      rw [hop] at h
      have h : xT v (fun v => nX H2 fun H2 => uE d v f fun f => yS P C r f H2) = .ok f1 H1 := h
      rw [yA, mB] at h
      exact key v H2 (.inr hop) h
   ·rename_i hb
    obtain ⟨f', e, hf'⟩ := vI hf hd undef (fun f => yS P C r f H)
    rw [e] at h
    obtain ⟨l1, h1, h2, h3⟩ := ih hi' hf' hk h
    exact ⟨l1, h1, .past hio (by rw [hwi]; simpa using hb) h2, h3⟩
structure Noted (P : Program) (k : Nat) (ops : Array Oper) (H : Heap) (i n : Nat) (T : Nat → List Value × Heap) (val : Nat → Value) (tr0 tr : List (Fr × Heap × Value)) : Prop where
 step : ∀ j, i ≤ j → j < i + n → wJ P ops j (T j) (T (j + 1)) (val j)
 new : ∀ j, i ≤ j → j < i + n → ∃ g, tr[i + n - 1 - j]? = some (g, (T j).2, val j) ∧ FAg g (T j).1
 old : ∀ m, tr[n + m]? = tr0[m]?
 lk : ∀ j, i ≤ j → j ≤ i + n → LK H (T j).2
theorem b4z {k : Nat} {ops : Array Oper} {C : Calls'} {H0 : Heap} (hC : CallsOk P C H0) {os : List Oper} {lo : LOps} (hlo : LowOps P k ops os lo) : ∀ {i : Nat}, ops.toList.drop i = os → ∀ {tr0 tr : List (Fr × Heap × Value)} {f : Fr} {l : List Value} {H : Heap} {f1 : Fr} {H1 : Heap},
 FRel k f l → LK H0 H → rM P C lo tr0 f H = .ok tr f1 H1 → ∃ T val l1, T i = (l, H) ∧ T (i + os.length) = (l1, H1) ∧ FRel k f1 l1 ∧ Noted P k ops H i os.length T val tr0 tr := by
 have more : ∀ {i n : Nat} {o : Oper} {tr0 tr : List (Fr × Heap × Value)} {f : Fr} {l : List Value} {H : Heap} {v : Value} {l2 : List Value} {H2 : Heap} {l1 : List Value} {H1 : Heap} {f1 : Fr}, FRel k f l → wJ P ops i (l, H) (l2, H2) v → LK H H2 →
  (∃ T val l1, T (i + 1) = (l2, H2) ∧ T (i + 1 + n) = (l1, H1) ∧ FRel k f1 l1 ∧ Noted P k ops H2 (i + 1) n T val ((f, H, v) :: tr0) tr) →
  ∃ T val l1, T i = (l, H) ∧ T (i + (n + 1)) = (l1, H1) ∧ FRel k f1 l1 ∧ Noted P k ops H i (n + 1) T val tr0 tr := by
  intro i n o tr0 tr f l H v l2 H2 _ H1 f1 hf hst hk ⟨T, val, l1, h1, h2, h3, hN⟩
  refine ⟨fun j => if j ≤ i then (l, H) else T j, fun j => if j ≤ i then v else val j, l1, by simp, ?_, h3, ?_⟩
  ·show (if i + (n + 1) ≤ i then (l, H) else T (i + (n + 1))) = _
   rw [if_neg (by omega), ← h2]; congr 1; omega
  ·refine ⟨fun j hj hn => ?_, fun j hj hn => ?_, fun m => ?_, fun j hj hn => ?_⟩
   ·by_cases he : j = i
    ·subst he
     simp only [di, if_true]
     rw [if_neg (by omega), h1]
     exact hst
    ·rw [if_neg (by omega), if_neg (by omega), if_neg (by omega)]
     exact hN.step j (by omega) (by omega)
   ·by_cases he : j = i
    ·subst he
     simp only [di, if_true]
     refine ⟨f, ?_, hf.2⟩
     have := hN.old 0
     rw [show j + (n + 1) - 1 - j = n + 0 by omega, this]; rfl
    ·rw [if_neg (by omega), if_neg (by omega)]
     obtain ⟨g, hg, hag⟩ := hN.new j (by omega) (by omega)
     exact ⟨g, by rw [← hg]; congr 1; omega, hag⟩
   ·have := hN.old (m + 1)
    rw [show n + 1 + m = n + (m + 1) by omega, this]; rfl
   ·by_cases he : j = i
    ·subst he; simp only [di, if_true]; exact .refl H
    ·rw [if_neg (by omega)]; exact hk.trans (hN.lk j (by omega) (by omega))
 induction hlo with
 | nil =>
   intro i _ tr0 tr f l H f1 H1 hf _ h
   injection h with h1 h2 h3
   subst h1 h2 h3
   exact ⟨fun _ => (l, H), fun _ => undef, l, rfl, rfl, hf, fun j _ h => absurd h (by simp; omega), fun j _ h => absurd h (by simp; omega), fun m => by simp, fun _ _ _ => .refl H⟩
 | @cons o os d lo r hd ho hg hr ih =>
   intro i hi tr0 tr f l H f1 H1 hf hk h
   have hio : ops[i]? = some o := by
    have : (ops.toList.drop i)[0]? = some o := by rw [hi]; rfl
    rw [dI] at this
    simpa using this
   have hi' : ops.toList.drop (i + 1) = os := by rw [← fH, hi]; rfl
   have hw : Region.wanted o (iX ops l) = true := by simp [Region.wanted, hg]
   have h : b1X tr0 f H d (rM P C r) (opF P C lo f H) = .ok tr f1 H1 := h
   have key : ∀ v H2, (opF P C lo f H).Is v H2 → (uE d v f fun f2 => rM P C r ((f, H, v) :: tr0) f2 H2) = .ok tr f1 H1 → ∃ T val l1, T i = (l, H) ∧ T (i + (o :: os).length) = (l1, H1) ∧ FRel k f1 l1 ∧ Noted P k ops H i (o :: os).length T val tr0 tr := by
    intro v H2 hop hrest
    obtain ⟨hs, hk2⟩ := ho C H0 f l H v H2 hC hk hf.2 hop
    obtain ⟨f', e, hf'⟩ := vI hf hd v (fun f2 => rM P C r ((f, H, v) :: tr0) f2 H2)
    rw [e] at hrest
    have := ih hi' hf' (hk.trans hk2) hrest
    exact more (o := o) (l1 := l) hf ⟨o, hio, rfl, .inl ⟨hw, hs⟩⟩ hk2 this
   cases hop : opF P C lo f H with
   | no => rw [hop] at h; cases h
   | ok v H2 => rw [hop] at h; exact key v H2 (.inl hop) h
   | th v H2 =>
     rw [hop] at h
     have h : xT v (fun v => nX H2 fun H2 => uE d v f fun f2 => rM P C r ((f, H, v) :: tr0) f2 H2) = .ok tr f1 H1 := h
     rw [yA, mB] at h
     exact key v H2 (.inr hop) h
 | @gcons o os d lo r j t w hd ho hg ht htk hr ih =>
   intro i hi tr0 tr f l H f1 H1 hf hk h
   have hio : ops[i]? = some o := by
    have : (ops.toList.drop i)[0]? = some o := by rw [hi]; rfl
    rw [dI] at this
    simpa using this
   have hi' : ops.toList.drop (i + 1) = os := by rw [← fH, hi]; rfl
   have hwi : Region.wanted o (iX ops l) = isB (oH (kS t) f) w := by
    simp only [Region.wanted, hg]
    rw [yK ht (by rw [hf.1]; exact htk) w, hf.2 t]
   have h : oE (isB (oH (kS t) f) w) (uE d undef f fun f2 => rM P C r ((f, H, undef) :: tr0) f2 H) (b1X tr0 f H d (rM P C r) (opF P C lo f H)) = .ok tr f1 H1 := h
   rw [kP] at h
   split at h
   ·rename_i hb
    have key : ∀ v H2, (opF P C lo f H).Is v H2 → (uE d v f fun f2 => rM P C r ((f, H, v) :: tr0) f2 H2) = .ok tr f1 H1 → ∃ T val l1, T i = (l, H) ∧ T (i + (o :: os).length) = (l1, H1) ∧ FRel k f1 l1 ∧ Noted P k ops H i (o :: os).length T val tr0 tr := by
     intro v H2 hop hrest
     obtain ⟨hs, hk2⟩ := ho C H0 f l H v H2 hC hk hf.2 hop
     obtain ⟨f', e, hf'⟩ := vI hf hd v (fun f2 => rM P C r ((f, H, v) :: tr0) f2 H2)
     rw [e] at hrest
     exact more (o := o) (l1 := l) hf ⟨o, hio, rfl, .inl ⟨by rw [hwi, hb], hs⟩⟩ hk2 (ih hi' hf' (hk.trans hk2) hrest)
    cases hop : opF P C lo f H with
    | no => rw [hop] at h; cases h
    | ok v H2 => rw [hop] at h; exact key v H2 (.inl hop) h
    | th v H2 =>
      rw [hop] at h
      have h : xT v (fun v => nX H2 fun H2 => uE d v f fun f2 => rM P C r ((f, H, v) :: tr0) f2 H2) = .ok tr f1 H1 := h
      rw [yA, mB] at h
      exact key v H2 (.inr hop) h
   ·rename_i hb
    obtain ⟨f', e, hf'⟩ := vI hf hd undef (fun f2 => rM P C r ((f, H, undef) :: tr0) f2 H)
    rw [e] at h
    exact more (o := o) (l1 := l) hf ⟨o, hio, rfl, .inr ⟨by rw [hwi]; simpa using hb, rfl, rfl⟩⟩ (.refl H) (ih hi' hf' hk h)
theorem b1x {α : Type} (p : α → Bool) (l : List α) : b5o p l = l.all p := by
 induction l with
 | nil => rfl
 | cons x l ih =>
   show oE (p x) false (b5o p l) = _
   rw [kP, ih, fE]
   cases p x <;> rfl
theorem b8F {v : Value} {r : Rs} (h : c0b v r = true) : ∃ H, r.Is v H := by
 cases r with
 | no => cases h
 | ok w H => exact ⟨H, .inl (by rw [b5K (show veq w v = true from h)])⟩
 | th w H => exact ⟨H, .inr (by rw [b5K (show veq w v = true from h)])⟩
theorem LowTab.get {ops : Array Oper} {tab : List (Nat × Nat)} {t : List (Nat × Option Nat × Option (Pth × Bool) × LOp)} (h : LowTab P ops tab t) {i m : Nat} (hm : (i, m) ∈ tab) : ∃ o lo g, ops[i]? = some o ∧ GOk ops o g ∧ wE P o lo ∧ (ops.size - 1 - i, (if m < ops.size then some (ops.size - 1 - m) else none), g, lo) ∈ t := by
 induction h with
 | nil => cases hm
 | @cons i2 m2 o lo tab t g ho hgd hl hr ih =>
   rcases ez.1 hm with he | hm
   ·injection he with h1 h2
    subst h1 h2
    exact ⟨o, lo, g, ho, hgd, hl, by simp⟩
   ·obtain ⟨o', lo', g', h1, h0, h2, h3⟩ := ih hm
    exact ⟨o', lo', g', h1, h0, h2, ey _ h3⟩
theorem b0a {fl : Fl} {ops : Array Oper} {i m : Nat} (h : (i, m) ∈ mP fl ops) {o : Oper} (ho : ops[i]? = some o) : nW o.op = true := by
 unfold mP at h
 simp only [dY] at h
 obtain ⟨⟨x, j⟩, hx, h⟩ := h
 dsimp only at h
 split at h
 ·rename_i hr
  simp only [dz] at h
  obtain ⟨m', _, e⟩ := h
  injection e with e1 e2
  subst e1
  have := gy.1 hx
  have : ops[j]? = some x := by simpa using this
  rw [this] at ho
  injection ho with ho
  subst ho
  exact hr
 ·cases h
theorem b8v (kE : P.follows .mixedOrders = true) {k id : Nat} {ops : Array Oper} {C : Calls'} {H : Heap} (hC : CallsOk P C H) {lo : LOps} {tab : List (Nat × Nat)} {t : List (Nat × Option Nat × Option (Pth × Bool) × LOp)} (hlo : LowOps P k ops ops.toList lo) (htab : nA P ops = some tab) (hl : LowTab P ops tab t)
 {f : Fr} {l : List Value} {e : Ex} {f1 : Fr} {H1 : Heap} (hf : FRel k f l) (h : c0T P C t (rM P C lo [] f H) = .ok e f1 H1) : ∃ l1, e = .normal ∧ FRel k f1 l1 ∧ Sim P (.region id ops true) l H .normal l1 H1 ∧ LK H H1 := by
 cases hr : rM P C lo [] f H with
 | no => rw [hr] at h; cases h
 | ok tr f2 H2 =>
   rw [hr] at h
   have h : oE (b5o (b4P P C tr H2) t) Rc.no (.ok .normal f2 H2) = .ok e f1 H1 := h
   rw [kP] at h
   split at h
   case isFalse => cases h
   rename_i hall
   injection h with h1 h2 h3
   subst h1 h2 h3
   obtain ⟨T, val, l1, hT0, hTn, hf1, hN⟩ := b4z hC hlo (i := 0) rfl hf (.refl H) hr
   rw [fL, ff] at hTn
   rw [fL] at hN
   have hlk : LK H H2 := by have := hN.lk ops.size (fb _) (by omega); rwa [hTn] at this
   refine ⟨l1, rfl, hf1, ?_, hlk⟩
   have := Sim.draw kE (id := id) htab (T := T) (val := val) ⟨fun j hj => hN.step j (fb _) (by omega)⟩ ?_
   ·rw [hT0, hTn] at this; exact this
   ·intro i m o hm ho hw
    obtain ⟨o', lo', gd, ho', hgd, hlow, hmem⟩ := hl.get hm
    rw [ho] at ho'
    obtain rfl := cY ho'
    rw [b1x, dA] at hall
    have hrd := hall _ hmem
    have hi : i < ops.size := (dj.1 ho).1
    obtain ⟨g, hg, hag⟩ := hN.new i (fb _) (by omega)
    have hg : tr[ops.size - 1 - i]? = some (g, (T i).2, val i) := by rw [← hg]; congr 1; omega
    have hread : nW o.op = true := by
     obtain ⟨fl, _, rfl⟩ := qM htab
     exact b0a hm ho
    have fin : ∀ H3, LK H H3 → c0b (val i) (opF P C lo' g H3) = true → ∃ H4, opD P o (T i).1 H3 = some (val i, H4) := by
     intro H3 hk3 hq
     obtain ⟨H4, h4⟩ := b8F hq
     obtain ⟨hs, _⟩ := hlow C H g (T i).1 H3 (val i) H4 hC hk3 hag h4
     refine ⟨H4, hs.opD fun c fv hc hv => ?_⟩
     rw [hc] at hread
     simp [nW, hv] at hread
    unfold b4P at hrd
    simp only [zD, hg, hgd.runs hag hw] at hrd
    rw [kP, if_pos rfl] at hrd
    by_cases hms : m < ops.size
    ·rw [if_pos hms] at hrd
     obtain ⟨g2, hg2, _⟩ := hN.new m (fb _) (by omega)
     have hg2 : tr[ops.size - 1 - m]? = some (g2, (T m).2, val m) := by rw [← hg2]; congr 1; omega
     simp only [hg2] at hrd
     exact fin _ (hN.lk m (fb _) (by omega)) hrd
    ·rw [if_neg hms] at hrd
     have hle : m = ops.size := by
      obtain ⟨fl, _, rfl⟩ := qM htab
      have := a1F hm
      omega
     subst hle
     have := fin H2 hlk hrd
     rw [hTn]; exact this
def uO (P : Program) : List ResultVar → List LRes → Prop
 | [], [] => True
 | r :: rs, l :: ls => (match r, l with
   | .tmp t, .t p => p = kS t
   | .cell a t, .c1 p => p = kS a ∧ jO P t = some false
   | .cell a t, .cn n p => p = kS a ∧ jO P t = some true ∧ iF P t = some n
   | _, _ => False) ∧ uO P rs ls
 | _, _ => False
theorem b4K {α : Type} (l : List ResultVar) (K : List LRes → α) (no : α) : (∃ r, uO P l r ∧ a0K P l K no = K r) ∨ a0K P l K no = no := by
 induction l generalizing K with
 | nil => exact .inl ⟨[], trivial, rfl⟩
 | cons r l ih =>
   cases r with
   | tmp t =>
     have e : a0K P (.tmp t :: l) K no = lP (kS t) fun p => a0K P l (fun l => K (.t p :: l)) no := rfl
     rw [e, lM]
     rcases ih (fun l => K (.t (kS t) :: l)) with ⟨q, h1, h2⟩ | h2
     ·exact .inl ⟨.t (kS t) :: q, ⟨rfl, h1⟩, h2⟩
     ·exact .inr h2
   | cell a t =>
     have e : a0K P (.cell a t :: l) K no = match jO P t with
      | some true => a3k (iF P t) no fun n => lP (kS a) fun p => a0K P l (fun l => K (.cn n p :: l)) no
      | some false => lP (kS a) fun p => a0K P l (fun l => K (.c1 p :: l)) no
      | none => no := rfl
     rw [e]
     split
     ·rename_i ha
      cases hn : iF P t with
      | none => exact .inr rfl
      | some n =>
        rw [pJ, lM]
        rcases ih (fun l => K (.cn n (kS a) :: l)) with ⟨q, h1, h2⟩ | h2
        ·exact .inl ⟨.cn n (kS a) :: q, ⟨⟨rfl, ha, hn⟩, h1⟩, h2⟩
        ·exact .inr h2
     ·rename_i ha
      rw [lM]
      rcases ih (fun l => K (.c1 (kS a) :: l)) with ⟨q, h1, h2⟩ | h2
      ·exact .inl ⟨.c1 (kS a) :: q, ⟨⟨rfl, ha⟩, h1⟩, h2⟩
      ·exact .inr h2
     ·exact .inr rfl
theorem b0X {H H1 : Heap} {f : Fr} {l : List Value} (hf : FAg f l) {r : ResultVar} {q : LRes} {rs : List ResultVar} {qs : List LRes} (h : uO P (r :: rs) (q :: qs)) {v : Value} (hv : (a4p H f q).Is v H1) : H1 = H ∧ a1x P l H r = some v ∧ uO P rs qs := by
 obtain ⟨h, hr⟩ := h
 cases r with
 | tmp t => cases q with
   | t p =>
     have h : p = kS t := h
     subst h
     have hv : (oP (oH (kS t) f) fun v => Rs.ok v H).Is v H1 := hv
     rw [mU] at hv
     obtain ⟨rfl, rfl⟩ := Rs.aP hv
     exact ⟨rfl, by rw [hf t]; rfl, hr⟩
   | c1 p => exact h.elim
   | cn n p => exact h.elim
 | cell a t => cases q with
   | t p => exact h.elim
   | c1 p =>
     obtain ⟨rfl, ha⟩ := h
     obtain ⟨e, h1⟩ := b1s (P := P) (X := .t (kS a)) (w := get l a) ha (hf a) hv
     exact ⟨e, h1, hr⟩
   | cn n p =>
     obtain ⟨rfl, ha, hn⟩ := h
     obtain ⟨e, h1⟩ := b1L (P := P) (X := .t (kS a)) (w := get l a) ha hn (hf a) hv
     exact ⟨e, h1, hr⟩
theorem b9Y {H : Heap} {f : Fr} {q : LRes} {v : Value} {H1 : Heap} : ¬ (a4p H f q = .th v H1) := by
 intro h
 cases q with
 | t p =>
   have h : (oP (oH p f) fun v => Rs.ok v H) = .th v H1 := h
   rw [mU] at h; cases h
 | c1 p =>
   have h : b3q (.t p) f H = .th v H1 := h
   unfold b3q at h
   split at h
   ·unfold b8a at h
    split at h
    ·rw [kP, kP, kP] at h
     split at h
     ·split at h
      ·split at h
       ·rename_i cs _ _ _ _ _ _ _ _
        cases hn : a1e cs _ with
        | none => rw [hn] at h; cases h
        | some w => rw [hn] at h; have h : (oP w fun v => Rs.ok v H) = .th v H1 := h; rw [mU] at h; cases h
       ·cases h
      ·cases h
     ·cases h
    ·cases h
   ·unfold c3f at h
    split at h
    ·rw [kP] at h
     split at h
     ·rename_i cs _ _ _ _
      cases hn : a1e cs _ with
      | none => rw [hn] at h; cases h
      | some w => rw [hn] at h; have h : (oP w fun v => Rs.ok v H) = .th v H1 := h; rw [mU] at h; cases h
     ·cases h
    ·cases h
   ·cases h
 | cn n p =>
   have hh : b2Q n (.t p) f H = .th v H1 := h
   unfold b2Q at hh
   split at hh
   ·unfold b8S at hh
    split at hh
    ·rw [kP, kP, kP] at hh
     split at hh
     ·split at hh
      ·split at hh
       ·have key : ∀ {cs : List Value} {n : Nat} {pre : List Value}, ¬ (a2z cs n fun l => Rs.ok (.agg ⟨pre ++ l⟩) H) = .th v H1 := by
         intro cs
         induction cs with
         | nil => intro n pre h; cases n <;> cases h
         | cons c cs ih =>
           intro n pre h
           cases n with
           | zero => cases h
           | succ n =>
             have h : (a2z cs n fun l => Rs.ok (.agg ⟨pre ++ (c :: l)⟩) H) = .th v H1 := h
             have e : ∀ l : List Value, pre ++ (c :: l) = (pre ++ [c]) ++ l := by intro l; simp
             have h2 : (a2z cs n fun l => Rs.ok (.agg ⟨(pre ++ [c]) ++ l⟩) H) = .th v H1 := by
              rw [← h]; congr 1; funext l; rw [e l]
             exact ih h2
        exact key (pre := []) hh
       ·cases hh
      ·cases hh
     ·cases hh
    ·cases hh
   ·cases hh
theorem a8a {H H1 : Heap} {f : Fr} {l : List Value} (hf : FAg f l) {v : Value} : ∀ {rs : List ResultVar} {qs : List LRes} {K : List Value → Rs}, uO P rs qs → (b5t H f qs K).Is v H1 → ∃ vs, nO P l H rs = some vs ∧ (K vs).Is v H1
 | [], [], K, _, h => ⟨[], rfl, h⟩
 | [], _ :: _, _, h, _ => h.elim
 | _ :: _, [], _, h, _ => h.elim
 | r :: rs, q :: qs, K, hl, h => by
   have h : (Rs.rec (motive := fun _ => Rs) .no (fun v _ => b5t H f qs fun l => K (v :: l)) (fun _ _ => .no) (a4p H f q)).Is v H1 := h
   cases hq : a4p H f q with
   | no => rw [hq] at h; exact absurd h Rs.ar
   | th w H2 => exact absurd hq b9Y
   | ok w H2 =>
     rw [hq] at h
     obtain ⟨e, h1, h2⟩ := b0X hf hl (.inl hq)
     obtain ⟨vs, h3, h4⟩ := a8a hf h2 h
     exact ⟨w :: vs, by simp [nO, h1, h3], h4⟩
theorem b5A {fn : Func} {H H1 : Heap} {f : Fr} {l : List Value} (hf : FAg f l) {qs : List LRes} (hl : uO P fn.results.toList qs) {v : Value} (h : (a6O qs f H).Is v H1) : H1 = H ∧ iE P fn l H = some v := by
 unfold a6O at h
 split at h
 ·rename_i q
  cases hr : fn.results.toList with
  | nil => rw [hr] at hl; exact hl.elim
  | cons r rs =>
    rw [hr] at hl
    obtain ⟨e, h1, h2⟩ := b0X hf hl h
    cases rs with
    | cons _ _ => exact h2.elim
    | nil => exact ⟨e, by simp [iE, hr, nO, h1]⟩
 ·rename_i hne
  obtain ⟨vs, h1, h2⟩ := a8a hf hl h
  obtain ⟨h3, h4⟩ := lF h2
  obtain ⟨rfl, rfl⟩ := Rs.aP h4
  refine ⟨rfl, ?_⟩
  have hlen : ∀ {rs : List ResultVar} {qs : List LRes}, uO P rs qs → rs.length = qs.length := by
   intro rs
   induction rs with
   | nil => intro qs h; cases qs with | nil => rfl | cons => exact h.elim
   | cons r rs ih => intro qs h; cases qs with | nil => exact h.elim | cons q qs => simp [ih h.2]
  have hvl : ∀ {rs : List ResultVar} {vs : List Value}, nO P l H1 rs = some vs → vs.length = rs.length := by
   intro rs
   induction rs with
   | nil => intro vs h; injection h with h; subst h; rfl
   | cons r rs ih =>
     intro vs h
     simp only [nO, db, dp] at h
     obtain ⟨w, _, ws, h1, h2⟩ := h
     subst h2
     simp [ih h1]
  have hn1 : vs.length ≠ 1 := by
   rw [hvl h1, hlen hl]
   intro h1
   match qs, h1 with
   | [q], _ => exact hne q rfl
  unfold iE
  rw [h1, da]
  rw [b1x] at h3
  have h3 : vs.all jP = true := by rw [← h3]; congr 1
  split
  ·exact absurd rfl hn1
  ·rw [if_pos h3]
structure FuncOk (P : Program) (f : FuncId) (g : LFunc) : Prop where
 ex : ∃ fn c, P.funcs[f]? = some fn ∧ fn.body = some c ∧ (fn.name == "runtime.NumGoroutine") = false ∧ g.ps = (List.range fn.ntmps).map kS ∧ Low P fn.ntmps c g.body ∧ uO P fn.results.toList g.res
def TOk (P : Program) (T : LT) : Prop := ∀ f g, a2U (kS f) T = some g → FuncOk P f g
def EOk (P : Program) (E : List LEnv) (H : Heap) : Prop := ∀ en ∈ E, en.L < H.length ∧ ∀ r, iO H en.L = some (.loop r) →
 ∃ k, en.ps = (List.range k).map kS ∧ r.tmps.size = k ∧ en.pp = r.params.toList.map kS ∧ (∀ t ∈ r.params.toList, t < k) ∧ Low P k r.assign en.a ∧ Low P k r.body en.b
theorem EOk.ab {E : List LEnv} {H H' : Heap} (h : EOk P E H) (hk : LK H H') : EOk P E H' := fun en hen => by
 obtain ⟨h1, h2⟩ := h en hen
 refine ⟨dN h1 hk.1, fun r' hr' => ?_⟩
 obtain ⟨r, hr, ea, eb, ep, et⟩ := hk.2 en.L r' h1 hr'
 obtain ⟨k, a, b, c, d, e, f⟩ := h2 r hr
 exact ⟨k, a, by rw [et]; exact b, by rw [ep]; exact c, by rw [ep]; exact d, by rw [ea]; exact e, by rw [eb]; exact f⟩
def a4n (P : Program) (ih : qK) : Prop := ∀ (E : List LEnv) (C : LCode) (k : Nat) (c : Code) (f : Fr) (l : List Value) (H : Heap) (e : Ex) (f1 : Fr) (H1 : Heap), Low P k c C → FRel k f l → EOk P E H → ih E C f H = .ok e f1 H1 →
 ∃ l1, FRel k f1 l1 ∧ Sim P c l H e l1 H1 ∧ LK H H1 ∧ ∀ b, c = .loop b → ∃ n, Rounds P b n l H e l1 H1
theorem a0y {α : Type} {no : α} : ∀ {l : List Value} {i m : Nat} {f : Fr} {K : Fr → α}, (pO no l ((List.range' i m).map kS) f K = no) ∨ (l.length ≤ m ∧ ∃ f', pO no l ((List.range' i m).map kS) f K = K f' ∧ ∀ t, oH (kS t) f' = if i ≤ t ∧ t < i + l.length then get l (t - i) else oH (kS t) f)
 | [], i, m, f, K => .inr ⟨fb _, f, rfl, fun t => by rw [if_neg (by simp only [eG]; omega)]⟩
 | v :: l, i, 0, f, K => .inl rfl
 | v :: l, i, m + 1, f, K => by
   have e : pO no (v :: l) ((List.range' i (m + 1)).map kS) f K = qE v (kS i) f fun f => pO no l ((List.range' (i + 1) m).map kS) f K := by
    rw [gN]; rfl
   rw [e, tB]
   rcases a0y (l := l) (i := i + 1) (m := m) (f := b5r f i v) (K := K) with h | ⟨h1, f', h2, h3⟩
   ·exact .inl h
   ·refine .inr ⟨by simp; omega, f', h2, fun t => ?_⟩
    rw [h3 t, a3R]
    by_cases ht : t = i
    ·subst ht
     rw [if_neg (by omega), if_pos rfl, if_pos (by simp), gu]; rfl
    ·rw [if_neg ht]
     by_cases h4 : i + 1 ≤ t ∧ t < i + 1 + l.length
     ·rw [if_pos h4, if_pos (by simp; omega)]
      rw [show t - i = (t - (i + 1)) + 1 by omega]; rfl
     ·rw [if_neg h4, if_neg (by simp; omega)]
theorem wB {α : Type} {no : α} {k : Nat} : ∀ {args : List Value} {ps : List Tmp} {f : Fr} {l : List Value} {K : Fr → α}, FRel k f l → (∀ t ∈ ps, t < k) → args.length = ps.length →
 ∃ f', pO no args (ps.map kS) f K = K f' ∧ FRel k f' ((ps.zip args).foldl (fun t (p, v) => t.set p v) l)
 | [], [], f, l, K, hf, _, _ => ⟨f, rfl, hf⟩
 | v :: args, p :: ps, f, l, K, hf, hp, he => by
   have e : pO no (v :: args) ((p :: ps).map kS) f K = qE v (kS p) f fun f => pO no args (ps.map kS) f K := rfl
   rw [e, tB]
   exact wB (hf.set (hp p (by simp)) v) (fun t ht => hp t (by simp [ht])) (by simpa using he)
 | [], _ :: _, _, _, _, _, _, he => by simp at he
 | _ :: _, [], _, _, _, _, _, he => by simp at he
theorem a0C (l : List Value) (n t : Nat) : get (l ++ List.replicate n undef) t = get l t := by
 rw [oW, oW]
 simp only [de]
 by_cases h : t < l.length
 ·rw [eN h]
 ·rw [ec (by omega), eE (l := l) (by omega), ig]
  split <;> rfl
theorem a0n {T : LT} (hT : TOk P T) {ih : qK} (hih : a4n P ih) {E : List LEnv} {p : Pth} {f : FuncId} {args : List Value} {H H1 : Heap} {v : Value} (hE : EOk P E H) (hp : p = kS f) (h : (oO T ih E p args H).Is v H1) :
 FnS P f args H (fun v' H' => v' = v ∧ H' = H1) ∧ LK H H1 := by
 unfold oO at h
 split at h
 case h_2 => exact absurd h Rs.ar
 rename_i g hg
 subst hp
 obtain ⟨fn, c, hfn, hb, hn, hps, hlow, hres⟩ := (hT f g hg).ex
 rw [hps] at h
 rw [fT] at h
 rcases a0y (no := Rs.no) (l := args) (i := 0) (m := fn.ntmps) (f := .e) (K := fun f => c3j g.res (ih E g.body f H)) with h1 | ⟨h1, f0, h2, h3⟩
 ·rw [h1] at h; exact absurd h Rs.ar
 ·rw [h2] at h
  have hf0 : FRel fn.ntmps f0 (args ++ List.replicate (fn.ntmps - args.length) undef) := by
   refine ⟨by simp; omega, fun t => ?_⟩
   rw [h3 t, a0C]
   by_cases ht : t < args.length
   ·rw [if_pos (by omega)]; rfl
   ·rw [if_neg (by omega), uM, oW, de, eE (by omega)]; try rfl
  cases hr : ih E g.body f0 H with
  | no => rw [hr] at h; exact absurd h Rs.ar
  | ok e f1 H2 =>
    rw [hr] at h
    obtain ⟨l1, hf1, hs, hk, _⟩ := hih E g.body fn.ntmps c f0 _ H e f1 H2 hlow hf0 hE hr
    have key : (e = .normal ∨ e = .ret) → (a6O g.res f1 H2).Is v H1 → FnS P f args H (fun v' H' => v' = v ∧ H' = H1) ∧ LK H H1 := by
     intro he hv
     obtain ⟨rfl, hv⟩ := b5A hf1.2 hres hv
     exact ⟨⟨fn, c, e, l1, H1, v, hfn, hb, hn, hs, he, hv, rfl, rfl⟩, hk⟩
    cases e with
    | normal => exact key (.inl rfl) h
    | ret => exact key (.inr rfl) h
    | exit id => exact absurd h Rs.ar
theorem b6t {T : LT} (hT : TOk P T) {ih : qK} (hih : a4n P ih) {E : List LEnv} {p : Pth} {f : FuncId} {args : List Value} {H H1 : Heap} {v : Value} (hE : EOk P E H) (hp : p = kS f) (h : (b5H P T ih E p f args H).Is v H1) :
 (FnS P f args H (fun v' H' => v' = v ∧ H' = H1) ∨ qO P f args H = some (v, H1)) ∧ LK H H1 := by
 unfold b5H at h
 cases hg : a2U p T with
 | some g =>
   rw [hg] at h
   obtain ⟨a, b⟩ := a0n (H1 := H1) (v := v) hT hih hE hp (by unfold oO; rw [hg]; exact h)
   exact ⟨.inl a, b⟩
 | none =>
   rw [hg] at h
   have h : (c2G P f args H).Is v H1 := h
   unfold c2G at h
   split at h
   ·rename_i v2 H2 hx
    obtain ⟨rfl, rfl⟩ := Rs.aS h
    exact ⟨.inr hx, a5X hx⟩
   ·exact absurd h Rs.ar
theorem a9V {E : List LEnv} {L : Nat} {en : LEnv} (h : b7d E L = some en) : en ∈ E ∧ en.L = L := by
 induction E with
 | nil => cases h
 | cons e E ih =>
   have h : oE (Nat.beq e.L L) (b7d E L) (some e) = some en := h
   rw [kP] at h
   split at h
   ·rename_i hh
    injection h with h
    subst h
    exact ⟨by simp, dU hh⟩
   ·obtain ⟨h1, h2⟩ := ih h
    exact ⟨ey _ h1, h2⟩
theorem a8D (e : Ex) : c1h e = rW e := by cases e <;> rfl
theorem b3P {ih : qK} (hih : a4n P ih) {E : List LEnv} {L : Nat} {args : List Value} {H H1 : Heap} {v : Value} (hE : EOk P E H) (h : (a9L ih E L args H).Is v H1) : xR P L args H v H1 ∧ LK H H1 := by
 unfold a9L at h
 split at h
 case h_2 => exact absurd h Rs.ar
 rename_i en hen
 obtain ⟨hmem, rfl⟩ := a9V hen
 split at h
 case h_2 => exact absurd h Rs.ar
 rename_i p fn tmps ps a b d hg
 obtain ⟨hlen, h⟩ := lF h
 rw [xZ] at hlen
 have hlen : ps.size = args.length := by simpa only [decide_eq_true_eq] using hlen
 obtain ⟨k, hps, hsz, hpp, hpk, hla, hlb⟩ := (hE en hmem).2 _ hg
 have hsz : tmps.length = k := by simpa using hsz
 rw [hps, fT] at h
 rcases a0y (no := Rs.no) (l := tmps) (i := 0) (m := k) (f := .e) (K := fun f => pO .no args en.pp f fun f => sU ih E en (ih E en.a f H)) with h1 | ⟨h1, f0, h2, h3⟩
 ·rw [h1] at h; exact absurd h Rs.ar
 rw [h2] at h
 have hf0 : FRel k f0 tmps := by
  refine ⟨hsz, fun t => ?_⟩
  rw [h3 t]
  by_cases ht : t < tmps.length
  ·rw [if_pos (by omega)]; rfl
  ·rw [if_neg (by omega), uM, oW, de, eE (by omega)]; try rfl
 rw [hpp] at h
 obtain ⟨f2, h4, hf2⟩ := wB (no := Rs.no) (args := args) (ps := ps.toList) (K := fun f => sU ih E en (ih E en.a f H)) hf0 hpk (by simpa using hlen.symm)
 have h : (pO Rs.no args (List.map kS ps.toList) f0 fun f => sU ih E en (ih E en.a f H)).Is v H1 := h
 rw [h4] at h
 cases hr1 : ih E en.a f2 H with
 | no => rw [hr1] at h; exact absurd h Rs.ar
 | ok e f3 H2 =>
   rw [hr1] at h
   obtain ⟨l3, hf3, hs1, hk1, _⟩ := hih E en.a k a f2 _ H e f3 H2 hla hf2 hE hr1
   cases e with
   | ret => exact absurd h Rs.ar
   | exit id => exact absurd h Rs.ar
   | normal =>
     have h : (a0x ih E en f3 H2).Is v H1 := h
     unfold a0x at h
     split at h
     case h_2 => exact absurd h Rs.ar
     rename_i p2 fn2 tmps2 ps2 a2 b2 d2 hg2
     rw [mB] at h
     obtain ⟨r0, hr0, ea, eb, ep, et⟩ := hk1.2 en.L _ (hE en hmem).1 hg2
     rw [hg] at hr0
     injection hr0 with hr0
     injection hr0 with hr0
     subst hr0
     have ea' : a2 = a := ea
     have eb' : b2 = b := eb
     have ep' : ps2 = ps := ep
     have et' : tmps2 = ⟨tmps⟩ := et
     clear ea eb ep et
     subst ea' eb' ep' et'
     have hk2 : LK H2 (hset H2 en.L (.loop ⟨.busy, p2, fn2, ⟨tmps⟩, ps2, a2, b2, d2⟩)) := .loop hg2 ⟨rfl, rfl, rfl, rfl⟩
     cases hr2 : ih E en.b f3 (hset H2 en.L (.loop ⟨.busy, p2, fn2, ⟨tmps⟩, ps2, a2, b2, d2⟩)) with
     | no => rw [hr2] at h; exact absurd h Rs.ar
     | ok e f4 H3 =>
       rw [hr2] at h
       obtain ⟨l4, _, hs2, hk3, _⟩ := hih E en.b k b2 f3 _ _ e f4 H3 hlb hf3 (hE.ab (hk1.trans hk2)) hr2
       have h : (a2y en.L e H3).Is v H1 := h
       unfold a2y at h
       split at h
       case h_2 => exact absurd h Rs.ar
       rename_i st3 p3 fn3 tmps3 ps3 a3 b3 d3 hg3
       have fin : ∀ r', H1 = hset H3 en.L (.loop r') → (r' = { (⟨st3, p3, fn3, tmps3, ps3, a3, b3, d3⟩ : Loop) with state := if (rW e).isNone then .ready else .done, pending := rW e }) → v = .bool (rW e).isNone → xR P en.L args H v H1 ∧ LK H H1 := by
        intro r' hH hr' hv
        refine ⟨?_, hk1.trans (hk2.trans (hk3.trans (by rw [hH]; exact .loop hg3 (by rw [hr']; exact ⟨rfl, rfl, rfl, rfl⟩))))⟩
        have hW := mD (P := P) (args := args) (K := fun v' H' => v' = v ∧ H' = H1) hg hlen rfl
         ⟨.normal, l3, H2, hs1, rfl, _, hg2, rfl, e, l4, H3, hs2, _, hg3, hv.symm, by rw [hH, hr']⟩
        obtain ⟨v', H', h1, rfl, rfl⟩ := hW
        exact h1
       split at h
       ·rename_i hj
        obtain ⟨rfl, rfl⟩ := Rs.aS h
        rw [a8D] at hj
        exact fin _ rfl (by rw [hj]; rfl) (by rw [hj]; rfl)
       ·rename_i c hj
        obtain ⟨rfl, rfl⟩ := Rs.aS h
        rw [a8D] at hj
        exact fin _ rfl (by rw [hj]; rfl) (by rw [hj]; rfl)
theorem a3S {T : LT} (hT : TOk P T) {ih : qK} (hih : a4n P ih) {E : List LEnv} {H0 : Heap} (hE : EOk P E H0) : CallsOk P (a0s P T ih E) H0 where
 fn p f args H v H1 hk h hp := b6t hT hih (hE.ab hk) hp h
 rd L args H v H1 hk h := b3P hih (hE.ab hk) h
theorem c2k {α : Type} {f : Fr} {l : List Value} (hf : FAg f l) (i m : Nat) (K : List Value → α) : frL f ((List.range' i m).map kS) K = K ((List.range' i m).map (get l)) := by
 induction m generalizing i K with
 | zero => rfl
 | succ m ih =>
   have e : frL f ((List.range' i (m + 1)).map kS) K = oP (oH (kS i) f) fun v => frL f ((List.range' (i + 1) m).map kS) fun l => K (v :: l) := by
    rw [gN]; rfl
   rw [e, mU, ih, hf i, gN]; rfl
theorem c0d {α : Type} {k : Nat} {f : Fr} {l : List Value} (hf : FRel k f l) (K : List Value → α) : frL f ((List.range k).map kS) K = K l := by
 rw [fT, c2k hf.2, ← fT]
 congr 1
 apply gF
 intro i
 rw [ef]
 by_cases hi : i < k
 ·rw [gS hi, dP, oW, de]
  have : i < l.length := by rw [hf.1]; exact hi
  simp [dr this]
 ·rw [eE (by simp; omega), eE (by rw [hf.1]; omega)]; rfl
theorem b3v {T : LT} (hT : TOk P T) {ih : qK} (hih : a4n P ih) {E : List LEnv} {k : Nat} {g : Operand} {ps : Array Tmp} {assign body : Code} {A B : LCode} (hg : iT g = true) (hps : ∀ t ∈ ps.toList, t < k) (ha : Low P k assign A) (hb : Low P k body B)
 {x1 x2 : Fr → Heap → Rc} {f : Fr} {l : List Value} {H : Heap} {e : Ex} {f1 : Fr} {H1 : Heap} (hf : FRel k f l) (hE : EOk P E H) (h : a9m T ih E (iY g) ((List.range k).map kS) (ps.toList.map kS) ps assign body A B x1 x2 f H = .ok e f1 H1) :
 f1 = f ∧ Sim P (.rangeFunc g ps assign body) l H e l H1 ∧ LK H H1 := by
 unfold a9m at h
 rw [jT hf.2] at h
 split at h
 case h_2 => cases h
 rename_i j xa xb hgv
 rw [jX, c0d hf, mB, jX] at h
 unfold b1S at h
 rw [lM] at h
 generalize hH0 : H.cons (.loop ⟨.ready, none, 0, ⟨l⟩, ps, assign, body, 0⟩) = H0 at h
 have hl0 : (⟨.ready, none, 0, ⟨l⟩, ps, assign, body, 0⟩ : Loop) = b1V l ps assign body := rfl
 have hE0 : EOk P (⟨H.length, (List.range k).map kS, ps.toList.map kS, A, B⟩ :: E) H0 := by
  intro en hen
  rcases ez.1 hen with rfl | hen
  ·refine ⟨by rw [← hH0, length_cons]; exact Nat.lt_succ_self _, fun r hr => ?_⟩
   rw [← hH0, iQ] at hr
   injection hr with hr
   injection hr with hr
   subst hr
   exact ⟨k, rfl, by simpa using hf.1, rfl, hps, ha, hb⟩
  ·exact (hE.ab (by rw [← hH0]; exact .cons _ _)) en hen
 have key : ∀ v H2, (oO T ih (⟨H.length, (List.range k).map kS, ps.toList.map kS, A, B⟩ :: E) (kS j) (a5o xa (.func (.yield H.length) #[] #[] :: xb)) H0).Is v H2 → tV H.length f H2 = .ok e f1 H1 → f1 = f ∧ Sim P (.rangeFunc g ps assign body) l H e l H1 ∧ LK H H1 := by
  intro v H2 hc hr
  obtain ⟨hfn, hk⟩ := a0n hT hih hE0 rfl hc
  have hargs : a5o xa (.func (.yield H.length) #[] #[] :: xb) = xa ++ [.func (.yield H.length) #[] #[]] ++ xb := by rw [yO]; simp
  rw [hargs, ← hH0, hl0] at hfn
  have fin : ∀ (r : Loop) (H3 : Heap), iO H2 H.length = some (.loop r) → r.state ≠ .busy → H3 = hset H2 H.length (.loop { r with state := .exhausted }) → (r.pending = none → e = .normal) → (∀ c, r.pending = some c → (c = .ret ∧ e = .ret) ∨ ∃ id, c = .exit id ∧ e = .exit id) → f1 = f → H1 = H3 →
   f1 = f ∧ Sim P (.rangeFunc g ps assign body) l H e l H1 ∧ LK H H1 := by
   intro r H3 hrl hnb hH3 hp0 hp1 he1 he2
   have hw : Wp P (.rangeFunc g ps assign body) l H (fun e' l' H' => e' = e ∧ l' = l ∧ H' = H3) := by
    refine Wp.range (first := xa) (captured := xb) hg (by rw [hgv]) (hfn.mono ?_)
    rintro v' H' ⟨rfl, rfl⟩
    refine ⟨r, hrl, hnb, fun hp => ⟨(hp0 hp).symm, rfl, hH3.symm⟩, fun c hc => ?_⟩
    rcases hp1 c hc with ⟨rfl, he⟩ | ⟨id, rfl, he⟩
    ·exact Wp.ret ⟨he.symm, rfl, hH3.symm⟩
    ·exact Wp.exit ⟨he.symm, rfl, hH3.symm⟩
   obtain ⟨e', l', H', hs, rfl, rfl, rfl⟩ := hw
   refine ⟨he1, by rw [he2]; exact hs, ?_⟩
   rw [he2, hH3]
   have h1 : LK H H0 := by rw [← hH0]; exact .cons _ _
   exact h1.trans (hk.trans (.loop hrl ⟨rfl, rfl, rfl, rfl⟩))
  unfold tV at hr
  split at hr
  ·rename_i hg2
   rw [mB] at hr
   injection hr with h1 h2 h3
   exact fin _ _ hg2 (by simp) rfl (fun _ => h1.symm) (fun c hc => by cases hc) h2.symm h3.symm
  ·rename_i hg2
   rw [mB] at hr
   injection hr with h1 h2 h3
   exact fin _ _ hg2 (by simp) rfl (fun _ => h1.symm) (fun c hc => by cases hc) h2.symm h3.symm
  ·rename_i hg2
   rw [mB] at hr
   injection hr with h1 h2 h3
   exact fin _ _ hg2 (by simp) rfl (fun hc => by cases hc) (fun c hc => by injection hc with hc; subst hc; exact .inl ⟨rfl, h1.symm⟩) h2.symm h3.symm
  ·rename_i hg2
   rw [mB] at hr
   injection hr with h1 h2 h3
   exact fin _ _ hg2 (by simp) rfl (fun hc => by cases hc) (fun c hc => by injection hc with hc; subst hc; exact .inr ⟨_, rfl, h1.symm⟩) h2.symm h3.symm
  ·cases hr
 cases hc : oO T ih (⟨H.length, (List.range k).map kS, ps.toList.map kS, A, B⟩ :: E) (kS j) (a5o xa (.func (.yield H.length) #[] #[] :: xb)) H0 with
 | no => rw [hc] at h; cases h
 | ok v H2 => rw [hc] at h; exact key v H2 (.inl hc) h
 | th v H2 =>
   rw [hc] at h
   have h : nX H2 (fun H => tV _ f H) = .ok e f1 H1 := h
   rw [mB] at h
   exact key v H2 (.inr hc) h
theorem c2d (kE : P.follows .mixedOrders = true) {T : LT} (hT : TOk P T) : ∀ n, a4n P (exF P T n) := by
 intro n
 induction n with
 | zero => intro E C k c f l H e f1 H1 _ _ _ h; cases h
 | succ n ih =>
   intro E C k c f l H e f1 H1 hlow hf hE h
   have h : b1a P T (exF P T n) E C f H = .ok e f1 H1 := h
   have noloop : ∀ {c : Code}, (∀ b, c ≠ .loop b) → ∀ {l1 : List Value}, ∀ b, c = .loop b → ∃ n, Rounds P b n l H e l1 H1 := fun hne _ b hb => absurd hb (hne b)
   cases hlow with
   | bad => cases h
   | skip =>
     injection h with h1 h2 h3; subst h1 h2 h3
     exact ⟨l, hf, .skip l H, .refl H, noloop (by intro b h; cases h)⟩
   | label t =>
     injection h with h1 h2 h3; subst h1 h2 h3
     exact ⟨l, hf, .label t l H, .refl H, noloop (by intro b h; cases h)⟩
   | exit id =>
     injection h with h1 h2 h3; subst h1 h2 h3
     exact ⟨l, hf, .exit id l H, .refl H, noloop (by intro b h; cases h)⟩
   | ret =>
     injection h with h1 h2 h3; subst h1 h2 h3
     exact ⟨l, hf, .ret l H, .refl H, noloop (by intro b h; cases h)⟩
   | @reg id ops d lo hlo hd =>
     have h : c5d (yS P (a0s P T (exF P T n) E) lo f H) = .ok e f1 H1 := h
     cases hr : yS P (a0s P T (exF P T n) E) lo f H with
     | no => rw [hr] at h; cases h
     | ok f2 H2 =>
       rw [hr] at h
       injection h with h1 h2 h3; subst h1 h2 h3
       obtain ⟨l1, hf1, hops, hk⟩ := b8G (a3S hT ih hE) hlo (i := 0) rfl hf (.refl H) hr
       have hops : OpsR P ops (List.range ops.size) l H l1 H2 := by rw [fT]; simpa using hops
       refine ⟨l1, hf1, ?_, hk, noloop (by intro b h; cases h)⟩
       cases d with
       | false => exact .region hops
       | true => exact .bX kE (hd rfl) hops
   | drw hlo ht hl =>
     obtain ⟨l1, rfl, hf1, hs, hk⟩ := b8v kE (a3S hT ih hE) hlo ht hl hf h
     exact ⟨l1, hf1, hs, hk, noloop (by intro b h; cases h)⟩
   | @seq a b A B ha hb =>
     have h : b7U (exF P T n) E B (exF P T n E A f H) = .ok e f1 H1 := h
     cases hr : exF P T n E A f H with
     | no => rw [hr] at h; cases h
     | ok e2 f2 H2 =>
       rw [hr] at h
       obtain ⟨l2, hf2, hs, hk, _⟩ := ih E A k a f l H e2 f2 H2 ha hf hE hr
       cases e2 with
       | normal =>
         obtain ⟨l1, hf1, hs1, hk1, _⟩ := ih E B k b f2 l2 H2 e f1 H1 hb hf2 (hE.ab hk) h
         exact ⟨l1, hf1, .seq hs hs1, hk.trans hk1, noloop (by intro b h; cases h)⟩
       | ret =>
         injection h with h1 h2 h3; subst h1 h2 h3
         exact ⟨l2, hf2, .seq' hs (by intro h; cases h), hk, noloop (by intro b h; cases h)⟩
       | exit id =>
         injection h with h1 h2 h3; subst h1 h2 h3
         exact ⟨l2, hf2, .seq' hs (by intro h; cases h), hk, noloop (by intro b h; cases h)⟩
   | @cond c x y X Y hc hx hy =>
     have h : b6Z (exF P T n) E (iY c) X Y (b1a P T (exF P T n) E X) (b1a P T (exF P T n) E Y) f H = .ok e f1 H1 := h
     unfold b6Z at h
     rw [jT hf.2] at h
     split at h
     ·rename_i t ht
      cases t with
      | true =>
        obtain ⟨l1, hf1, hs, hk, _⟩ := ih E X k x f l H e f1 H1 hx hf hE h
        exact ⟨l1, hf1, .cond ht hc hs, hk, noloop (by intro b h; cases h)⟩
      | false =>
        obtain ⟨l1, hf1, hs, hk, _⟩ := ih E Y k y f l H e f1 H1 hy hf hE h
        exact ⟨l1, hf1, .cond ht hc hs, hk, noloop (by intro b h; cases h)⟩
     ·cases h
   | @block id b B hb =>
     have h : c6d id (exF P T n E B f H) = .ok e f1 H1 := h
     cases hr : exF P T n E B f H with
     | no => rw [hr] at h; cases h
     | ok e2 f2 H2 =>
       rw [hr] at h
       obtain ⟨l2, hf2, hs, hk, _⟩ := ih E B k b f l H e2 f2 H2 hb hf hE hr
       have hs' : Sim P (.block id b) l H (e2.out id) l2 H2 := .block hs
       cases e2 with
       | normal => injection h with h1 h2 h3; subst h1 h2 h3; exact ⟨l2, hf2, hs', hk, noloop (by intro b h; cases h)⟩
       | ret => injection h with h1 h2 h3; subst h1 h2 h3; exact ⟨l2, hf2, hs', hk, noloop (by intro b h; cases h)⟩
       | exit i =>
         have h : Rc.ok (Bool.rec (motive := fun _ => Ex) (.exit i) .normal (Nat.beq i id)) f2 H2 = .ok e f1 H1 := h
         injection h with h1 h2 h3; subst h2 h3
         have : (Ex.exit i).out id = e := by
          rw [← h1]
          by_cases hi : i = id
          ·subst hi; simp [Ex.out]
          ·have : Nat.beq i id = false := gf.2 fun e => hi (dU e)
           simp [Ex.out, hi, this]
         rw [this] at hs'
         exact ⟨l2, hf2, hs', hk, noloop (by intro b h; cases h)⟩
   | @loop b B hb =>
     have h : b7U (exF P T n) E (.loop B) (exF P T n E B f H) = .ok e f1 H1 := h
     cases hr : exF P T n E B f H with
     | no => rw [hr] at h; cases h
     | ok e2 f2 H2 =>
       rw [hr] at h
       obtain ⟨l2, hf2, hs, hk, _⟩ := ih E B k b f l H e2 f2 H2 hb hf hE hr
       have last : e2 ≠ .normal → e2 = e → f2 = f1 → H2 = H1 → ∃ l1, FRel k f1 l1 ∧ Sim P (.loop b) l H e l1 H1 ∧ LK H H1 ∧ ∀ b', Code.loop b = .loop b' → ∃ n, Rounds P b' n l H e l1 H1 := by
        intro hne h1 h2 h3
        subst h1 h2 h3
        have hr : Rounds P b 1 l H e2 l2 H2 := .last hs hne
        exact ⟨l2, hf2, .loop hr, hk, fun b' hb' => by injection hb' with hb'; subst hb'; exact ⟨1, hr⟩⟩
       cases e2 with
       | normal =>
         obtain ⟨l1, hf1, hs1, hk1, hro⟩ := ih E (.loop B) k (.loop b) f2 l2 H2 e f1 H1 (.loop hb) hf2 (hE.ab hk) h
         obtain ⟨m, hm⟩ := hro b rfl
         have hr : Rounds P b (m + 1) l H e l1 H1 := .more hs hm
         exact ⟨l1, hf1, .loop hr, hk.trans hk1, fun b' hb' => by injection hb' with hb'; subst hb'; exact ⟨_, hr⟩⟩
       | ret => injection h with h1 h2 h3; exact last (by intro h; cases h) h1 h2 h3
       | exit id => injection h with h1 h2 h3; exact last (by intro h; cases h) h1 h2 h3
   | range hg hps ha hb =>
     obtain ⟨rfl, hs, hk⟩ := b3v (x1 := fun _ _ => .no) (x2 := fun _ _ => .no) hT ih hg hps ha hb hf hE h
     exact ⟨l, hf, hs, hk, noloop (by intro b h; cases h)⟩
theorem zB {α : Type} (v : LFunc) (p : Pth) (f : LT) (K : LT → α) : sG v p f K = K (sG v p f fun f => f) := by
 induction p generalizing f α with
 | z => cases f <;> rfl
 | l p ih =>
   cases f with
   | e =>
     show sG v p .e (fun l => K (.n none l .e)) = K (sG v p .e fun l => .n none l .e)
     rw [ih, ih (K := fun l => LT.n none l .e)]
   | n w l r =>
     show sG v p l (fun l => K (.n w l r)) = K (sG v p l fun l => .n w l r)
     rw [ih, ih (K := fun l => LT.n w l r)]
 | r p ih =>
   cases f with
   | e =>
     show sG v p .e (fun l => K (.n none .e l)) = K (sG v p .e fun l => .n none .e l)
     rw [ih, ih (K := fun l => LT.n none .e l)]
   | n w l r =>
     show sG v p r (fun r => K (.n w l r)) = K (sG v p r fun r => .n w l r)
     rw [ih, ih (K := fun r => LT.n w l r)]
theorem wY (p : Pth) : a2U p .e = none := by cases p <;> rfl
theorem b3x (v : LFunc) (p q : Pth) (f : LT) {g : LFunc} (h : a2U q (sG v p f fun f => f) = some g) : (q = p ∧ g = v) ∨ a2U q f = some g := by
 induction p generalizing f q with
 | z =>
   cases q with
   | z => left; refine ⟨rfl, ?_⟩; cases f <;> (injection h with h; exact h.symm)
   | l q => right; cases f with
     | e => have h : a2U q .e = some g := h
            rw [wY] at h; cases h
     | n => exact h
   | r q => right; cases f with
     | e => have h : a2U q .e = some g := h
            rw [wY] at h; cases h
     | n => exact h
 | l p ih =>
   have h1 : ∀ f, sG v (.l p) f (fun f => f) = match f with | .e => .n none (sG v p .e fun f => f) .e | .n w l r => .n w (sG v p l fun f => f) r := fun f => by
    cases f with
    | e => exact zB v p .e fun l => LT.n none l .e
    | n w l r => exact zB v p l fun l => LT.n w l r
   rw [h1] at h
   cases q with
   | z => right; cases f with
     | e => exact h
     | n => exact h
   | r q => right; cases f with
     | e => have h : a2U q .e = some g := h
            rw [wY] at h; cases h
     | n => exact h
   | l q =>
     cases f with
     | e =>
       rcases ih q .e h with ⟨rfl, hq⟩ | h
       ·exact .inl ⟨rfl, hq⟩
       ·rw [wY] at h; cases h
     | n w l r =>
       rcases ih q l h with ⟨rfl, hq⟩ | h
       ·exact .inl ⟨rfl, hq⟩
       ·exact .inr h
 | r p ih =>
   have h1 : ∀ f, sG v (.r p) f (fun f => f) = match f with | .e => .n none .e (sG v p .e fun f => f) | .n w l r => .n w l (sG v p r fun f => f) := fun f => by
    cases f with
    | e => exact zB v p .e fun l => LT.n none .e l
    | n w l r => exact zB v p r fun r => LT.n w l r
   rw [h1] at h
   cases q with
   | z => right; cases f with
     | e => exact h
     | n => exact h
   | l q => right; cases f with
     | e => have h : a2U q .e = some g := h
            rw [wY] at h; cases h
     | n => exact h
   | r q =>
     cases f with
     | e =>
       rcases ih q .e h with ⟨rfl, hq⟩ | h
       ·exact .inl ⟨rfl, hq⟩
       ·rw [wY] at h; cases h
     | n w l r =>
       rcases ih q r h with ⟨rfl, hq⟩ | h
       ·exact .inl ⟨rfl, hq⟩
       ·exact .inr h
theorem b3s {α : Type} (f : FuncId) (no : α) (K : LFunc → α) : (∃ g, FuncOk P f g ∧ a2C P f no K = K g) ∨ a2C P f no K = no := by
 unfold a2C
 split
 ·rename_i fn hfn
  split
  ·rename_i c hb
   rw [kP]
   split
   ·exact .inr rfl
   ·rename_i hn
    rcases b4K (P := P) fn.results.toList (fun res => b2B fn.ntmps fun ps => nE P fn.ntmps c fun b => K ⟨ps, b, res⟩) no with ⟨res, hres, h1⟩ | h1
    ·rw [h1, b1y]
     obtain ⟨C, hC, h2⟩ := b2c (P := P) fn.ntmps c (fun b => K ⟨(List.range fn.ntmps).map kS, b, res⟩)
     exact .inl ⟨⟨_, C, res⟩, ⟨fn, c, hfn, hb, by simpa using hn, rfl, hC, hres⟩, h2⟩
    ·exact .inr h1
  ·exact .inr rfl
 ·exact .inr rfl
theorem b6T {α : Type} (fs : List FuncId) (T : LT) (hT : TOk P T) (K : LT → α) : ∃ T', TOk P T' ∧ tW P fs T K = K T' := by
 induction fs generalizing T with
 | nil => exact ⟨T, hT, rfl⟩
 | cons f fs ih =>
   have e : tW P (f :: fs) T K = a2C P f (tW P fs T K) fun g => lP (kS f) fun p => sG g p T fun T => tW P fs T K := rfl
   rw [e]
   rcases b3s (P := P) f (tW P fs T K) (fun g => lP (kS f) fun p => sG g p T fun T => tW P fs T K) with ⟨g, hg, h⟩ | h
   ·rw [h, lM, zB]
    refine ih _ fun f' g' h' => ?_
    rcases b3x g (kS f) (kS f') T h' with ⟨he, rfl⟩ | h'
    ·rw [b1o he]; exact hg
    ·exact hT f' g' h'
   ·rw [h]; exact ih T hT
end Go.Ds
namespace Go.Ds
open Go.Proofs Go.Proofs.Tryz
def t64 : List Nat := [0, 1, 56, 2, 57, 49, 28, 3, 61, 58, 42, 50, 38, 29, 17, 4, 62, 47, 59, 36, 45, 43, 51, 22, 53, 39, 33, 30, 24, 18, 12, 5, 63, 55, 48, 27, 60, 41, 37, 16, 46, 35, 44, 21, 52, 32, 23, 11, 54, 26, 40, 15, 34, 20, 31, 10, 25, 14, 19, 9, 13, 8, 7, 6]
def t32 : List Nat := [0, 1, 28, 2, 29, 14, 24, 3, 30, 22, 20, 15, 25, 17, 4, 8, 31, 27, 13, 23, 21, 19, 16, 7, 26, 12, 18, 6, 11, 5, 10, 9]
noncomputable def gH : Heap := ((((((Heap.nil.cons (.cells (t64.map fun (n : Nat) => Value.int .u8 (.ofNat n)) 5 false 0 1)).cons (.cells [] 3 false 0 1)).cons (.cells [] 310 false 0 1)).cons (.cells [] 310 false 0 1)).cons (.cells ([1, 10, 100, 1000, 10000, 100000, 1000000, 10000000, 100000000, 1000000000, 10000000000, 100000000000, 1000000000000, 10000000000000, 100000000000000, 1000000000000000, 10000000000000000, 100000000000000000, 1000000000000000000, 10000000000000000000].map fun (n : Nat) => Value.int .u64 (.ofNat n)) 28 false 0 1)).cons (.cells (t32.map fun (n : Nat) => Value.int .u8 (.ofNat n)) 5 false 0 1))
theorem c5V : prog.follows .mixedOrders = true := by kernel_rfl
def b3X : Nat → Nat → List UInt8 → List UInt8
 | 0, _, acc => acc
 | f + 1, n, acc => if n < 10 then (48 + n).toUInt8 :: acc else b3X f (n / 10) ((48 + n % 10).toUInt8 :: acc)
def pF (n : Nat) : ByteArray := ⟨(b3X 100 n []).toArray⟩
theorem a5J {b : ByteArray} {n : Nat} (h : b.data.toList = b3X 100 n []) : b = pF n := by
 cases b with | mk d => cases d with | mk l => simp only at h; subst h; rfl
def b1h (r : Rs) (n : Nat) : Bool := match r with
 | .ok (.string b) _ => decide (b.data.toList = b3X 100 n [])
 | .th (.string b) _ => decide (b.data.toList = b3X 100 n [])
 | _ => false
def b7Z (v : Value) (n : Nat) : Bool := match v with
 | .tuple vs => match vs.toList with
   | [.string b, .int .i64 m] => decide (m = 0) && decide (b.data.toList = b3X 100 n [])
   | _ => false
 | _ => false
def b4W (r : Rs) (n : Nat) : Bool := match r with
 | .ok v _ => b7Z v n
 | .th v _ => b7Z v n
 | _ => false
def b4t (r : Rs) (n : Int) : Bool := match r with
 | .ok (.int .i64 m) _ => decide (m = n)
 | .th (.int .i64 m) _ => decide (m = n)
 | _ => false
noncomputable def c0W (ps : List Nat) : Bool := tW prog [168, 150, 189, 206, 242, 256, 263, 264, 265, 266, 272, 273, 274, 275, 279] .e fun T => ps.all fun x => b1h (oO T (exF prog T 4000) [] (kS 150) [.int .i64 x] gH) x
def fsP : List Nat := [168, 254, 238, 240, 186, 149, 189, 253, 268, 229, 230, 202, 203, 204, 205, 209, 267, 276, 235, 236, 237, 239, 241, 222, 243, 251, 252, 255, 247, 263, 264, 265, 266, 272, 273, 274, 275, 279]
noncomputable def tZ (ps : List Nat) : Bool := tW prog fsP .e fun T => ps.all fun x => b4W (oO T (exF prog T 4000) [] (kS 149) [.string (pF x), .int .i64 24] gH) (x ^ 24)
def fsM : List Nat := [168, 254, 238, 240, 186, 150, 151, 189, 206, 253, 268, 229, 230, 202, 203, 204, 205, 207, 209, 242, 267, 276, 235, 236, 237, 239, 241, 222, 243, 256, 251, 252, 255, 247, 263, 264, 265, 266, 272, 273, 274, 275, 279]
noncomputable def mA (ps : List (Nat × Nat)) : Bool := tW prog fsM .e fun T => ps.all fun x => b1h (oO T (exF prog T 4000) [] (kS 151) [.string (pF x.1), .string (pF x.2)] gH) (x.1 * x.2)
def sF (t : Nat × Nat) : List (Nat × Nat) := (t.1 ^ 24, 2) :: (List.range t.2).map fun k => (2 * t.1 ^ 24 * 4 ^ k, 4)
def a7Z (t : Nat × Nat × Nat) : List (Nat × Nat) := (List.range (t.2.2 + 1)).map fun k => (t.1 ^ 24, 2 * t.2.1 ^ 24 * 4 ^ k)
def b5f (a b : Nat) : Int := if a < b then -1 else if b < a then 1 else 0
noncomputable def uD (ps : List (Nat × Nat)) : Bool := tW prog [152, 208, 209, 210, 222, 243, 244, 247, 257] .e fun T => ps.all fun x => b4t (oO T (exF prog T 4000) [] (kS 152) [.string (pF x.1), .string (pF x.2)] gH) (b5f x.1 x.2)
end Go.Ds
namespace Go.Ds
open Go.RowKit Go.Proofs
section
variable {P : Program} {ρ : Rho} {H : Heap} {w : World}
theorem a4z {name : String} {g : Nat} {k : IntKind} {zs : List Int} (hg : P.globalNamed name = some g) (ht : Lib.TabIs P w name k zs) : ∃ t fr, w.heap[g]? = some (.cells (zs.map fun z => Value.int k z).toArray t fr) := by
 unfold Lib.TabIs World.var? at ht
 rw [hg, da] at ht
 split at ht
 ·rename_i cs t fr hb
  obtain rfl := cY ht
  exact ⟨t, fr, hb⟩
 ·cases ht
theorem InW.cM (h : InW P ρ H w) {name : String} {g : Nat} {k : IntKind} {zs : List Int} {ty : TypeId} (hg : P.globalNamed name = some g) (ht : Lib.TabIs P w name k zs) (hgH : g = H.length) (hty : iF P ty = some 1) :
 InW P (ρ.put H.length (zs.map fun z => Value.int k z).length ⟨g, 0, zs.length, 1⟩) (H.cons (.cells (zs.map fun z => Value.int k z) ty false 0 1)) w := by
 obtain ⟨t, fr, hb⟩ := a4z hg ht
 refine (h.row ⟨g, 0, zs.length, 1⟩ hb (ty := ty) hty (by simp) (zs.map fun z => Value.int k z) 1 (fun _ => ⟨hgH, rfl⟩) (by simp) fun i c hi _ hc => ⟨c, ?_, ?_⟩).1
 ·have : (⟨g, 0, zs.length, 1⟩ : Place).at i = i := by simp [Place.at]
  rw [this]
  simpa using hc
 ·rw [ef] at hc
  obtain ⟨z, _, rfl⟩ := dp.1 hc
  exact .c0 (.flat rfl)
end
theorem c5y : ∀ A b, iO gH A = some b → ∃ cs ty lo, b = .cells cs ty false lo 1 ∧ kI cs = true := by
 intro A b h
 unfold gH at h
 have hn : ∀ (H : Heap) (c : Blk), iO (H.cons c) A = some b → (A = H.length ∧ b = c) ∨ iO H A = some b := fun H c h => by
  by_cases he : A = H.length
  ·subst he; rw [iQ] at h; exact .inl ⟨rfl, (cY h).symm⟩
  ·have hA : A < (H.cons c).length := jG h
   rw [length_cons] at hA
   rw [jR _ (by omega)] at h
   exact .inr h
 rcases hn _ _ h with ⟨_, rfl⟩ | h
 ·exact ⟨_, _, _, rfl, by kernel_rfl⟩
 rcases hn _ _ h with ⟨_, rfl⟩ | h
 ·exact ⟨_, _, _, rfl, by kernel_rfl⟩
 rcases hn _ _ h with ⟨_, rfl⟩ | h
 ·exact ⟨_, _, _, rfl, by kernel_rfl⟩
 rcases hn _ _ h with ⟨_, rfl⟩ | h
 ·exact ⟨_, _, _, rfl, by kernel_rfl⟩
 rcases hn _ _ h with ⟨_, rfl⟩ | h
 ·exact ⟨_, _, _, rfl, by kernel_rfl⟩
 rcases hn _ _ h with ⟨_, rfl⟩ | h
 ·exact ⟨_, _, _, rfl, by kernel_rfl⟩
 ·have : A < 0 := jG h
  omega
theorem ExtW.glob {ρ ρ' : Rho} {H' : Heap} (h : ExtW ρ gH ρ' H') : Glob gH H' := ⟨h.len, fun A hA => h.old A hA, c5y⟩
def p10 : List Int := [1, 10, 100, 1000, 10000, 100000, 1000000, 10000000, 100000000, 1000000000, 10000000000, 100000000000, 1000000000000, 10000000000000, 100000000000000, 1000000000000000, 10000000000000000, 100000000000000000, 1000000000000000000, 10000000000000000000]
theorem g64 : Tryz.prog.globalNamed "math/bits.deBruijn64tab" = some 0 := by kernel_rfl
theorem qR : Tryz.prog.globalNamed "internal/strconv.uint64pow10" = some 4 := by kernel_rfl
theorem g32 : Tryz.prog.globalNamed "math/bits.deBruijn32tab" = some 5 := by kernel_rfl
theorem b9n {w : World} (h64 : Lib.TabIs Tryz.prog w "math/bits.deBruijn64tab" .u8 (t64.map Int.ofNat)) (h10 : Lib.TabIs Tryz.prog w "internal/strconv.uint64pow10" .u64 p10)
 (h32 : Lib.TabIs Tryz.prog w "math/bits.deBruijn32tab" .u8 (t32.map Int.ofNat)) (h1001 : ∃ cs t fr, w.heap[1]? = some (.cells cs t fr)) (h1002 : ∃ cs t fr, w.heap[2]? = some (.cells cs t fr)) (h1003 : ∃ cs t fr, w.heap[3]? = some (.cells cs t fr)) : ∃ ρ, InW Tryz.prog ρ gH w := by
 have a0 := (InW.none (P := Tryz.prog) w).cM g64 h64 (ty := 5) rfl (by kernel_rfl)
 obtain ⟨cs1, t1, fr1, hb1⟩ := h1001
 have a1 := (a0.row ⟨1, 0, cs1.size, 1⟩ hb1 (ty := 3) (by kernel_rfl) rfl [] 1 (fun _ => ⟨rfl, rfl⟩) (by simp) (fun i c hi => by simp at hi)).1
 obtain ⟨cs2, t2, fr2, hb2⟩ := h1002
 have a2 := (a1.row ⟨2, 0, cs2.size, 1⟩ hb2 (ty := 310) (by kernel_rfl) rfl [] 1 (fun _ => ⟨rfl, rfl⟩) (by simp) (fun i c hi => by simp at hi)).1
 obtain ⟨cs3, t3, fr3, hb3⟩ := h1003
 have a3 := (a2.row ⟨3, 0, cs3.size, 1⟩ hb3 (ty := 310) (by kernel_rfl) rfl [] 1 (fun _ => ⟨rfl, rfl⟩) (by simp) (fun i c hi => by simp at hi)).1
 have a4 := a3.cM qR h10 (ty := 28) rfl (by kernel_rfl)
 have a5 := a4.cM g32 h32 (ty := 5) rfl (by kernel_rfl)
 exact ⟨_, a5⟩
end Go.Ds
namespace Go.Ds
noncomputable section
variable {P : Program} {H0 : Base} {H : Heap} {os : List Ob} {κ β : Type} [DecidableEq κ] {enc : κ → Value} {f : β → Value} {t : TypeId} {z : Value}
structure MapK (P : Program) (t : TypeId) {κ : Type} [DecidableEq κ] (enc : κ → Value) (z : Value) : Prop where
 ex : ∃ kt et, yL P t = some (kt, et) ∧ iZ P et = some z ∧ jD z = true ∧ (∀ b k, yP P b kt (enc k) = true) ∧
  (∀ k (es : List MapEntry) (ks : List κ), es.map (·.key) = ks.map enc → rU P kt (enc k) es = some (ks.findIdx? fun x => decide (x = k))) ∧ ∀ k, Instr.sameBits 10000 (enc k) (enc k) = true
def kcs (enc : κ → Value) (f : β → Value) (kvs : List (κ × β)) : List Value := kvs.flatMap fun p => [enc p.1, f p.2]
def pW (kvs : List (κ × β)) (k : κ) : Option β := (kvs.find? fun p => decide (p.1 = k)).map (·.2)
def a0e (kvs : List (κ × β)) (k : κ) (v : β) : List (κ × β) := match kvs.findIdx? (fun p => decide (p.1 = k)) with
 | some j => kvs.set j (k, v)
 | none => kvs ++ [(k, v)]
theorem a1v : ∀ (es : List MapEntry) (kvs : List (κ × β)), kcs enc f kvs = mcs es → es.map (·.key) = kvs.map (fun p => enc p.1) ∧ es.map (·.val) = kvs.map (fun p => f p.2)
 | [], [], _ => ⟨rfl, rfl⟩
 | [], p :: kvs, h => by simp [kcs, mcs] at h
 | e :: es, [], h => by simp [kcs, mcs] at h
 | e :: es, p :: kvs, h => by
   simp only [kcs, mcs, dF, iz, fM, gb] at h
   obtain ⟨h1, h2, h3⟩ := h
   obtain ⟨h4, h5⟩ := a1v es kvs h3
   simp only [ed]
   exact ⟨by rw [h4, h1], by rw [h5, h2]⟩
theorem zX : ∀ (es : List MapEntry) (kvs : List (κ × β)), es.map (·.key) = kvs.map (fun p => enc p.1) → es.map (·.val) = kvs.map (fun p => f p.2) → kcs enc f kvs = mcs es
 | [], [], _, _ => rfl
 | [], p :: kvs, h, _ => by simp at h
 | e :: es, [], h, _ => by simp at h
 | e :: es, p :: kvs, h, h' => by
   simp only [ed, gb] at h h'
   have := zX es kvs h.2 h'.2
   simp only [kcs, mcs, dF] at this ⊢
   rw [this, h.1, h'.1]
theorem St.bO (hS : St P H0 H os) (i : Nat) {A : Nat} {cs : List Value} (ho : os[i]? = some ⟨.map (some A), 0, cs⟩) : ∃ es ck ver, iO H A = some (.map es ck ver) ∧ cs = mcs es ∧ Stamps es ck := by
 have := hS.own _ (dR ho)
 unfold OwnAt at this
 rw [if_pos rfl] at this
 rcases this with ⟨_, _, _, _, _, _, h⟩ | ⟨A', es, ck, ver, h1, h2, h3, h4⟩
 ·cases h
 ·simp only [Value.map.injEq, dE] at h3
  subst h3
  exact ⟨es, ck, ver, h1, h2, h4⟩
theorem a5Z (kvs : List (κ × β)) (k : κ) : (∃ j x, (kvs.map (·.1)).findIdx? (fun x => decide (x = k)) = some j ∧ kvs[j]? = some x ∧ kvs.find? (fun p => decide (p.1 = k)) = some x) ∨ ((kvs.map (·.1)).findIdx? (fun x => decide (x = k)) = none ∧ kvs.find? (fun p => decide (p.1 = k)) = none) := by
 induction kvs with
 | nil => exact .inr ⟨rfl, rfl⟩
 | cons p kvs ih =>
   by_cases h : p.1 = k
   ·exact .inl ⟨0, p, by simp [fj, h], rfl, by simp [h]⟩
   ·rcases ih with ⟨j, x, h1, h2, h3⟩ | ⟨h1, h2⟩
    ·exact .inl ⟨j + 1, x, by simp [fj, h, h1], by simpa using h2, by simp [h, h3]⟩
    ·exact .inr ⟨by simp [fj, h, h1], by simp [h, h2]⟩
theorem St.cU (hS : St P H0 H os) (i : Nat) {A : Nat} {kvs : List (κ × β)} (ho : os[i]? = some ⟨.map (some A), 0, kcs enc f kvs⟩) (hk : MapK P t enc z) (hf : ∀ b, mK (f b) = true) (c : Bool) (k : κ) :
 pQ P H t (.map (some A)) (enc k) c = some (pairV c (((pW kvs k).map f).getD z) (pW kvs k).isSome) := by
 obtain ⟨kt, et, h1, h2, h3, h4, h5, h6⟩ := hk.ex
 obtain ⟨es, ck, ver, h7, h8, _⟩ := hS.bO i ho
 obtain ⟨h9, h10⟩ := a1v es kvs h8
 have hi := h5 k es (kvs.map (·.1)) (by rw [h9]; simp [gI])
 simp only [pQ, h1, da, a1E, h7, h4, if_true, hi, pW]
 rcases a5Z kvs k with ⟨j, x, e1, e2, e3⟩ | ⟨e1, e3⟩
 ·have hj : es[j]?.map (·.val) = some (f x.2) := by
   rw [← ef, h10, ef, e2]; rfl
  cases he : es[j]? with
  | none => rw [he] at hj; simp at hj
  | some e =>
    rw [he] at hj
    simp only [dP, dE] at hj
    simp only [e1, he, da, hj, hf, if_true, e3, dP, eZ, Option.isSome_some]
 ·simp only [e1, e3, Option.map_none, Option.getD_none, Option.isSome_none, h2, da, h3, if_true]
def a0Z (P : Program) (H : Heap) (t : TypeId) (x k : Value) (c : Bool) (K : Value → Prop) (_k : Keep K := ⟨⟩) : Prop := ∃ v, pQ P H t x k c = some v ∧ K v
theorem a6V {t : TypeId} {x x' k k' : Value} {c : Bool} {K : Value → Prop} (h : x = x') (h2 : k = k') : a0Z P H t x k c K = a0Z P H t x' k' c K := by rw [h, h2]
attribute [congr] a6V
theorem a8P (d ty pos af g) (t : TypeId) (x k : Operand) (c : Bool) (l : List Value) (K : Value → Heap → Prop) :
 lV P ⟨d, .lookup t x k c, ty, pos, af, g⟩ l H K = jM x l fun x => jM k l fun k => a0Z P H t x k c fun v => K v H := by
 have h2 : jZ ((pQ P H t (ev l x) (ev l k) c).map fun v => (v, H)) K = ∃ v, pQ P H t (ev l x) (ev l k) c = some v ∧ K v H := by
  cases pQ P H t (ev l x) (ev l k) c <;> simp [jZ]
 simp only [lV, opD, jM, Op.operands, a0Z, h2]
 simp [and_assoc]
theorem St.bz (hS : St P H0 H os) (i : Nat) {A : Nat} {kvs : List (κ × β)} (ho : os[i]? = some ⟨.map (some A), 0, kcs enc f kvs⟩) (hk : MapK P t enc z) (hf : ∀ b, mK (f b) = true) {c : Bool} {k : κ} {K : Value → Prop}
 (h : K (pairV c (((pW kvs k).map f).getD z) (pW kvs k).isSome)) : a0Z P H t (.map (some A)) (enc k) c K := ⟨_, hS.cU i ho hk hf c k, h⟩
def a5T (P : Program) (H : Heap) (t : TypeId) (K : Value → Heap → Prop) (_k : Keep K := ⟨⟩) : Prop := ∃ v H1, pY P H t none = some (v, H1) ∧ K v H1
theorem a6S (d ty pos af g) (t : TypeId) (l : List Value) (K : Value → Heap → Prop) : lV P ⟨d, .makeMap t none, ty, pos, af, g⟩ l H K = a5T P H t K := by
 simp only [lV, opD, Op.operands, a5T, mX]
 simp
theorem St.bP (hS : St P H0 H os) (hk : MapK P t enc z) {K : Value → Heap → Prop} (h : ∀ A H1, St P H0 H1 (os ++ [⟨.map (some A), 0, []⟩]) → K (.map (some A)) H1) : a5T P H t K := by
 obtain ⟨kt, et, h1, _⟩ := hk.ex
 refine ⟨.map (some H.length), H.cons (.map [] 0 0), by simp [pY, h1], h _ _ (hS.add ?_ ?_ ?_ ?_)⟩
 ·unfold OwnAt
  rw [if_pos rfl]
  exact .inr ⟨_, [], 0, 0, iQ H _, rfl, rfl, .nil 0⟩
 ·simp [pR]
 ·exact fun B hB => jR _ hB
 ·intro B hB
  simp [kJ] at hB
  omega
def b7I (P : Program) (H : Heap) (t : TypeId) (m k v : Value) (K : Heap → Prop) (_k : Keep K := ⟨⟩) : Prop := ∃ H1, a1k P H t m k v = some H1 ∧ K H1
theorem a8Q {t : TypeId} {m m' k k' v v' : Value} {K : Heap → Prop} (h : m = m') (h2 : k = k') (h3 : v = v') : b7I P H t m k v K = b7I P H t m' k' v' K := by rw [h, h2, h3]
attribute [congr] a8Q
theorem a3B (d ty pos af g) (t : TypeId) (m k v : Operand) (l : List Value) (K : Value → Heap → Prop) :
 lV P ⟨d, .mapUpdate t m k v, ty, pos, af, g⟩ l H K = jM m l fun m => jM k l fun k => jM v l fun v => b7I P H t m k v fun H1 => K undef H1 := by
 have h2 : jZ ((a1k P H t (ev l m) (ev l k) (ev l v)).map fun H => (undef, H)) K = ∃ H1, a1k P H t (ev l m) (ev l k) (ev l v) = some H1 ∧ K undef H1 := by
  cases a1k P H t (ev l m) (ev l k) (ev l v) <;> simp [jZ]
 simp only [lV, opD, jM, Op.operands, b7I, h2]
 simp [and_assoc]
theorem a1o (kvs : List (κ × β)) (k : κ) (v : β) : a0e kvs k v = match (kvs.map (·.1)).findIdx? (fun x => decide (x = k)) with | some j => kvs.set j (k, v) | none => kvs ++ [(k, v)] := by
 unfold a0e
 rw [List.findIdx?_map]
 rfl
theorem St.cg (hS : St P H0 H os) (i : Nat) {A : Nat} {kvs : List (κ × β)} (ho : os[i]? = some ⟨.map (some A), 0, kcs enc f kvs⟩) (hk : MapK P t enc z) {k : κ} {v : β} {K : Heap → Prop}
 (h : ∀ H1, St P H0 H1 (os.set i ⟨.map (some A), 0, kcs enc f (a0e kvs k v)⟩) → K H1) : b7I P H t (.map (some A)) (enc k) (f v) K := by
 obtain ⟨kt, et, h1, h2, h3, h4, h5, h6⟩ := hk.ex
 obtain ⟨es, ck, ver, h7, h8, hst⟩ := hS.bO i ho
 obtain ⟨h9, h10⟩ := a1v es kvs h8
 have hi := h5 k es (kvs.map (·.1)) (by rw [h9]; simp [gI])
 have fin : ∀ es' ck', mcs es' = kcs enc f (a0e kvs k v) → Stamps es' ck' → St P H0 (hset H A (.map es' ck' (ver + 1))) (os.set i ⟨.map (some A), 0, kcs enc f (a0e kvs k v)⟩) := by
  intro es' ck' he hst'
  refine hS.put i ho ?_ ?_ ?_ ?_
  ·unfold OwnAt
   rw [if_pos rfl]
   exact .inr ⟨A, es', ck', _, iR _ (jG h7), he.symm, rfl, hst'⟩
  ·rw [jA]; exact di _
  ·intro B hB hne
   exact pX fun hh => hne (by simp [kJ, hh])
  ·exact fun B hB => .inl hB
 rcases a5Z kvs k with ⟨j, x, e1, e2, _⟩ | ⟨e1, _⟩
 ·have hj : es[j]?.map (·.key) = some (enc x.1) := by
   rw [← ef, h9, ef, e2]; rfl
  have hx : x.1 = k := by
   have := fZ.1 e1
   obtain ⟨hlt, hd, _⟩ := this
   have hlt' : j < kvs.length := by simpa using hlt
   have : kvs[j] = x := by
    rw [dr hlt'] at e2
    exact cY e2
   simp [this] at hd
   exact hd
  cases he : es[j]? with
  | none => rw [he] at hj; simp at hj
  | some e =>
    rw [he] at hj
    simp only [dP, dE] at hj
    refine ⟨hset H A (.map (es.set j { e with key := enc k, val := f v }) ck (ver + 1)), ?_, h _ (fin _ _ ?_ (hst.set he _ rfl))⟩
    ·have hsb : Instr.sameBits 10000 e.key (enc k) = true := by rw [hj, hx]; exact h6 k
     simp only [a1k, h1, da, h7, h4, if_true, hi, e1, he, hsb]
    ·symm
     rw [a1o, e1]
     refine zX _ _ ?_ ?_
     ·rw [fR, fR, h9]
     ·rw [fR, fR, h10]
 ·refine ⟨hset H A (.map (es ++ [{ key := enc k, val := f v, born := ck }]) (ck + 1) (ver + 1)), ?_, h _ (fin _ _ ?_ (hst.push _ rfl))⟩
  ·simp only [a1k, h1, da, h7, h4, if_true, hi, e1]
  ·symm
   rw [a1o, e1]
   refine zX _ _ ?_ ?_
   ·rw [dy, dy, h9]; rfl
   ·rw [dy, dy, h10]; rfl
def b4E (P : Program) (H : Heap) (t : TypeId) (m k : Value) (K : Value → Heap → Prop) (_k : Keep K := ⟨⟩) : Prop := ∃ v H1, rG P H t m k = some (v, H1) ∧ K v H1
theorem b0h {t : TypeId} {m m' k k' : Value} {K : Value → Heap → Prop} (h : m = m') (h2 : k = k') : b4E P H t m k K = b4E P H t m' k' K := by rw [h, h2]
attribute [congr] b0h
def a4b (H : Heap) (m b v : Value) (K : Heap → Prop) (_k : Keep K := ⟨⟩) : Prop := ∃ H1, rE H m b v = some H1 ∧ K H1
theorem a8g {m m' b b' v v' : Value} {K : Heap → Prop} (h : m = m') (h2 : b = b') (h3 : v = v') : a4b H m b v K = a4b H m' b' v' K := by rw [h, h2, h3]
attribute [congr] a8g
theorem a6e (d ty pos af g) (t : TypeId) (m k : Operand) (l : List Value) (K : Value → Heap → Prop) :
 lV P ⟨d, .mapEntry t m k, ty, pos, af, g⟩ l H K = jM m l fun m => jM k l fun k => b4E P H t m k K := by
 have h2 : jZ (rG P H t (ev l m) (ev l k)) K = ∃ v H1, rG P H t (ev l m) (ev l k) = some (v, H1) ∧ K v H1 := mX ..
 simp only [lV, opD, jM, Op.operands, b4E, h2]
 simp [and_assoc]
theorem a2S (d ty pos af g) (t : TypeId) (m b v : Operand) (l : List Value) (K : Value → Heap → Prop) :
 lV P ⟨d, .entryStore t m b v, ty, pos, af, g⟩ l H K = jM m l fun m => jM b l fun b => jM v l fun v => a4b H m b v fun H1 => K undef H1 := by
 have h2 : jZ ((rE H (ev l m) (ev l b) (ev l v)).map fun H => (undef, H)) K = ∃ H1, rE H (ev l m) (ev l b) (ev l v) = some H1 ∧ K undef H1 := by
  cases rE H (ev l m) (ev l b) (ev l v) <;> simp [jZ]
 simp only [lV, opD, jM, Op.operands, a4b, h2]
 simp [and_assoc]
theorem zN (kvs : List (κ × β)) (k k' : κ) (v : β) : pW (a0e kvs k v) k' = if k' = k then some v else pW kvs k' := by
 unfold pW a0e
 induction kvs with
 | nil =>
   by_cases h : k' = k
   ·simp [h]
   ·simp [h, eH h]
 | cons p kvs ih =>
   by_cases hp : p.1 = k
   ·simp only [fj, hp, decide_true, if_true, fA, List.find?_cons]
    by_cases h : k' = k
    ·simp [h]
    ·simp [h, eH h]
   ·have hd : decide (p.1 = k) = false := by simp [hp]
    simp only [fj, hd, dW, if_false]
    by_cases hq : p.1 = k'
    ·have hne : ¬ k' = k := fun e => hp (hq.trans e)
     cases hh : kvs.findIdx? (fun p => decide (p.1 = k)) with
     | none => simp [hq, hne]
     | some j => simp [hq, hne]
    ·cases hh : kvs.findIdx? (fun p => decide (p.1 = k)) with
     | none =>
       rw [hh] at ih
       simpa [hq, List.find?_cons] using ih
     | some j =>
       rw [hh] at ih
       simpa [hq, List.find?_cons] using ih
end
end Go.Ds
namespace Go.Ds
noncomputable section
variable {P : Program} {H : Heap}
theorem kL {α : Type} (P : Program) (x : α) : iP P (pure x) = some x := rfl
theorem jU {t : TypeId} {d : TypeDesc} (h : P.underlying t = some d) : iP P (underlying t) = some d := by
 unfold underlying
 rw [iN]
 have : iP P program = some P := rfl
 rw [this, da, h]
 rfl
def lH : Operand → Bool
 | .const _ => true
 | _ => false
def pB (c : Bool) (i : Nat) (v : Value) : Operand := if c then .const v else .tmp i
def kV (P : Program) (op : BinOp) (t t2 : TypeId) (cx cy : Bool) (x y : Value) : Option Value := (opD P ⟨none, .binOp op t (pB cx 0 x) (pB cy 1 y) t2, t, "", #[], none⟩ [x, y] .nil).map (·.1)
def lC (P : Program) (op : BinOp) (t t2 : TypeId) (cx cy : Bool) (x y : Value) (K : Value → Prop) (_k : Keep K := ⟨⟩) : Prop := match x, y with
 | .int k a, .int k' b => (match (if k = k' then mT op k a b else none) with | some v => K v | none => jV (kV P op t t2 cx cy (.int k a) (.int k' b)) K)
 | x, y => jV (kV P op t t2 cx cy x y) K
theorem a6E {op : BinOp} {t t2 : TypeId} {cx cy : Bool} {x x' y y' : Value} {K : Value → Prop} (h : x = x') (h2 : y = y') : lC P op t t2 cx cy x y K = lC P op t t2 cx cy x' y' K := by rw [h, h2]
attribute [congr] a6E
theorem a9t (x : Operand) (l m : List Value) : ev (ev l x :: m) (pB (lH x) 0 (ev l x)) = ev l x := by cases x <;> rfl
theorem b0B (x : Operand) (l m : List Value) (a : Value) : ev (a :: ev l x :: m) (pB (lH x) 1 (ev l x)) = ev l x := by cases x <;> rfl
theorem b6y (op : BinOp) (t : TypeId) (x y : Operand) (l : List Value) : eqGuard op t x y (ev l x) (ev l y) = eqGuard op t (pB (lH x) 0 (ev l x)) (pB (lH y) 1 (ev l y)) (ev l x) (ev l y) := by
 generalize hx : ev l x = vx
 generalize hy : ev l y = vy
 cases x <;> cases y <;> rfl
theorem c0p (d ty pos af g) (op : BinOp) (t : TypeId) (x y : Operand) (t2 : TypeId) (l : List Value) (H : Heap) :
 opD P ⟨d, .binOp op t x y t2, ty, pos, af, g⟩ l H = (kV P op t t2 (lH x) (lH y) (ev l x) (ev l y)).map fun v => (v, H) := by
 have hp : kQ P ⟨d, .binOp op t x y t2, ty, pos, af, g⟩ l H = _ := nB (P := P) ⟨d, .binOp op t x y t2, ty, pos, af, g⟩ ⟨none, .binOp op t (pB (lH x) 0 (ev l x)) (pB (lH y) 1 (ev l y)) t2, t, "", #[], none⟩ l [ev l x, ev l y] H
  (by simp only [Op.operands, ed, fI, a9t, b0B]) (by
    simp only [execOp]
    rw [a9t, b0B, ← b6y])
 simp only [opD, kV, hp, a9t, b0B]
 generalize kQ P _ _ _ = r
 generalize ev l x = vx
 generalize ev l y = vy
 split
 all_goals first
  | (split <;> first | rfl | (split <;> first | rfl | (cases r <;> rfl)) | (cases r <;> rfl))
  | (cases r <;> rfl)
theorem b4X (d ty pos af g) (op : BinOp) (t : TypeId) (x y : Operand) (t2 : TypeId) (l : List Value) (K : Value → Heap → Prop) :
 lV P ⟨d, .binOp op t x y t2, ty, pos, af, g⟩ l H K = jM x l fun x' => jM y l fun y' => lC P op t t2 (lH x) (lH y) x' y' fun v => K v H := by
 have h : jZ (opD P ⟨d, .binOp op t x y t2, ty, pos, af, g⟩ l H) K = lC P op t t2 (lH x) (lH y) (ev l x) (ev l y) fun v => K v H := by
  have key : jZ ((kV P op t t2 (lH x) (lH y) (ev l x) (ev l y)).map fun v => (v, H)) K = jV (kV P op t t2 (lH x) (lH y) (ev l x) (ev l y)) fun v => K v H := by
   cases kV P op t t2 (lH x) (lH y) (ev l x) (ev l y) <;> rfl
  rw [c0p, key]
  unfold lC
  split
  ·rename_i k a k' b hx hy
   split
   ·rename_i v hv
    split at hv
    ·rename_i hk
     subst hk
     have : kV P op t t2 (lH x) (lH y) (.int k a) (.int k b) = some v := by
      have h1 : ∀ m, ev ((.int k a : Value) :: m) (pB (lH x) 0 (.int k a)) = .int k a := fun m => by cases lH x <;> rfl
      have h2 : ∀ m c, ev (c :: (.int k b : Value) :: m) (pB (lH y) 1 (.int k b)) = .int k b := fun m c => by cases lH y <;> rfl
      cases op <;> simp only [mT] at hv <;> first | (cases hv; done) | (simp only [kV, opD, h1, h2, mT, if_true, hv]; rfl)
     rw [hx, hy, this]
     rfl
    ·cases hv
   ·rw [hx, hy]
  ·rfl
 simp only [lV, h, jM, Op.operands]
 simp [and_assoc]
theorem lW (op : BinOp) (t t2 : TypeId) (cx cy : Bool) (k : IntKind) (a b : Int) {v : Value} (K : Value → Prop) (h : mT op k a b = some v) : lC P op t t2 cx cy (.int k a) (.int k b) K = oL v K := by
 simp [lC, h, oL]
section
theorem b3N (t t2 : TypeId) (cx cy : Bool) (k : IntKind) (a b : Int) (K : Value → Prop) : lC P .add t t2 cx cy (.int k a) (.int k b) K = oL (.int k (k.wrap (a + b))) K := lW _ _ _ _ _ _ _ _ _ (by simp [mT, b1v, uU])
theorem b2V (t t2 : TypeId) (cx cy : Bool) (k : IntKind) (a b : Int) (K : Value → Prop) : lC P .sub t t2 cx cy (.int k a) (.int k b) K = oL (.int k (k.wrap (a - b))) K := lW _ _ _ _ _ _ _ _ _ (by simp [mT, b0V, uU])
theorem b2J (t t2 : TypeId) (cx cy : Bool) (k : IntKind) (a b : Int) (K : Value → Prop) : lC P .mul t t2 cx cy (.int k a) (.int k b) K = oL (.int k (k.wrap (a * b))) K := lW _ _ _ _ _ _ _ _ _ (by simp [mT, uU])
theorem b3J (t t2 : TypeId) (cx cy : Bool) (k : IntKind) (a b : Int) (K : Value → Prop) : lC P .eql t t2 cx cy (.int k a) (.int k b) K = oL (.bool (decide (a = b))) K := lW _ _ _ _ _ _ _ _ _ (by simp [mT, a1N]; rfl)
theorem b3M (t t2 : TypeId) (cx cy : Bool) (k : IntKind) (a b : Int) (K : Value → Prop) : lC P .neq t t2 cx cy (.int k a) (.int k b) K = oL (.bool (decide (¬ a = b))) K := lW _ _ _ _ _ _ _ _ _ (by simp [mT, a1N]; rfl)
theorem b4i (t t2 : TypeId) (cx cy : Bool) (k : IntKind) (a b : Int) (K : Value → Prop) : lC P .lss t t2 cx cy (.int k a) (.int k b) K = oL (.bool (decide (a < b))) K := lW _ _ _ _ _ _ _ _ _ (by simp [mT, a0w])
theorem b2U (t t2 : TypeId) (cx cy : Bool) (k : IntKind) (a b : Int) (K : Value → Prop) : lC P .leq t t2 cx cy (.int k a) (.int k b) K = oL (.bool (decide (a ≤ b))) K := lW _ _ _ _ _ _ _ _ _ (by simp [mT, a0w, ← Int.not_lt])
theorem b3z (t t2 : TypeId) (cx cy : Bool) (k : IntKind) (a b : Int) (K : Value → Prop) : lC P .gtr t t2 cx cy (.int k a) (.int k b) K = oL (.bool (decide (b < a))) K := lW _ _ _ _ _ _ _ _ _ (by simp [mT, a0w])
theorem b2n (t t2 : TypeId) (cx cy : Bool) (k : IntKind) (a b : Int) (K : Value → Prop) : lC P .geq t t2 cx cy (.int k a) (.int k b) K = oL (.bool (decide (b ≤ a))) K := lW _ _ _ _ _ _ _ _ _ (by simp [mT, a0w, ← Int.not_lt])
theorem b2R (t t2 : TypeId) (cx cy : Bool) (k : IntKind) (a b : Int) (K : Value → Prop) (hb : b ≠ 0) : lC P .rem t t2 cx cy (.int k a) (.int k b) K = oL (.int k (a.tmod b)) K := lW _ _ _ _ _ _ _ _ _ (by
 have : (b == 0) = false := by simp [hb]
 simp [mT, a1N, this])
theorem b3a (t t2 : TypeId) (cx cy : Bool) (k : IntKind) (a b : Int) (K : Value → Prop) (hb : b ≠ 0) : lC P .quo t t2 cx cy (.int k a) (.int k b) K = oL (.int k (k.wrap (a.tdiv b))) K := lW _ _ _ _ _ _ _ _ _ (by
 have : (b == 0) = false := by simp [hb]
 simp [mT, a1N, uU, this])
end
theorem lN {op : BinOp} {t t2 : TypeId} {cx cy : Bool} {x y v : Value} (hx : flat x = true) (hy : flat y = true) (hg : iP P (eqGuard op t (pB cx 0 x) (pB cy 1 y) x y) = some ())
 (hv : iP P (binOp op t x y) = some v) (hf : flat v = true) (hs : ∀ a n c, x ≠ .slice (some a) n c) (hp : ∀ a, x ≠ .pointer (some a)) (hi : ∀ k a b, x = .int k a → y = .int k b → mT op k a b = none) : kV P op t t2 cx cy x y = some v := by
 have h1 : ∀ m, ev (x :: m) (pB cx 0 x) = x := fun m => by cases cx <;> rfl
 have h2 : ∀ m c, ev (c :: y :: m) (pB cy 1 y) = y := fun m c => by cases cy <;> rfl
 have hpl : kQ P ⟨none, .binOp op t (pB cx 0 x) (pB cy 1 y) t2, t, "", #[], none⟩ [x, y] .nil = some (v, .nil) := by
  unfold kQ
  rw [if_pos (by simp [Op.operands, h1, h2, hx, hy])]
  have : execOp (ev [x, y]) ⟨none, .binOp op t (pB cx 0 x) (pB cy 1 y) t2, t, "", #[], none⟩ = (do let v ← (do eqGuard op t (pB cx 0 x) (pB cy 1 y) x y; binOp op t x y); pure (.value v)) := by
   simp only [execOp, h1, h2]
  rw [this, iN, iN, hg, da, hv, da, kL]
  simp only [hf, if_true]
 simp only [kV, opD, h1, h2, hpl]
 split
 ·exact absurd rfl (hs _ _ _)
 ·exact absurd rfl (hs _ _ _)
 ·rename_i k a k' b
  split
  ·rename_i hk
   subst hk
   rw [hi _ _ _ rfl rfl]
   rfl
  ·rfl
 ·exact absurd rfl (hp _)
 ·exact absurd rfl (hp _)
 ·exact absurd rfl (hp _)
 ·exact absurd rfl (hp _)
 ·rfl
theorem qT {op : BinOp} {t : TypeId} {x y : Operand} {k k' : IntKind} {a b : Int} : iP P (eqGuard op t x y (.int k a) (.int k' b)) = some () := by
 unfold eqGuard
 split <;> rfl
section
theorem b6L (t t2 : TypeId) (cx cy : Bool) (a b : Int) {k k' : IntKind} (hb : 0 ≤ b) : kV P .shr t t2 cx cy (.int k a) (.int k' b) = some (.int k (a.fdiv (2 ^ (min b.toNat k.bits)))) :=
 lN rfl rfl qT (by simp only [binOp, Op.shift]; rw [if_neg (by omega)]; rfl) rfl (by simp) (by simp) (by intros; rfl)
theorem b5U (t t2 : TypeId) (cx cy : Bool) (a b : Int) {k k' : IntKind} (hb : 0 ≤ b) : kV P .shl t t2 cx cy (.int k a) (.int k' b) = some (.int k (k.wrap (a * 2 ^ (min b.toNat k.bits)))) :=
 lN rfl rfl qT (by simp only [binOp, Op.shift]; rw [if_neg (by omega)]; rfl) rfl (by simp) (by simp) (by intros; rfl)
theorem b4V (t t2 : TypeId) (cx cy : Bool) (a b : Int) (k : IntKind) : kV P .and t t2 cx cy (.int k a) (.int k b) = some (.int k (k.wrap (BitVec.ofInt k.bits a &&& BitVec.ofInt k.bits b).toNat)) :=
 lN rfl rfl qT (by simp only [binOp]; rw [if_neg (by simp)]; rfl) rfl (by simp) (by simp) (by intros; rfl)
theorem b8N (t t2 : TypeId) (cx cy : Bool) (a b : Int) (k : IntKind) : kV P .or t t2 cx cy (.int k a) (.int k b) = some (.int k (k.wrap (BitVec.ofInt k.bits a ||| BitVec.ofInt k.bits b).toNat)) :=
 lN rfl rfl qT (by simp only [binOp]; rw [if_neg (by simp)]; rfl) rfl (by simp) (by simp) (by intros; rfl)
theorem b5v (t t2 : TypeId) (cx cy : Bool) (a b : Int) (k : IntKind) : kV P .xor t t2 cx cy (.int k a) (.int k b) = some (.int k (k.wrap (BitVec.ofInt k.bits a ^^^ BitVec.ofInt k.bits b).toNat)) :=
 lN rfl rfl qT (by simp only [binOp]; rw [if_neg (by simp)]; rfl) rfl (by simp) (by simp) (by intros; rfl)
theorem a6T (t t2 : TypeId) (cx cy : Bool) (a b : Int) (k : IntKind) : kV P .andNot t t2 cx cy (.int k a) (.int k b) = some (.int k (k.wrap (BitVec.ofInt k.bits a &&& ~~~ BitVec.ofInt k.bits b).toNat)) :=
 lN rfl rfl qT (by simp only [binOp]; rw [if_neg (by simp)]; rfl) rfl (by simp) (by simp) (by intros; rfl)
end
section
variable (a b : ByteArray)
theorem a0D {op : BinOp} {t : TypeId} {x y : Operand} : iP P (eqGuard op t x y (.string a) (.string b)) = some () := by
 unfold eqGuard
 split <;> rfl
theorem a0M (h : a.data.toList = b.data.toList) : a = b := by
 cases a; cases b
 simp only [ByteArray.mk.injEq]
 exact Array.toList_inj.1 h
theorem a2B : (a.toList == b.toList) = decide (a = b) := by
 rw [ByteArray.toList_eq, ByteArray.toList_eq, eM, beq_iff_eq, decide_eq_true_iff]
 exact ⟨a0M a b, fun h => by rw [h]⟩
theorem a9g (t t2 : TypeId) (cx cy : Bool) (a b : ByteArray) : kV P .eql t t2 cx cy (.string a) (.string b) = some (.bool (decide (a = b))) :=
 lN rfl rfl (a0D a b) (by rw [← a2B]; rfl) rfl (by simp) (by simp) (by intro _ _ _ h; cases h)
theorem b0d (t t2 : TypeId) (cx cy : Bool) (a b : ByteArray) : kV P .neq t t2 cx cy (.string a) (.string b) = some (.bool (decide (¬ a = b))) :=
 lN rfl rfl (a0D a b) (by
  have : decide (¬ a = b) = !(a.toList == b.toList) := by rw [a2B]; simp
  rw [this]; rfl) rfl (by simp) (by simp) (by intro _ _ _ h; cases h)
theorem a7J (t t2 : TypeId) (cx cy : Bool) (a b : ByteArray) (h : a.size + b.size < 9223372036854775808) : kV P .add t t2 cx cy (.string a) (.string b) = some (.string (a ++ b)) :=
 lN rfl rfl (a0D a b) (by
  simp only [binOp, Op.stringOp]
  rw [if_neg]
  ·rfl
  ·have : IntKind.i64.max = 9223372036854775807 := by decide
   rw [this]; omega) rfl (by simp) (by simp) (by intro _ _ _ h; cases h)
end
theorem b4J {t : TypeId} (s : ByteArray) (ht : oX P t = true) : a0d P H t (.string s) = some (.int .i64 s.size) := by
 unfold oX at ht
 unfold a0d
 split at ht
 ·rename_i h; rw [h]; simp [wV, goInt]
 ·cases ht
def pI (P : Program) (t : TypeId) (x i : Value) : Option Value := (opD P ⟨none, .index t (.const x) (.const i), t, "", #[], none⟩ [] .nil).map (·.1)
theorem b3e (d ty pos af g) (t : TypeId) (x i : Operand) (l : List Value) (K : Value → Heap → Prop) :
 lV P ⟨d, .index t x i, ty, pos, af, g⟩ l H K = jM x l fun x => jM i l fun i => jV (pI P t x i) fun v => K v H := by
 have h : opD P ⟨d, .index t x i, ty, pos, af, g⟩ l H = (pI P t (ev l x) (ev l i)).map fun v => (v, H) := by
  have hp := nB (P := P) ⟨d, .index t x i, ty, pos, af, g⟩ ⟨none, .index t (.const (ev l x)) (.const (ev l i)), t, "", #[], none⟩ l [] H rfl rfl
  simp only [opD, pI]
  exact hp
 have h2 : jZ ((pI P t (ev l x) (ev l i)).map fun v => (v, H)) K = jV (pI P t (ev l x) (ev l i)) fun v => K v H := by cases pI P t (ev l x) (ev l i) <;> rfl
 simp only [lV, h, jM, Op.operands, h2]
 simp [and_assoc]
def oN (s : ByteArray) (i : Nat) : Nat := (s.data.toList.getD i 0).toNat
theorem b0I {t : TypeId} (s : ByteArray) (k : IntKind) (i : Int) (ht : oX P t = true) (h0 : 0 ≤ i) (h1 : i < s.size) : pI P t (.string s) (.int k i) = some (.int .u8 (oN s i.toNat)) := by
 have hu : P.underlying t = some .string := by
  unfold oX at ht
  split at ht
  ·rename_i h; exact h
  ·cases ht
 have hr : iP P (Instr.index t (.string s) (.int k i)) = some (.int .u8 (oN s i.toNat)) := by
  unfold Instr.index
  rw [iN]
  have e1 : iP P (asIntOf (.int k i)) = some (k, i) := rfl
  rw [e1, da]
  simp only [iN, jU hu, da]
  rw [if_pos h0]
  have hlt : i.toNat < s.size := by omega
  have hb : s[i.toNat]? = some s[i.toNat] := by simp [getElem?_pos, hlt]
  simp only [hb]
  rw [kL]
  congr 3
  unfold oN
  rw [de]
  have hl : i.toNat < s.data.toList.length := by simpa using hlt
  rw [dr hl]
  rfl
 have hpl : kQ P ⟨none, .index t (.const (.string s)) (.const (.int k i)), t, "", #[], none⟩ [] .nil = some (.int .u8 (oN s i.toNat), .nil) := by
  unfold kQ
  rw [if_pos (by rfl)]
  have : execOp (ev []) ⟨none, .index t (.const (.string s)) (.const (.int k i)), t, "", #[], none⟩ = (do let v ← Instr.index t (.string s) (.int k i); pure (.value v)) := rfl
  rw [this, iN, hr, da, kL]
  rfl
 simp only [pI, opD, hpl]
 rfl
def a1g (P : Program) (t : TypeId) : Option IntKind := match P.underlying t with | some (.int k) => some k | _ => none
theorem a0l {t : TypeId} {k : IntKind} (h : a1g P t = some k) : P.underlying t = some (.int k) := by
 unfold a1g at h
 split at h
 ·rename_i h2; rw [h2]; injection h with h; rw [h]
 ·cases h
theorem b3g {s t : TypeId} {k k' : IntKind} (a : Int) (hs : a1g P s = some k) (ht : a1g P t = some k') : a2W P s t (.int k a) = some (.int k' (k'.wrap a)) := by
 have hr : iP P (convert s t (.int k a)) = some (.int k' (k'.wrap a)) := by
  unfold convert
  simp only [iN, jU (a0l hs), jU (a0l ht), da]
  rfl
 have hpl : kQ P ⟨none, .convert s t (.const (.int k a)), t, "", #[], none⟩ [] .nil = some (.int k' (k'.wrap a), .nil) := by
  unfold kQ
  rw [if_pos (by rfl)]
  have : execOp (ev []) ⟨none, .convert s t (.const (.int k a)), t, "", #[], none⟩ = (do let v ← convert s t (.int k a); pure (.value v)) := rfl
  rw [this, iN, hr, da, kL]
  rfl
 simp only [a2W, hpl]
 rfl
def a6f (P : Program) (d : Nat) (xs ys : Array Value) (fs : List Field) : Option Bool :=
 (iP P (forIn fs ((none, ()) : Option Bool × Unit) fun f _ =>
   if f.name ≠ "_" then do
    let a ← part f.type xs f.offset
    let b ← part f.type ys f.offset
    let c ← Op.equalIn d f.type a b
    if (!c) = true then pure (ForInStep.done (some false, ())) else pure (ForInStep.yield (none, ()))
   else pure (ForInStep.yield (none, ())))).bind fun x => iP P (match x.fst with | some r => pure r | none => pure true)
theorem a1V {d : Nat} {xs ys : Array Value} (g : Field → Bool) : ∀ (fs : List Field), (∀ f ∈ fs, f.name ≠ "_" ∧ iP P (part f.type xs f.offset >>= fun x => part f.type ys f.offset >>= fun y => Op.equalIn d f.type x y) = some (g f)) →
 a6f P d xs ys fs = some (fs.all g)
 | [], _ => rfl
 | f :: fs, hg => by
   obtain ⟨h1, h2⟩ := hg f (dS ..)
   have ih := a1V g fs fun f' h => hg f' (ey _ h)
   unfold a6f at ih ⊢
   rw [iN] at h2
   simp only [List.forIn_cons, h1, ne_eq, not_false_eq_true, if_true, iN]
   cases hx : iP P (part f.type xs f.offset) with
   | none => rw [hx] at h2; cases h2
   | some x =>
     rw [hx, da, iN] at h2
     cases hy : iP P (part f.type ys f.offset) with
     | none => rw [hy] at h2; cases h2
     | some y =>
       rw [hy, da] at h2
       simp only [da, h2]
       cases hgf : g f with
       | false =>
         simp only [Bool.not_false, if_true, kL, da, fE, hgf, fw]
       | true =>
         simp only [Bool.not_true, dW, if_false, kL, da, fE, hgf, gj]
         exact ih
theorem b4H {d : Nat} {t : TypeId} {fs : List Field} {xs ys : Array Value} (hu : P.underlying t = some (.struct fs.toArray)) (hst : P.stoodInHeld t = false) (g : Field → Bool)
 (hg : ∀ f ∈ fs, f.name ≠ "_" ∧ iP P (part f.type xs f.offset >>= fun x => part f.type ys f.offset >>= fun y => Op.equalIn d f.type x y) = some (g f)) : iP P (Op.equalIn (d + 1) t (.agg xs) (.agg ys)) = some (fs.all g) := by
 rw [Op.equalIn, iN, jU hu, da]
 have hp : iP P program = some P := rfl
 simp only [iN, hp, da, hst, dW, if_false, List.forIn_toArray]
 refine Eq.trans ?_ (a1V g fs hg)
 unfold a6f
 congr 1
 funext x
 cases x.fst <;> rfl
theorem a4s {op : BinOp} {t : TypeId} (ht : P.eqGuardType P.depth t = false) {x y : Operand} {a b : Array Value} : iP P (eqGuard op t x y (.agg a) (.agg b)) = some () := by
 have hp : iP P program = some P := rfl
 unfold eqGuard
 cases op <;> simp [iN, hp, ht, kL]
theorem b5M {t t2 : TypeId} {cx cy : Bool} {xs ys : List Value} (b : Bool) (ht : P.eqGuardType P.depth t = false) (hx : xs.all jC = true) (hy : ys.all jC = true) (h : iP P (Op.equalIn (9999 + 1) t (.agg xs.toArray) (.agg ys.toArray)) = some b) :
 kV P .eql t t2 cx cy (.agg xs.toArray) (.agg ys.toArray) = some (.bool b) :=
 lN (by simp [flat, jD, kI, hx]) (by simp [flat, jD, kI, hy]) (a4s ht) (by
  have hmd : Op.maxDepth = 9999 + 1 := by decide
  simp only [binOp, iN, Op.equal]
  rw [hmd, h, da, kL]) rfl (by simp) (by simp) (by intro _ _ _ h; cases h)
theorem b6d {t t2 : TypeId} {cx cy : Bool} {xs ys : List Value} (b : Bool) (ht : P.eqGuardType P.depth t = false) (hx : xs.all jC = true) (hy : ys.all jC = true) (h : iP P (Op.equalIn (9999 + 1) t (.agg xs.toArray) (.agg ys.toArray)) = some b) :
 kV P .neq t t2 cx cy (.agg xs.toArray) (.agg ys.toArray) = some (.bool (!b)) :=
 lN (by simp [flat, jD, kI, hx]) (by simp [flat, jD, kI, hy]) (a4s ht) (by
  have hmd : Op.maxDepth = 9999 + 1 := by decide
  simp only [binOp, iN, Op.equal]
  rw [hmd, h, da, kL]) rfl (by simp) (by simp) (by intro _ _ _ h; cases h)
end
end Go.Ds
namespace Go.Ds
noncomputable section
variable {P : Program} {H : Heap}
theorem a1z (a b : ByteArray) : (a == b) = decide (b = a) := by
 obtain ⟨x⟩ := a
 obtain ⟨y⟩ := b
 rw [eM, decide_eq_true_iff]
 constructor
 ·intro h
  have e : x = y := by simpa using (show (x == y) = true from h)
  rw [e]
 ·intro h
  cases h
  show (x == x) = true
  simp
theorem a4H (o : Option Nat) (i : Nat) : o.map (i + 1 + ·) = (o.map (· + 1)).map (i + ·) := by
 cases o with
 | none => rfl
 | some j => simp only [dP]; congr 1; omega
theorem a0S (k : ByteArray) : ∀ (es : List MapEntry) (ks : List ByteArray) (i : Nat), es.map (·.key) = ks.map Value.string →
 (Instr.findNow .string (.string k) (es.map xA) i).map (·.map (·.1)) = some ((ks.findIdx? fun x => decide (x = k)).map (i + ·))
 | [], [], i, _ => rfl
 | [], _ :: _, _, h => by simp at h
 | _ :: _, [], _, h => by simp at h
 | e :: es, s :: ks, i, h => by
   simp only [ed, gb] at h
   have hs : Instr.sameNow .string (.string k) e.key = some (decide (s = k)) := by
    rw [h.1]
    show some (k == s) = _
    rw [a1z]
   simp only [ed, Instr.findNow, xA, hs, fj]
   by_cases hd : s = k
   ·simp [hd]
   ·simp only [hd, decide_false, dW, if_false]
    have := a0S k es ks (i + 1) h.2
    rw [a4H] at this
    exact this
theorem b1F {κ : Type} [DecidableEq κ] {enc : κ → Value} {kt : TypeId} (heq : ∀ a b, iP P (Op.equal kt (enc a) (enc b)) = some (decide (b = a))) (k : κ) : ∀ (es : List MapEntry) (ks : List κ) (i : Nat), es.map (·.key) = ks.map enc →
 (iP P (Instr.findAsking kt (enc k) (es.map xA) i)).map (·.map (·.1)) = some ((ks.findIdx? fun x => decide (x = k)).map (i + ·))
 | [], [], i, _ => rfl
 | [], _ :: _, _, h => by simp at h
 | _ :: _, [], _, h => by simp at h
 | e :: es, s :: ks, i, h => by
   simp only [ed, gb] at h
   simp only [ed, Instr.findAsking, xA, iN, fj]
   rw [h.1, heq, da]
   by_cases hd : s = k
   ·simp [hd, kL]
   ·simp only [hd, decide_false, dW, if_false]
    have := b1F heq k es ks (i + 1) h.2
    rw [a4H] at this
    exact this
theorem MapK.str {t kt et : TypeId} {z : Value} (hm : yL P t = some (kt, et)) (hu : P.underlying kt = some .string) (hz : iZ P et = some z) (hf : jD z = true) : MapK P t Value.string z where
 ex := by
  refine ⟨kt, et, hm, hz, hf, ?_, ?_, ?_⟩
  ·intro b k
   have : iP P (Instr.checkKey b 10000 kt (.string k)) = some () := by
    show iP P (Instr.checkKey b (9999 + 1) kt (.string k)) = some ()
    unfold Instr.checkKey
    rw [iN, jU hu, da]
    rfl
   simp only [yP, this]
   rfl
  ·intro k es ks h
   have h1 := a0S k es ks 0 h
   unfold rU Instr.findKey
   rw [iN, jU hu, da]
   cases hn : Instr.findNow .string (.string k) (es.map xA) 0 with
   | none => rw [hn] at h1; cases h1
   | some r =>
     rw [hn] at h1
     simp only [kL]
     simpa using h1
  ·intro k
   show (k == k) = true
   rw [a1z]
   simp
theorem MapK.struct {κ : Type} [DecidableEq κ] {enc : κ → Value} {t kt et : TypeId} {z : Value} {fs : Array Field} (hm : yL P t = some (kt, et)) (hu : P.underlying kt = some (.struct fs)) (hz : iZ P et = some z) (hf : jD z = true)
 (hk : ∀ b k, yP P b kt (enc k) = true) (heq : ∀ a b, iP P (Op.equal kt (enc a) (enc b)) = some (decide (b = a))) (hsb : ∀ k, Instr.sameBits 10000 (enc k) (enc k) = true) : MapK P t enc z where
 ex := by
  refine ⟨kt, et, hm, hz, hf, hk, ?_, hsb⟩
  intro k es ks h
  have h1 := b1F heq k es ks 0 h
  unfold rU Instr.findKey
  rw [iN, jU hu, da]
  have key : ∀ (l : List MapEntry), Instr.findNow (.struct fs) (enc k) l 0 = none ∨ l = [] := by
   intro l
   cases l with
   | nil => exact .inr rfl
   | cons e l => exact .inl rfl
  rcases key (es.map xA) with hn | hn
  ·rw [hn]
   simpa using h1
  ·rw [hn]
   have : es = [] := by simpa using hn
   subst this
   have : ks = [] := by cases ks with | nil => rfl | cons a ks => simp at h
   subst this
   rfl
end
end Go.Ds
namespace Go.Ds
noncomputable section
variable {P : Program} {H : Heap}
def a1P (o : Option (Nat × TypeId)) (P : Program) (H : Heap) (t : TypeId) (z : Value) (K : Value → Heap → Prop) (_k : Keep K := ⟨⟩) : Prop := match o with
 | none => uX (jD z) (a5F P H t z K)
 | some _ => uX (jD z) (a9e P H t z K)
theorem a5s {o o' : Option (Nat × TypeId)} {t : TypeId} {z : Value} {K : Value → Heap → Prop} (h : o = o') : a1P o P H t z K = a1P o' P H t z K := by rw [h]
attribute [congr] a5s
theorem b5p {t : TypeId} (z : Value) (K : Value → Heap → Prop) : uA P H t (some z) K = a1P (jI P t) P H t z K := by
 cases h : jI P t with
 | none => exact a8r z K h
 | some n => exact a9u z K h
theorem a7Y {t : TypeId} (z : Value) (K : Value → Heap → Prop) : a1P none P H t z K = uX (jD z) (a5F P H t z K) := rfl
theorem a7K {t : TypeId} (n : Nat × TypeId) (z : Value) (K : Value → Heap → Prop) : a1P (some n) P H t z K = uX (jD z) (a9e P H t z K) := rfl
theorem a6B {t : TypeId} {k : IntKind} (h : a1g P t = some k) : lE P t = false := by
 simp [lE, a0l h]
def a3M (ks kt : Option IntKind) (P : Program) (s t : TypeId) (H : Heap) (k : IntKind) (a : Int) (K : Value → Heap → Prop) (_k : Keep K := ⟨⟩) : Prop := match ks, kt with
 | some k0, some k' => if k0 = k then K (.int k' (k'.wrap a)) H else tK P s t H (.int k a) K
 | _, _ => tK P s t H (.int k a) K
theorem a7F {ks ks' kt kt' : Option IntKind} {s t : TypeId} {k : IntKind} {a : Int} {K : Value → Heap → Prop} (h : ks = ks') (h2 : kt = kt') : a3M ks kt P s t H k a K = a3M ks' kt' P s t H k a K := by rw [h, h2]
attribute [congr] a7F
theorem c0m {s t : TypeId} (k : IntKind) (a : Int) (K : Value → Heap → Prop) : tK P s t H (.int k a) K = a3M (a1g P s) (a1g P t) P s t H k a K := by
 unfold a3M
 split
 ·rename_i k0 k' hs ht
  split
  ·rename_i hk
   subst hk
   rw [b3B k0 a K (a6B ht), b3g a hs ht]
   rfl
  ·rfl
 ·rfl
theorem b3F {s t : TypeId} (k k' : IntKind) (a : Int) (K : Value → Heap → Prop) : a3M (some k) (some k') P s t H k a K = oL (.int k' (k'.wrap a)) fun v => K v H := by simp [a3M, oL]
def c2A (b : Bool) (P : Program) (H : Heap) (t : TypeId) (v : Value) : Option Value := match b with
 | true => (match v with | .string s => some (.int .i64 s.size) | _ => a0d P H t v)
 | false => a0d P H t v
theorem c2i (t : TypeId) (v : Value) : a7I none P H t v = c2A (oX P t) P H t v := by
 unfold c2A
 split
 ·rename_i h
  split
  ·exact b4J _ h
  ·rfl
 ·rfl
theorem b5l (t : TypeId) (s : ByteArray) : c2A true P H t (.string s) = some (.int .i64 s.size) := rfl
def a2Z (b : Bool) (P : Program) (t : TypeId) (x i : Value) : Option Value := match b, x, i with
 | true, .string s, .int k i => if 0 ≤ i ∧ i < s.size then some (.int .u8 (oN s i.toNat)) else pI P t (.string s) (.int k i)
 | _, x, i => pI P t x i
theorem a8j (t : TypeId) (x i : Value) : pI P t x i = a2Z (oX P t) P t x i := by
 unfold a2Z
 split
 ·rename_i h
  split
  ·rename_i h2; exact b0I _ _ _ h h2.1 h2.2
  ·rfl
 ·rfl
theorem b0v (t : TypeId) (s : ByteArray) (k : IntKind) (i : Int) (h0 : 0 ≤ i) (h1 : i < s.size) : a2Z true P t (.string s) (.int k i) = some (.int .u8 (oN s i.toNat)) := by
 simp [a2Z, h0, h1]
theorem OC : (∀ k n, oneCell (.int k n) = true) ∧ (∀ b, oneCell (.bool b) = true) ∧ (∀ s, oneCell (.string s) = true) ∧ (∀ a, oneCell (.pointer a) = true) ∧ (∀ a n c, oneCell (.slice a n c) = true) ∧ (∀ r, oneCell (.map r) = true) ∧ (∀ f a b, oneCell (.func f a b) = true) ∧ oneCell .nilFunc = true :=
 ⟨fun _ _ => rfl, fun _ => rfl, fun _ => rfl, fun _ => rfl, fun _ _ _ => rfl, fun _ => rfl, fun _ _ _ => rfl, rfl⟩
theorem c5l (o : Option Bool) : (o.map Value.bool).getD (.bool false) = .bool (o.getD false) := by cases o <;> rfl
theorem c3Y (k : IntKind) (o : Option Int) : (o.map (Value.int k)).getD (.int k 0) = .int k (o.getD 0) := by cases o <;> rfl
theorem b8l (v : Value) (b : Bool) : pairV false v b = v := rfl
theorem b8J (v : Value) (b : Bool) : pairV true v b = .tuple #[v, .bool b] := rfl
theorem b7b (t : Tmp) : lH (.tmp t) = false := rfl
theorem a8U (v : Value) : lH (.const v) = true := rfl
theorem b6o (s : ByteArray) : flat (.string s) = true := rfl
theorem b3u (s : ByteArray) : jD (.string s) = true := rfl
theorem a9D (s : ByteArray) : jC (.string s) = true := rfl
theorem a6W (s : ByteArray) : jP (.string s) = true := rfl
theorem b5d (k : IntKind) (n : Int) : oA (.int k n) = true := rfl
theorem b4m (b : Bool) : oA (.bool b) = true := rfl
theorem b6K (s : ByteArray) : oA (.string s) = true := rfl
theorem a4o {c b : Bool} {p q : Prop} (h1 : c = true → rZ (.bool true) b p q) (h2 : c = false → rZ (.bool false) b p q) : rZ (.bool c) b p q := by
 cases c
 ·exact h2 rfl
 ·exact h1 rfl
theorem St.pick {H0 : Base} {os os' : List Ob} (hS : St P H0 H os) (idx : List Nat) (hn : idx.Nodup) (h : idx.map (os[·]?) = os'.map some) : St P H0 H os' := by
 have hmem : ∀ o ∈ os', o ∈ os := by
  intro o ho
  have : some o ∈ idx.map (os[·]?) := by rw [h]; exact fc ho
  obtain ⟨i, _, hi⟩ := dz.1 this
  exact dR hi
 refine ⟨hS.len, hS.old, fun o ho => hS.own o (hmem o ho), fun o ho => hS.new o (hmem o ho), ?_⟩
 have hpw := eh.1 hS.sep
 rw [eh]
 intro i j hi hj hij
 have hl : idx.length = os'.length := by simpa using congrArg List.length h
 have key : ∀ i (hi : i < os'.length), ∃ hk : idx[i]'(by omega) < os.length, os[idx[i]'(by omega)] = os'[i] := by
  intro i hi
  have h1 : (idx.map (os[·]?))[i]? = (os'.map some)[i]? := by rw [h]
  rw [ef, ef, dr (by omega), dr hi] at h1
  simp only [dP, dE] at h1
  exact du.1 h1
 obtain ⟨h1, e1⟩ := key i hi
 obtain ⟨h2, e2⟩ := key j hj
 have hne : idx[i]'(by omega) ≠ idx[j]'(by omega) := by
  have := eh.1 hn i j (by omega) (by omega) hij
  exact this
 rcases fP hne with hh | hh
 ·have := hpw _ _ h1 h2 hh
  rw [e1, e2] at this
  exact this
 ·have := hpw _ _ h2 h1 hh
  rw [e1, e2] at this
  intro B hb hb'
  exact this B hb' hb
theorem St.frame {H1 : Heap} {H0 : Base} {ls rest ls' : List Ob} (hS : St P H0 H (ls ++ rest)) (h1 : St P ⟨H, pM ls⟩ H1 ls') : St P H0 H1 (ls' ++ rest) := by
 have hls : St P H0 H ls := hS.sub (fx ..)
 have h2 := hls.bD h1
 have hsep := fm.1 hS.sep
 have hkeep : ∀ o ∈ rest, ∀ B, kJ o.v = some B → iO H1 B = iO H B := by
  intro o ho B hB
  have hlt := (hS.own o (eR _ ho)).lt hB
  exact h1.old B hlt fun ⟨x, hx, hxb⟩ => hsep.2.2 x hx o ho B hxb hB
 refine ⟨h2.len, h2.old, ?_, ?_, ?_⟩
 ·intro o ho
  rcases dJ.1 ho with ho | ho
  ·exact h2.own o ho
  ·exact (hS.own o (eR _ ho)).ab (hkeep o ho)
 ·intro o ho B hB
  rcases dJ.1 ho with ho | ho
  ·exact h2.new o ho B hB
  ·exact hS.new o (eR _ ho) B hB
 ·rw [fm]
  refine ⟨h2.sep, hsep.2.1, ?_⟩
  intro x hx y hy B hb hb'
  rcases h1.new x hx B hb with hh | ⟨z, hz, hzb⟩
  ·have := (hS.own y (eR _ hy)).lt hb'
   have hh : H.length ≤ B := hh
   omega
  ·exact hsep.2.2 z hz y hy B hzb hb'
theorem c0c (t : TypeId) (k : IntKind) (n : Int) : unV P .neg t (.int k n) = some (.int k (k.wrap (0 - n))) := rfl
theorem b2g (ops : Array Oper) (d : Option Tmp) (op : Op) (ty : TypeId) (pos : String) (af : Array Edge) (j : Nat) (b : Bool) (l : List Value) (H' : Heap) (v : Value) :
 rdW P ops (some ⟨d, op, ty, pos, af, some (j, b)⟩) (some (l, H', v)) H = uB (yN ops j) l b (lV P ⟨d, op, ty, pos, af, some (j, b)⟩ l H fun v' _ => v' = v) True := by
 rw [← sX ops l d op ty pos af]
 unfold rdW
 split
 ·rename_i h1 h2
  cases h1; cases h2
  split
  ·rename_i h; simp [h]
  ·rename_i h; simp [h]
 ·rename_i h
  exact (h _ _ _ _ rfl rfl).elim
theorem b4b (t t2 : TypeId) (cx cy : Bool) (k : IntKind) (a b : Int) (K : Value → Prop) : lC P .and t t2 cx cy (.int k a) (.int k b) K = jV (kV P .and t t2 cx cy (.int k a) (.int k b)) K := by
 have h : (if k = k then mT .and k a b else none) = none := by split <;> rfl
 unfold lC; dsimp only
 rw [h]
theorem b6l (t t2 : TypeId) (cx cy : Bool) (k : IntKind) (a b : Int) (K : Value → Prop) : lC P .or t t2 cx cy (.int k a) (.int k b) K = jV (kV P .or t t2 cx cy (.int k a) (.int k b)) K := by
 have h : (if k = k then mT .or k a b else none) = none := by split <;> rfl
 unfold lC; dsimp only
 rw [h]
theorem b3h (t t2 : TypeId) (cx cy : Bool) (k : IntKind) (a b : Int) (K : Value → Prop) : lC P .xor t t2 cx cy (.int k a) (.int k b) K = jV (kV P .xor t t2 cx cy (.int k a) (.int k b)) K := by
 have h : (if k = k then mT .xor k a b else none) = none := by split <;> rfl
 unfold lC; dsimp only
 rw [h]
theorem a5q (t t2 : TypeId) (cx cy : Bool) (k : IntKind) (a b : Int) (K : Value → Prop) : lC P .andNot t t2 cx cy (.int k a) (.int k b) K = jV (kV P .andNot t t2 cx cy (.int k a) (.int k b)) K := by
 have h : (if k = k then mT .andNot k a b else none) = none := by split <;> rfl
 unfold lC; dsimp only
 rw [h]
theorem b2b (t t2 : TypeId) (cx cy : Bool) (k k' : IntKind) (a b : Int) (K : Value → Prop) : lC P .shl t t2 cx cy (.int k a) (.int k' b) K = jV (kV P .shl t t2 cx cy (.int k a) (.int k' b)) K := by
 have h : (if k = k' then mT .shl k a b else none) = none := by split <;> rfl
 unfold lC; dsimp only
 rw [h]
theorem b3K (t t2 : TypeId) (cx cy : Bool) (k k' : IntKind) (a b : Int) (K : Value → Prop) : lC P .shr t t2 cx cy (.int k a) (.int k' b) K = jV (kV P .shr t t2 cx cy (.int k a) (.int k' b)) K := by
 have h : (if k = k' then mT .shr k a b else none) = none := by split <;> rfl
 unfold lC; dsimp only
 rw [h]
theorem b2e (op : BinOp) (t t2 : TypeId) (cx cy : Bool) (a b : ByteArray) (K : Value → Prop) : lC P op t t2 cx cy (.string a) (.string b) K = jV (kV P op t t2 cx cy (.string a) (.string b)) K := rfl
theorem b2d (op : BinOp) (t t2 : TypeId) (cx cy : Bool) (a b : Array Value) (K : Value → Prop) : lC P op t t2 cx cy (.agg a) (.agg b) K = jV (kV P op t t2 cx cy (.agg a) (.agg b)) K := rfl
theorem b3S (op : BinOp) (t t2 : TypeId) (cx cy : Bool) (a b : Bool) (K : Value → Prop) : lC P op t t2 cx cy (.bool a) (.bool b) K = jV (kV P op t t2 cx cy (.bool a) (.bool b)) K := rfl
theorem b7G (n : Int) (h1 : -9223372036854775808 ≤ n) (h2 : n < 9223372036854775808) : IntKind.wrap .i64 n = n := by
 show (if (true && decide (n % 18446744073709551616 ≥ 9223372036854775808)) = true then n % 18446744073709551616 - 18446744073709551616 else n % 18446744073709551616) = n
 simp only [gj, decide_eq_true_eq]
 omega
theorem b8u (n : Int) (h1 : -128 ≤ n) (h2 : n < 128) : IntKind.wrap .i8 n = n := by
 show (if (true && decide (n % 256 ≥ 128)) = true then n % 256 - 256 else n % 256) = n
 simp only [gj, decide_eq_true_eq]
 omega
theorem oQ (n : Int) (h1 : 0 ≤ n) (h2 : n < 18446744073709551616) : IntKind.wrap .u64 n = n := by
 show (if (false && decide (n % 18446744073709551616 ≥ 9223372036854775808)) = true then n % 18446744073709551616 - 18446744073709551616 else n % 18446744073709551616) = n
 simp only [fw]
 rw [if_neg (by simp)]
 omega
theorem b6z (n : Int) (h1 : 0 ≤ n) (h2 : n < 4294967296) : IntKind.wrap .u32 n = n := by
 show (if (false && decide (n % 4294967296 ≥ 2147483648)) = true then n % 4294967296 - 4294967296 else n % 4294967296) = n
 simp only [fw]
 rw [if_neg (by simp)]
 omega
theorem b4w (n : Int) (h1 : 0 ≤ n) (h2 : n < 65536) : IntKind.wrap .u16 n = n := by
 show (if (false && decide (n % 65536 ≥ 32768)) = true then n % 65536 - 65536 else n % 65536) = n
 simp only [fw]
 rw [if_neg (by simp)]
 omega
theorem b9I (n : Int) (h1 : 0 ≤ n) (h2 : n < 256) : IntKind.wrap .u8 n = n := by
 show (if (false && decide (n % 256 ≥ 128)) = true then n % 256 - 256 else n % 256) = n
 simp only [fw]
 rw [if_neg (by simp)]
 omega
end
end Go.Ds
namespace Go.Ds
noncomputable section
variable {P : Program}
def zM (P : Program) (t : TypeId) : List Field := match P.underlying t with | some (.struct fs) => fs.toList | _ => []
def zP : Value → Value → Bool
 | .int _ a, .int _ b => a == b
 | .bool a, .bool b => a == b
 | .string a, .string b => decide (a = b)
 | _, _ => false
def okC (P : Program) (t : TypeId) (x y : Value) : Bool := match P.underlying t with
 | some (.int _) => (match x, y with | .int k _, .int k' _ => decide (k = k') | _, _ => false)
 | some .bool => (match x, y with | .bool _, .bool _ => true | _, _ => false)
 | some .string => (match x, y with | .string _, .string _ => true | _, _ => false)
 | _ => false
theorem eq1 {t : TypeId} {x y : Value} (d : Nat) (h : okC P t x y = true) : iP P (Op.equalIn (d + 1) t x y) = some (zP x y) := by
 unfold okC at h
 split at h
 ·rename_i k0 hu
  split at h
  ·rename_i k a k' b
   have hk : k = k' := by simpa using h
   subst hk
   rw [Op.equalIn, iN, jU hu, da]
   simp only [if_true]
   rfl
  ·cases h
 ·rename_i hu
  split at h
  ·rw [Op.equalIn, iN, jU hu, da]; rfl
  ·cases h
 ·rename_i hu
  split at h
  ·rename_i a b
   rw [Op.equalIn, iN, jU hu, da]
   show some (a == b) = some (decide (a = b))
   rw [a1z]
   congr 1
   simp [eq_comm]
  ·cases h
 ·cases h
theorem c1b {t : TypeId} {x y v : Value} {cs : Array Value} {off : Nat} (h : okC P t x y = true) (hc : cs[off]? = some v) : iP P (part t cs off) = some v := by
 have ha : iP P (isAgg t) = some false := by
  unfold isAgg
  unfold okC at h
  split at h
  ·rename_i hu; rw [iN, jU hu, da]; rfl
  ·rename_i hu; rw [iN, jU hu, da]; rfl
  ·rename_i hu; rw [iN, jU hu, da]; rfl
  ·cases h
 unfold part
 rw [iN, ha, da]
 simp only [dW, if_false, hc]
 rfl
theorem a2L {t : TypeId} {xs ys : List Value} (d : Nat) (hu : P.underlying t = some (.struct (zM P t).toArray)) (hst : P.stoodInHeld t = false)
 (hf : ((zM P t).map fun f => (f.name != "_", f.offset)) = (List.range xs.length).map fun j => (true, j)) (hy : ys.length = xs.length)
 (hok : ((zM P t).all fun f => okC P f.type (xs.getD f.offset undef) (ys.getD f.offset undef)) = true) :
 iP P (Op.equalIn (d + 2) t (.agg xs.toArray) (.agg ys.toArray)) = some ((List.range xs.length).all fun j => zP (xs.getD j undef) (ys.getD j undef)) := by
 rw [dA] at hok
 have hmem : ∀ f ∈ zM P t, (f.name != "_") = true ∧ f.offset < xs.length := fun f hf' => by
  have : (f.name != "_", f.offset) ∈ (List.range xs.length).map fun j => (true, j) := by rw [← hf]; exact fc hf'
  obtain ⟨j, hj, he⟩ := dz.1 this
  simp only [gU] at he
  exact ⟨he.1.symm, by rw [← he.2]; exact dx.1 hj⟩
 rw [b4H hu hst (fun f => zP (xs.getD f.offset undef) (ys.getD f.offset undef)) ?_]
 ·congr 1
  have h1 : (zM P t).all (fun f => zP (xs.getD f.offset undef) (ys.getD f.offset undef)) = ((zM P t).map fun f => (f.name != "_", f.offset)).all fun p => zP (xs.getD p.2 undef) (ys.getD p.2 undef) := by
   rw [List.all_map]; rfl
  rw [h1, hf, List.all_map]
  rfl
 ·intro f hf'
  obtain ⟨h1, h2⟩ := hmem f hf'
  refine ⟨by simpa using h1, ?_⟩
  have hx : xs.toArray[f.offset]? = some (xs.getD f.offset undef) := by
   rw [ft, de, dr h2]; rfl
  have hy' : ys.toArray[f.offset]? = some (ys.getD f.offset undef) := by
   rw [ft, de, dr (by omega)]; rfl
  rw [iN, c1b (hok f hf') hx, da, iN, c1b (hok f hf') hy', da]
  exact eq1 d (hok f hf')
theorem uJ {t t2 : TypeId} {cx cy : Bool} {xs ys : List Value} (hu : P.underlying t = some (.struct (zM P t).toArray)) (hst : P.stoodInHeld t = false) (hg : P.eqGuardType P.depth t = false)
 (hf : ((zM P t).map fun f => (f.name != "_", f.offset)) = (List.range xs.length).map fun j => (true, j)) (hy : ys.length = xs.length)
 (hok : ((zM P t).all fun f => okC P f.type (xs.getD f.offset undef) (ys.getD f.offset undef)) = true) (hx : xs.all jC = true) (hys : ys.all jC = true) :
 kV P .eql t t2 cx cy (.agg xs.toArray) (.agg ys.toArray) = some (.bool ((List.range xs.length).all fun j => zP (xs.getD j undef) (ys.getD j undef))) ∧
 kV P .neq t t2 cx cy (.agg xs.toArray) (.agg ys.toArray) = some (.bool (!((List.range xs.length).all fun j => zP (xs.getD j undef) (ys.getD j undef)))) :=
 ⟨b5M _ hg hx hys (a2L 9998 hu hst hf hy hok), b6d _ hg hx hys (a2L 9998 hu hst hf hy hok)⟩
theorem b5y {t : TypeId} {k : IntKind} (hu : P.underlying t = some (.struct (zM P t).toArray)) (hst : P.stoodInHeld t = false)
 (hf : ((zM P t).map fun f => (f.name != "_", f.offset)) = (List.range 2).map fun j => (true, j))
 (hok : ∀ a b c d : Int, ((zM P t).all fun f => okC P f.type ([Value.int k a, .int k b].getD f.offset undef) ([Value.int k c, .int k d].getD f.offset undef)) = true) (a b : Int × Int) :
 iP P (Op.equal t (.agg #[.int k a.1, .int k a.2]) (.agg #[.int k b.1, .int k b.2])) = some (decide (b = a)) := by
 have hmd : Op.maxDepth = 9998 + 2 := by decide
 unfold Op.equal
 rw [hmd, a2L (xs := [.int k a.1, .int k a.2]) (ys := [.int k b.1, .int k b.2]) 9998 hu hst hf rfl (hok _ _ _ _)]
 congr 1
 show ((a.1 == b.1) && ((a.2 == b.2) && true)) = _
 rw [eM]
 simp only [fF, cZ, beq_iff_eq, decide_eq_true_eq, Prod.ext_iff]
 constructor
 ·rintro ⟨h1, h2⟩; exact ⟨h1.symm, h2.symm⟩
 ·rintro ⟨h1, h2⟩; exact ⟨h1.symm, h2.symm⟩
theorem b6s {k : IntKind} (a : Int × Int) : Instr.sameBits 10000 (.agg #[.int k a.1, .int k a.2]) (.agg #[.int k a.1, .int k a.2]) = true := by
 show ((2 : Nat) == 2 && ([(Value.int k a.1, Value.int k a.1), (Value.int k a.2, Value.int k a.2)]).all fun (x, y) => Instr.sameBits 9999 x y) = true
 have h : ∀ n, Instr.sameBits 9999 (.int k n) (.int k n) = true := fun n => by
  show (k == k && n == n) = true
  cases k <;> simp <;> rfl
 simp [h]
section
variable {H : Heap} {α : Type} {n : Nat} {cel : α → List Value} {v : Value} {xs : List α}
theorem Sl.aM (h : Sl n cel H v xs) (o : Oper) (l : List Value) (H' : Heap) (k : IntKind) (a : Int) (K : Value → Heap → Prop) (h0 : 0 < xs.length) (h1 : 0 ≤ a) (h2 : a ≤ xs.length) :
 nZ P o l H' (some n) v none (some (.int k a)) K = oL (kT v n 0 a.toNat) fun v => K v H' := by
 obtain ⟨m, rfl⟩ : ∃ m, n = m + 1 := ⟨n - 1, by have := h.pos; omega⟩
 exact h.rd.aM (iM h.hc xs) o l H' k a K h0 h1 h2
theorem Sl.aL (h : Sl n cel H v xs) (o : Oper) (l : List Value) (H' : Heap) (k : IntKind) (a : Int) (K : Value → Heap → Prop) (h0 : 0 < xs.length) (h1 : 0 ≤ a) (h2 : a ≤ xs.length) :
 nZ P o l H' (some n) v (some (.int k a)) none K = oL (kT v n a.toNat (xs.length - a).toNat) fun v => K v H' := by
 obtain ⟨m, rfl⟩ : ∃ m, n = m + 1 := ⟨n - 1, by have := h.pos; omega⟩
 rw [h.rd.aL (iM h.hc xs) o l H' k a K h0 h1 h2]
 congr 2
 omega
theorem Sl.sub (h : Sl n cel H v xs) (lo k : Nat) (hk : lo + k ≤ xs.length) (h0 : 0 < xs.length) : Sl n cel H (kT v n lo k) ((xs.drop lo).take k) := by
 refine ⟨?_, h.hc, h.pos⟩
 have hne : xs.flatMap cel ≠ [] := fun e => by
  have := iM h.hc xs
  rw [e, eG] at this
  have hp := ic h0 h.pos
  omega
 have := h.rd.sub lo k (by rw [iM h.hc, ← fi]; exact dQ _ hk) hne
 rw [sQ h.hc, a2N h.hc] at this
 exact this
theorem Sl.cB (h : Sl n cel H v xs) (k : Nat) (hk : k ≤ xs.length) (h0 : 0 < xs.length) : Sl n cel H (kT v n 0 k) (xs.take k) := by
 simpa using h.sub 0 k (by omega) h0
theorem Sl.cC (h : Sl n cel H v xs) (lo : Nat) (hk : lo ≤ xs.length) (h0 : 0 < xs.length) : Sl n cel H (kT v n lo (xs.length - lo)) (xs.drop lo) := by
 have := h.sub lo (xs.length - lo) (by omega) h0
 rwa [List.take_of_length_le (by simp)] at this
end
def a9f (P : Program) (ts : Array TypeId) (ty : TypeId) (cx cy : Bool) (x y : Value) : Option Value := (kQ P ⟨none, .call { callee := .builtin .max, args := #[pB cx 0 x, pB cy 1 y], argTypes := ts }, ty, "", #[], none⟩ [x, y] .nil).map (·.1)
theorem b9r (d : Option Tmp) (ty : TypeId) (pos : String) (af : Array Edge) (g : Option (Nat × Bool)) (ts : Array TypeId) (x y : Operand) (l : List Value) (H : Heap) (K : Value → Heap → Prop) :
 lV P ⟨d, .call { callee := .builtin .max, args := #[x, y], argTypes := ts }, ty, pos, af, g⟩ l H K = jM x l fun x' => jM y l fun y' => jV (a9f P ts ty (lH x) (lH y) x' y') fun v => K v H := by
 have h : opD P ⟨d, .call { callee := .builtin .max, args := #[x, y], argTypes := ts }, ty, pos, af, g⟩ l H = (a9f P ts ty (lH x) (lH y) (ev l x) (ev l y)).map fun v => (v, H) :=
  nB (P := P) ⟨d, .call { callee := .builtin .max, args := #[x, y], argTypes := ts }, ty, pos, af, g⟩ ⟨none, .call { callee := .builtin .max, args := #[pB (lH x) 0 (ev l x), pB (lH y) 1 (ev l y)], argTypes := ts }, ty, "", #[], none⟩ l [ev l x, ev l y] H
   (by cases x <;> cases y <;> rfl) (by cases x <;> cases y <;> kernel_rfl)
 have h2 : jZ ((a9f P ts ty (lH x) (lH y) (ev l x) (ev l y)).map fun v => (v, H)) K = jV (a9f P ts ty (lH x) (lH y) (ev l x) (ev l y)) fun v => K v H := by cases a9f P ts ty (lH x) (lH y) (ev l x) (ev l y) <;> rfl
 simp only [lV, h, jM, Op.operands, Call.operands, h2]
 simp [and_assoc]
theorem b6F (ts : Array TypeId) (ty : TypeId) (cx cy : Bool) (a b : Int) : a9f P ts ty cx cy (.int .i64 a) (.int .i64 b) = some (.int .i64 (max a b)) := by
 have h : a9f P ts ty cx cy (.int .i64 a) (.int .i64 b) = some (.int .i64 (if b > a then b else a)) := by cases cx <;> cases cy <;> kernel_rfl
 rw [h]
 congr 2
 split <;> omega
def b0H (P : Program) (ts : Array TypeId) (ty : TypeId) (cx cy : Bool) (x y : Value) : Option Value := (kQ P ⟨none, .call { callee := .builtin .min, args := #[pB cx 0 x, pB cy 1 y], argTypes := ts }, ty, "", #[], none⟩ [x, y] .nil).map (·.1)
theorem b8i (d : Option Tmp) (ty : TypeId) (pos : String) (af : Array Edge) (g : Option (Nat × Bool)) (ts : Array TypeId) (x y : Operand) (l : List Value) (H : Heap) (K : Value → Heap → Prop) :
 lV P ⟨d, .call { callee := .builtin .min, args := #[x, y], argTypes := ts }, ty, pos, af, g⟩ l H K = jM x l fun x' => jM y l fun y' => jV (b0H P ts ty (lH x) (lH y) x' y') fun v => K v H := by
 have h : opD P ⟨d, .call { callee := .builtin .min, args := #[x, y], argTypes := ts }, ty, pos, af, g⟩ l H = (b0H P ts ty (lH x) (lH y) (ev l x) (ev l y)).map fun v => (v, H) :=
  nB (P := P) ⟨d, .call { callee := .builtin .min, args := #[x, y], argTypes := ts }, ty, pos, af, g⟩ ⟨none, .call { callee := .builtin .min, args := #[pB (lH x) 0 (ev l x), pB (lH y) 1 (ev l y)], argTypes := ts }, ty, "", #[], none⟩ l [ev l x, ev l y] H
   (by cases x <;> cases y <;> rfl) (by cases x <;> cases y <;> kernel_rfl)
 have h2 : jZ ((b0H P ts ty (lH x) (lH y) (ev l x) (ev l y)).map fun v => (v, H)) K = jV (b0H P ts ty (lH x) (lH y) (ev l x) (ev l y)) fun v => K v H := by cases b0H P ts ty (lH x) (lH y) (ev l x) (ev l y) <;> rfl
 simp only [lV, h, jM, Op.operands, Call.operands, h2]
 simp [and_assoc]
theorem b5Y (ts : Array TypeId) (ty : TypeId) (cx cy : Bool) (a b : Int) : b0H P ts ty cx cy (.int .i64 a) (.int .i64 b) = some (.int .i64 (min a b)) := by
 have h : b0H P ts ty cx cy (.int .i64 a) (.int .i64 b) = some (.int .i64 (if b < a then b else a)) := by cases cx <;> cases cy <;> kernel_rfl
 rw [h]
 congr 2
 split <;> omega
section
variable {H : Heap}
def Var (H : Heap) (A n : Nat) (cs : List Value) : Prop := n = cs.length ∧ ∃ ty rw lo ver, iO H A = some (.cells cs ty rw lo ver) ∧ lo ≤ cs.length
theorem Var.ab {H' : Heap} {A n : Nat} {cs : List Value} (h : Var H A n cs) (hk : ∀ B, B < H.length → iO H' B = iO H B) : Var H' A n cs := by
 obtain ⟨h1, ty, rw, lo, ver, h2, h3⟩ := h
 exact ⟨h1, ty, rw, lo, ver, by rw [hk A (jG h2), h2], h3⟩
theorem Var.ld {A n : Nat} {cs : List Value} (h : Var H A n cs) (s : Option Nat) (off : Nat) : oG (some false) s H (ptr A off n) = cs[off]? := by
 obtain ⟨rfl, ty, rw, lo, ver, h1, h2⟩ := h
 simp only [oG, jF, h1]
 by_cases h : off < cs.length
 ·rw [if_pos (by simp; omega)]
  simp only [da]
  rw [dT (by omega), dI]
  simp
 ·rw [if_neg (by simp; omega), eE (by omega)]
  rfl
theorem Var.ag {A n : Nat} {cs : List Value} (h : Var H A n cs) (m off : Nat) : oG (some true) (some m) H (ptr A off n) = if off + m ≤ cs.length then some (.agg ((cs.drop off).take m).toArray) else none := by
 obtain ⟨rfl, ty, rw, lo, ver, h1, h2⟩ := h
 simp only [oG, jF, h1, da]
 by_cases h : off + m ≤ cs.length
 ·rw [if_pos (by simp; omega), if_pos h]
  rfl
 ·rw [if_neg (by simp; omega), if_neg h]
  rfl
theorem St.var {P : Program} {H0 : Base} {os : List Ob} (hS : St P H0 H os) (i : Nat) {A n : Nat} {cs : List Value} (ho : os[i]? = some ⟨ptr A 0 n, 0, cs⟩) : Var H A n cs := by
 obtain ⟨h1, ty, lo, ver, h2, h3⟩ := hS.cell i ho
 exact ⟨h1, ty, true, lo, ver, h2, h3⟩
theorem St.va {H0 : Heap} {os : List Ob} (hS : St P H0 H os) {A n : Nat} {cs : List Value} (h : Var H0 A n cs) : Var H A n cs := h.ab hS.ab
end
theorem tA {P : Program} (t t2 : TypeId) (cx cy : Bool) (u x : UInt8) : kV P .add t t2 cx cy (.string ⟨#[u]⟩) (.string ⟨#[x]⟩) = some (.string ⟨#[u, x]⟩) := by
 rw [a7J _ _ _ _ _ _ (by show 1 + 1 < 9223372036854775808; decide)]
 rfl
theorem vJ {P : Program} {H : Heap} {s t : TypeId} {v : Value} {n : Int} (h : RdAt H v 1 [.int .u8 n]) (hs : lE P s = true) (ht : oX P t = true) (hbt : lE P t = false) (h0 : 0 ≤ n) (h1 : n < 256) (K : Value → Heap → Prop) :
 tK P s t H v K = K (.string ⟨#[UInt8.ofNat n.toNat]⟩) H := by
 obtain ⟨m, rfl⟩ : ∃ m : Nat, n = Int.ofNat m := ⟨n.toNat, by simp [fp h0]⟩
 have hm : m < 256 := by have : (m : Int) < 256 := h1; omega
 rcases h with ⟨_, h⟩ | ⟨A, i, e, row, ty, rw, lo, ver, k, g1, g2, g3, g4, g5, g6, rfl⟩
 ·cases h
 have hk : k = 1 := by simp at g6; omega
 subst hk
 have hc : jF H A i e 1 = some [.int .u8 (Int.ofNat m)] := by
  simp only [jF, g1]
  rw [if_pos (by simp at g4 ⊢; omega)]
  exact congrArg some g5
 have hb : nH [.int .u8 (Int.ofNat m)] = some ⟨#[UInt8.ofNat m]⟩ := by simp [nH, a2l, a1q, hm]
 have hd : opD P ⟨none, .convert s t (.const (.slice (some ⟨A, i, some e⟩) 1 1)), t, "", #[], none⟩ [] H = some (.string ⟨#[UInt8.ofNat m]⟩, H) := by
  have hf : flat (.slice (some ⟨A, i, some e⟩) 1 1) = false := rfl
  simp only [opD, ev, hf, hs, ht, hc, hb, fw, dW, if_false, Bool.and_self, if_true, da, dP]
 unfold tK
 rw [hd]
 apply propext
 constructor
 ·rintro ⟨v, H1, h2, h3⟩
  injection (cY h2) with e1 e2
  subst e1 e2
  exact h3
 ·intro h3
  exact ⟨_, _, rfl, h3⟩
theorem a5C {P : Program} {t : TypeId} {n : Nat} {elem : TypeId} {size : Nat} (ha : P.underlying t = some (.array n elem)) (hs : iF P elem = some size) (A i e : Nat) (k : IntKind) (j : Int) (h0 : 0 ≤ j) (h1 : j < n) :
 vV (iV P t) P t (ptr A i e) (.int k j) = some (ptr A (i + j.toNat * size) e) := by
 have hn : iV P t = none := by simp [iV, iJ, ha]
 rw [hn]
 simp only [vV, a2o, ha, ptr, hs, da]
 rw [if_pos (by simp [h0, h1])]
end
end Go.Ds
namespace Go.Ds
section
variable {P : Program}
def c2g (inv : List Nat) (e : Edge) : Edge := { e with on := inv.getD e.on 0 }
def yI (inv : List Nat) (o : Oper) : Oper := { o with after := o.after.map (c2g inv), guard := o.guard.map fun g => (inv.getD g.1 0, g.2) }
def kD (π inv : List Nat) (ops : Array Oper) : Array Oper := (π.map fun i => yI inv (ops.getD i default)).toArray
def b0p (π inv : List Nat) (ops : Array Oper) : Bool :=
 decide (π.length = ops.size) && decide (inv.length = ops.size) && (List.range ops.size).all (fun i => decide (π.getD i 0 < ops.size) && decide (inv.getD i 0 < ops.size) && decide (inv.getD (π.getD i 0) 0 = i) && decide (π.getD (inv.getD i 0) 0 = i)) &&
 ops.toList.all fun o => o.after.toList.all (fun e => decide (e.on < ops.size)) && (match o.guard with | some g => decide (g.1 < ops.size) | none => true)
structure Perm (π inv : List Nat) (ops : Array Oper) : Prop where
 len : π.length = ops.size
 pi : ∀ i, i < ops.size → π.getD i 0 < ops.size
 iv : ∀ i, i < ops.size → inv.getD i 0 < ops.size
 ip : ∀ i, i < ops.size → inv.getD (π.getD i 0) 0 = i
 pv : ∀ i, i < ops.size → π.getD (inv.getD i 0) 0 = i
 edge : ∀ (i : Nat) (o : Oper), ops[i]? = some o → ∀ e ∈ o.after, e.on < ops.size
 guard : ∀ (i : Nat) (o : Oper) (g : Nat × Bool), ops[i]? = some o → o.guard = some g → g.1 < ops.size
theorem b9R {π inv : List Nat} {ops : Array Oper} (h : b0p π inv ops = true) : Perm π inv ops := by
 unfold b0p at h
 simp only [cZ, decide_eq_true_eq, dA, dx] at h
 obtain ⟨⟨⟨h1, h2⟩, h3⟩, h4⟩ := h
 refine ⟨h1, fun i hi => (h3 i hi).1.1.1, fun i hi => (h3 i hi).1.1.2, fun i hi => (h3 i hi).1.2, fun i hi => (h3 i hi).2, fun i o ho e he => ?_, fun i o g ho hg => ?_⟩
 ·exact (h4 o (dR (i := i) (by simpa using ho))).1 e (by simpa using he)
 ·have := (h4 o (dR (i := i) (by simpa using ho))).2
  rw [hg] at this
  simpa using this
variable {π inv : List Nat} {ops : Array Oper}
theorem a7D (p : Nat) : (kD π inv ops)[p]? = (π[p]?).map fun i => yI inv (ops.getD i default) := by
 simp [kD]
theorem qZ (D : Perm π inv ops) {p i : Nat} {o : Oper} (hp : p < ops.size) (hi : π.getD p 0 = i) (ho : ops[i]? = some o) : (kD π inv ops)[p]? = some (yI inv o) := by
 rw [a7D]
 have h1 : π[p]? = some i := by
  rw [de] at hi
  rw [dr (by rw [D.len]; exact hp)] at hi ⊢
  simpa using hi
 rw [h1]
 simp only [dP]
 rw [ek, ho]
 rfl
theorem qJ (D : Perm π inv ops) : (kD π inv ops).size = ops.size := by simp [kD, D.len]
theorem a5l (D : Perm π inv ops) (tmps : Array Value) {j : Nat} (hj : j < ops.size) : yielded (kD π inv ops) tmps (inv.getD j 0) = yielded ops tmps j := by
 have ho : ops[j]? = some ops[j] := dj.2 ⟨hj, rfl⟩
 unfold yielded
 rw [qZ D (D.iv j hj) (D.pv j hj) ho, ho]
 rfl
theorem a7p (D : Perm π inv ops) (tmps : Array Value) {i : Nat} {o : Oper} (ho : ops[i]? = some o) : Region.wanted (yI inv o) (yielded (kD π inv ops) tmps) = Region.wanted o (yielded ops tmps) := by
 unfold Region.wanted
 have e : (yI inv o).guard = o.guard.map fun g => (inv.getD g.1 0, g.2) := rfl
 rw [e]
 cases hg : o.guard with
 | none => rfl
 | some g =>
   simp only [dP]
   rw [a5l D tmps (D.guard i o g ho hg)]
theorem b8x (ro : Option Nat) (ρ : Operand → Value) (o : Oper) : (yI inv o).semAt ro ρ = o.semAt ro ρ := by
 obtain ⟨dst, op, type, pos, after, guard⟩ := o
 rfl
theorem b2X (w : World) (ρ : Operand → Value) (o : Oper) : (yI inv o).about P w ρ = o.about P w ρ := by
 obtain ⟨dst, op, type, pos, after, guard⟩ := o
 rfl
theorem b7o (F : Fence) (n : Nat) (o : Oper) (a : Act) (next : Act → World → Prop) (Q : Exit → Act → World → Prop) (r : Result Next) : (yI inv o).uponIn F n P a next Q r = o.uponIn F n P a next Q r := by
 obtain ⟨dst, op, type, pos, after, guard⟩ := o
 cases r with
 | ok x w => cases x <;> rfl
 | halt x w => cases x <;> rfl
theorem b3G (D : Perm π inv ops) (F : Fence) (n : Nat) (Q : Exit → Act → World → Prop) {i : Nat} (hi : i < ops.size) (K : Act → World → Prop) (a : Act) (w : World) :
 wpOpIn F n P (kD π inv ops) Q (inv.getD i 0) K a w = wpOpIn F n P ops Q i K a w := by
 have ho : ops[i]? = some ops[i] := dj.2 ⟨hi, rfl⟩
 unfold wpOpIn
 rw [qZ D (D.iv i hi) (D.pv i hi) ho, ho]
 simp only [a7p D a.tmps ho, Oper.wpIn, b2X, b7o, b8x]
 rfl
def c2Q (inv : List Nat) (n : Nat) (listed listed' : Array Bool) : Prop := listed.size = n ∧ listed'.size = n ∧ ∀ i, i < n → listed.getD i false = listed'.getD (inv.getD i 0) false
theorem wR (D : Perm π inv ops) {listed listed' : Array Bool} (hc : c2Q inv ops.size listed listed') {i : Nat} (hi : i < ops.size) :
 i ∈ Region.ready .any ops listed ↔ inv.getD i 0 ∈ Region.ready .any (kD π inv ops) listed' := by
 have ho : ops[i]? = some ops[i] := dj.2 ⟨hi, rfl⟩
 have ho' := qZ D (D.iv i hi) (D.pv i hi) ho
 have hsz := qJ D
 obtain ⟨c1, c2, c3⟩ := hc
 constructor
 ·intro h
  obtain ⟨o, h1, h2, h3⟩ := pK c1 h
  rw [ho] at h1
  obtain rfl := cY h1
  refine zZ (by rw [hsz]; exact c2) ho' (by rw [← c3 i hi]; exact h2) ?_
  intro e he hb
  have he' : e ∈ (ops[i]).after.map (c2g inv) := he
  obtain ⟨e0, he0, rfl⟩ := Array.mem_map.1 he'
  have := h3 e0 he0 hb
  show listed'.getD (inv.getD e0.on 0) false = true
  rw [← c3 _ (D.edge i _ ho e0 he0)]
  exact this
 ·intro h
  obtain ⟨o, h1, h2, h3⟩ := pK (by rw [hsz]; exact c2) h
  rw [ho'] at h1
  obtain rfl := cY h1
  refine zZ c1 ho (by rw [c3 i hi]; exact h2) ?_
  intro e he hb
  have := h3 (c2g inv e) (Array.mem_map.2 ⟨e, he, rfl⟩) hb
  rw [c3 _ (D.edge i _ ho e he)]
  exact this
theorem b4B (D : Perm π inv ops) (F : Fence) (k : Nat) {Q : Exit → Act → World → Prop} : ∀ (fuel : Nat) (listed listed' : Array Bool) (a : Act) (w : World), c2Q inv ops.size listed listed' →
 wpAnyIn F k P .any (kD π inv ops) Q fuel listed' a w → wpAnyIn F k P .any ops Q fuel listed a w := by
 have hsz := qJ D
 have nil1 : ∀ {listed listed' : Array Bool}, c2Q inv ops.size listed listed' → (Region.ready .any ops listed = [] ↔ Region.ready .any (kD π inv ops) listed' = []) := by
  intro listed listed' hc
  constructor
  ·intro h
   cases hr : Region.ready .any (kD π inv ops) listed' with
   | nil => rfl
   | cons p r =>
     exfalso
     have hp : p ∈ Region.ready .any (kD π inv ops) listed' := by rw [hr]; exact dS ..
     obtain ⟨o, h1, _, _⟩ := pK (by rw [hsz]; exact hc.2.1) hp
     have hpn : p < ops.size := by rw [← hsz]; exact (dj.1 h1).1
     have := (wR D hc (D.pi p hpn)).2 (by rw [D.ip p hpn]; exact hp)
     rw [h] at this
     cases this
  ·intro h
   cases hr : Region.ready .any ops listed with
   | nil => rfl
   | cons i r =>
     exfalso
     have hi : i ∈ Region.ready .any ops listed := by rw [hr]; exact dS ..
     obtain ⟨o, h1, _, _⟩ := pK hc.1 hi
     have := (wR D hc (dj.1 h1).1).1 hi
     rw [h] at this
     cases this
 intro fuel
 induction fuel with
 | zero =>
   intro listed listed' a w hc h
   exact ⟨(nil1 hc).2 h.1, h.2⟩
 | succ fuel ih =>
   intro listed listed' a w hc h
   refine ⟨fun hn => h.1 ((nil1 hc).1 hn), fun i hi => ?_⟩
   obtain ⟨o, h1, _, _⟩ := pK hc.1 hi
   have hin := (dj.1 h1).1
   have h2 := h.2 _ ((wR D hc hin).1 hi)
   rw [b3G D F k Q hin] at h2
   refine wpOpIn_mono (fun a' w' h3 => ih _ _ a' w' ⟨by simpa using hc.1, by simpa using hc.2.1, fun j hj => ?_⟩ h3) h2
   have e1 := sK (listed := listed) (i := i) (by rw [hc.1]; exact hin) j
   have e2 := sK (listed := listed') (i := inv.getD i 0) (by rw [hc.2.1]; exact D.iv i hin) (inv.getD j 0)
   have e3 : (inv.getD j 0 = inv.getD i 0) ↔ j = i := ⟨fun h => by rw [← D.pv j hj, h, D.pv i hin], fun h => by rw [h]⟩
   rw [eM, e1, e2, e3, hc.2.2 j hj]
end
section
variable {P : Program} {H : Heap} {π inv : List Nat} {ops : Array Oper}
theorem Sim.cD (kE : P.follows .mixedOrders = true) {id : Nat} (Dp : Perm π inv ops) {fl : Fl} (D : Draw P fl (kD π inv ops)) {T : Nat → List Value × Heap} {val : Nat → Value} (X : Text P (kD π inv ops) T val)
 (hread : ∀ i m o, (i, m) ∈ mP fl (kD π inv ops) → (kD π inv ops)[i]? = some o → Region.wanted o (iX (kD π inv ops) (T i).1) = true → ∃ H2, opD P o (T i).1 (T m).2 = some (val i, H2)) :
 Sim P (.region id ops true) (T 0).1 (T 0).2 .normal (T ops.size).1 (T ops.size).2 := by
 intro ro k B ρ w a hr hE hl hM hB
 have hsz := qJ Dp
 have := a4w D X hread ro k B hr hE hM
 rw [hsz] at this
 exact wpIn_region_any kE (b4B Dp (fe ro) k ops.size _ _ a _ ⟨by simp, by simp, fun i hi => by
  have := Dp.iv i hi
  simp only [ek, Array.getElem?_replicate, hi, this, if_true]⟩ this)
theorem a3v (D : Perm π inv ops) (l : List Value) {j : Nat} (hj : j < ops.size) : iX (kD π inv ops) l (inv.getD j 0) = iX ops l j := by
 have ho : ops[j]? = some ops[j] := dj.2 ⟨hj, rfl⟩
 unfold iX
 rw [qZ D (D.iv j hj) (D.pv j hj) ho, ho]
 rfl
theorem yZ (D : Perm π inv ops) (l : List Value) {i : Nat} {o : Oper} (ho : ops[i]? = some o) : Region.wanted (yI inv o) (iX (kD π inv ops) l) = Region.wanted o (iX ops l) := by
 unfold Region.wanted
 have e : (yI inv o).guard = o.guard.map fun g => (inv.getD g.1 0, g.2) := rfl
 rw [e]
 cases hg : o.guard with
 | none => rfl
 | some g =>
   simp only [dP]
   rw [a3v D l (D.guard i o g ho hg)]
theorem b1R (o : Oper) (l : List Value) (K : Value → Heap → Prop) : lV P (yI inv o) l H K = lV P o l H K := by
 obtain ⟨dst, op, type, pos, after, guard⟩ := o
 rfl
theorem a4j (D : Perm π inv ops) : ∀ (os : List Oper) (tr : List (List Value × Heap × Value)) (l : List Value) (H : Heap) (K : List (List Value × Heap × Value) → List Value → Heap → Prop), (∀ o ∈ os, ∃ i : Nat, ops[i]? = some o) →
 mQ P (kD π inv ops) (os.map (yI inv)) tr l H K = mQ P ops os tr l H K
 | [], _, _, _, _, _ => rfl
 | o :: os, tr, l, H, K, h => by
   obtain ⟨i, ho⟩ := h o (by simp)
   have ih := fun tr l H => a4j D os tr l H K fun o ho => h o (by simp [ho])
   rw [ed, mQ, mQ, yZ D l ho]
   have e : (yI inv o).dst = o.dst := rfl
   simp only [b1R, e, ih]
def c2I (o : Option Oper) (os : List Oper) : List Oper := match o with | some o => o :: os | none => os
def sel (os : List Oper) : List Nat → List Oper
 | [] => []
 | i :: π => c2I os[i]? (sel os π)
theorem b8B (os : List Oper) : sel os [] = [] := rfl
theorem a6y (os : List Oper) (i : Nat) (π : List Nat) : sel os (i :: π) = c2I os[i]? (sel os π) := rfl
theorem a4B (o : Oper) (os : List Oper) : c2I (some o) os = o :: os := rfl
theorem b0z (os : List Oper) : ∀ (π : List Nat), (∀ i ∈ π, i < os.length) → sel os π = π.map fun i => os.toArray.getD i default
 | [], _ => rfl
 | i :: π, h => by
   have hi := h i (by simp)
   rw [a6y, b0z os π fun j hj => h j (by simp [hj]), dr hi, a4B, ed]
   congr 1
   simp [ek, hi]
def zQ (P : Program) (os : List Oper) (tr : List (List Value × Heap × Value)) (H1 : Heap) (π : List Nat) : List (Nat × Nat) → Prop
 | [] => True
 | (p, m) :: r => rdW P os.toArray (os[π.getD p 0]?) tr[p]? (trH tr[m]? H1) ∧ zQ P os tr H1 π r
theorem a9T (os : List Oper) (tr) (H1 : Heap) (π : List Nat) : zQ P os tr H1 π [] = True := rfl
theorem a8B (os : List Oper) (tr) (H1 : Heap) (π : List Nat) (p m : Nat) (r : List (Nat × Nat)) : zQ P os tr H1 π ((p, m) :: r) = (rdW P os.toArray (os[π.getD p 0]?) tr[p]? (trH tr[m]? H1) ∧ zQ P os tr H1 π r) := rfl
theorem a3c {os : List Oper} {tr} {H1 : Heap} {π : List Nat} : ∀ {tab : List (Nat × Nat)}, zQ P os tr H1 π tab → ∀ x ∈ tab, rdW P os.toArray (os[π.getD x.1 0]?) tr[x.1]? (trH tr[x.2]? H1)
 | [], _, x, hx => by cases hx
 | (i, m) :: r, h, x, hx => by
   rcases ez.1 hx with rfl | hx
   ·exact h.1
   ·exact a3c h.2 x hx
theorem Wp.cE (kE : P.follows .mixedOrders = true) {id : Nat} {os : List Oper} {l : List Value} {Q : nT} (π inv : List Nat) (fl : Fl) (tab : List (Nat × Nat)) (hp : b0p π inv os.toArray = true)
 (htab : a2c P fl (kD π inv os.toArray) = some tab) (hn : uR (kD π inv os.toArray) tab = true)
 (h : mQ P os.toArray (sel os π) [] l H fun tr l1 H1 => Q .normal l1 H1 ∧ zQ P os tr H1 π tab) : Wp P (.region id os.toArray true) l H Q := by
 have Dp := b9R hp
 obtain ⟨D, htb⟩ := a3q htab
 have hsz := qJ Dp
 have hmem : ∀ i ∈ π, i < os.length := fun i hi => by
  obtain ⟨p, hpl, hpe⟩ := dL.1 hi
  have := Dp.pi p (by rw [← Dp.len]; exact hpl)
  rw [de, dr hpl, eZ, hpe] at this
  simpa using this
 have hsel : (sel os π).map (yI inv) = (kD π inv os.toArray).toList := by
  rw [b0z os π hmem]
  simp [kD]
 rw [← a4j Dp (sel os π) [] l H _ (fun o ho => by
  rw [b0z os π hmem, dz] at ho
  obtain ⟨i, hi, rfl⟩ := ho
  have := hmem i hi
  exact ⟨i, by simp [ek, this]⟩), hsel] at h
 obtain ⟨T, val, l', H', ext, h0, h1, h2, h3, h4, h5, h6⟩ := tX (kD π inv os.toArray).toList 0 rfl [] l H h
 have hlen : (kD π inv os.toArray).toList.length = os.toArray.size := by rw [fL, hsz]
 rw [hlen] at h1 h2 h3 h4
 have := Sim.cD kE (id := id) Dp D (T := T) (val := val) ⟨fun k hk => by rw [hsz] at hk; simpa using h4 k hk⟩ fun i m o hm ho hw => by
  rw [← htb] at hm
  have hr := a3c h6 (i, m) hm
  have hi : i < os.toArray.size := by rw [← hsz]; exact (dj.1 ho).1
  have hpi := Dp.pi i hi
  have hoo : os.toArray[π.getD i 0]? = some (os.toArray[π.getD i 0]) := dj.2 ⟨hpi, rfl⟩
  have hat := qZ (inv := inv) Dp hi rfl hoo
  rw [ho] at hat
  have hat := cY hat
  have hoo' : os[π.getD i 0]? = some (os.toArray[π.getD i 0]) := by rw [← hoo]; simp
  simp only [fM] at hr
  rw [hoo', h3 i hi] at hr
  unfold rdW at hr
  rw [hat, yZ Dp _ hoo] at hw
  have hr := hr hw
  have hno : yG o = true := by
   unfold uR at hn
   have := dA.1 hn (i, m) hm
   simpa [ho] using this
  have hTm : trH ext[m]? H' = (T m).2 ∨ os.toArray.size < m := by
   unfold trH
   by_cases hm2 : m < os.toArray.size
   ·left; rw [h3 m hm2]
   ·by_cases hm3 : m = os.toArray.size
    ·left
     rw [eE (by omega), hm3, h1]
    ·right; omega
  rcases hTm with hTm | hTm
  ·rw [hTm, ← b1R (inv := inv), ← hat] at hr
   obtain ⟨v, H2, h7, h8⟩ := b1r hno hr
   exact ⟨H2, by rw [h7, h8]⟩
  ·exfalso
   rw [htb] at hm
   have := a1F hm
   rw [hsz] at this
   omega
 rw [h0, h1] at this
 exact ⟨_, _, _, this, h5⟩
end
def RA :=
 And.intro @b9X <| And.intro @b5i <| And.intro @b9l <| And.intro @c3i <| And.intro @c1M <| And.intro @b6q <| And.intro @c0g <| And.intro @c1L <| And.intro @b9P <| And.intro @b8W <| And.intro @b6e <| And.intro @a6k <| And.intro @b2o <| And.intro @b4Z <| And.intro @b2T <| And.intro @b0q <| And.intro @a8N <| And.intro @a8c <| And.intro @b5V <| And.intro @a8X <| And.intro @b6m <| And.intro @b4A <| And.intro @b1Z <| And.intro @b2u <| And.intro @b7N <| And.intro @b3i <| And.intro @a3f <| And.intro @a3y <| And.intro @a8K <| And.intro @b6u <| And.intro @b2a <| And.intro @b9E <| And.intro @a3A <| And.intro @a3o <| And.intro @b4X <| And.intro @c1t <| And.intro @a8v <| And.intro @a7d <| And.intro @b2Y <| And.intro @b7w <| And.intro @a4T <| And.intro @b0k <| And.intro @b0O <| And.intro @a8V <| And.intro @a8P <| And.intro @a6S <| And.intro @a3B <| And.intro @a6e <| And.intro @a2S <| And.intro @b3e <| And.intro @b9r <| And.intro @b8i <| And.intro @b6R <| And.intro @b0w <| And.intro @b2Z <| And.intro @b3Y <| And.intro @b0K <| And.intro @a9h <| And.intro @a7A <| And.intro @a8b <| And.intro @b4y <| And.intro @b3j <| And.intro @a3r <| And.intro @a9d <| And.intro @a7z <| And.intro @a3u <| And.intro @a8d <| And.intro @b0o <| And.intro @a6R <| @b4S
def RB :=
 And.intro @c0r <| And.intro @a9s <| And.intro @a9I <| And.intro @b2q <| And.intro @a9n <| And.intro @a8m <| And.intro @a7R <| And.intro @b5p <| And.intro @a7Y <| And.intro @a7K <| And.intro @c0m <| And.intro @b3F <| And.intro @a8O <| And.intro @b8T <| And.intro @b8j <| And.intro @b8H <| And.intro @b8q <| And.intro @a9o <| And.intro @a7j <| And.intro @b9p <| And.intro @c2i <| And.intro @b5l <| And.intro @a8j <| And.intro @b0v <| And.intro @b9y <| And.intro @b7W <| And.intro @b4u <| And.intro @b3N <| And.intro @b2V <| And.intro @b2J <| And.intro @b3J <| And.intro @b3M <| And.intro @b4i <| And.intro @b2U <| And.intro @b3z <| And.intro @b2n <| And.intro @b2R <| And.intro @b3a <| And.intro @b4b <| And.intro @b6l <| And.intro @b3h <| And.intro @a5q <| And.intro @b2b <| And.intro @b3K <| And.intro @b2e <| And.intro @b2d <| And.intro @b3S <| And.intro @b6L <| And.intro @b5U <| And.intro @b4V <| And.intro @b8N <| And.intro @b5v <| And.intro @a6T <| And.intro @a9g <| And.intro @b0d <| And.intro @b9O <| And.intro @b7l <| And.intro @a7o <| And.intro @b6B <| And.intro @b5m <| And.intro @b3D <| And.intro @a9b <| And.intro @b6o <| And.intro @b3H <| And.intro @a9p <| And.intro @b3u <| And.intro @b7v <| And.intro @b0e <| And.intro @b2F <| And.intro @b2z <| And.intro @b0P <| And.intro @b3W <| And.intro @b0M <| And.intro @b8B <| And.intro @a6y <| And.intro @a4B <| And.intro @a9T <| And.intro @a8B <| And.intro @c0h <| And.intro @b6V <| And.intro @b2g <| And.intro @b7j <| And.intro @b5n <| And.intro @b2L <| And.intro @b6P <| And.intro @b3A <| And.intro @a5w <| And.intro @b0f <| And.intro @a6q <| And.intro @a9N <| And.intro @a9D <| And.intro @b5P <| And.intro @b5d <| And.intro @b4m <| And.intro @b6K <| And.intro @a6D <| And.intro @a4Z <| And.intro @a8i <| And.intro @a8z <| And.intro @a6W <| And.intro @c5l <| And.intro @c3Y <| And.intro @b8l <| And.intro @b8J <| And.intro @b6F <| And.intro @b5Y <| And.intro @b7b <| And.intro @a8U <| And.intro @c0c <| And.intro @b7G <| And.intro @b8u <| And.intro @oQ <| And.intro @b6z <| And.intro @b4w <| @b9I
theorem RT :
 (∀ {α : Type} (l : List α), [] ++ l = l) ∧
 (∀ {α : Type} (l : List α), l ++ [] = l) ∧
 (∀ {α : Type} {a : α} {l m : List α}, a :: l ++ m = a :: (l ++ m)) ∧
 (∀ (cs : List Value) (i : Nat) (v : Value) (vs : List Value), jB cs i (v :: vs) = jB (cs.set i v) (i + 1) vs) ∧
 (∀ (cs : List Value) (i : Nat), jB cs i [] = cs) ∧
 (∀ {α : Type} {x : α} {xs : List α} {a : α}, (x :: xs).set 0 a = a :: xs) ∧
 (∀ {α : Type} {x : α} {xs : List α} {i : Nat} {a : α}, (x :: xs).set (i + 1) a = x :: xs.set i a) ∧
 (∀ (n : Nat), 0 + n = n) ∧
 (∀ (n : Nat), n * 1 = n) ∧
 (∀ (n : Nat), n + 0 = n) :=
 ⟨@List.nil_append, @List.append_nil, @List.cons_append, @lI, @pZ, @List.set_cons_zero, @List.set_cons_succ, @Nat.zero_add, @Nat.mul_one, @Nat.add_zero⟩
end Go.Ds
