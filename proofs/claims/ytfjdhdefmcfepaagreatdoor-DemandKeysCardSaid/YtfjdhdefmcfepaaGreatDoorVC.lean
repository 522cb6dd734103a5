/-
  A part of the proof of DemandKeys.
-/
import Derived.Test.YtfjdhdefmcfepaaGreatDoorVA
import Derived.Test.YtfjdhdefmcfepaaGreatDoorVB
import Derived.Test.YtfjdhdefmcfepaaGreatDoorProg
import Derived.KernelRfl
import Derived.Lib.LaidTab
import Derived.Stop.LaidErr
import Derived.Laws.Strings
set_option linter.unusedVariables false
set_option linter.unusedSimpArgs false
set_option linter.defProp false
set_option linter.unusedSectionVars false
namespace Go.Ds
noncomputable section
inductive Pth where
 | z
 | l (p : Pth)
 | r (p : Pth)
inductive Fr where
 | e
 | n (v : Value) (l r : Fr)
def a6f : Nat → Nat → Pth := fun f => Nat.rec (motive := fun _ => Nat → Pth) (fun _ => .z) (fun _ ih k => Nat.rec (motive := fun _ => Pth) .z (fun k _ => Bool.rec (motive := fun _ => Pth) (.r (ih (Nat.div k 2))) (.l (ih (Nat.div k 2))) (Nat.beq (Nat.mod k 2) 0)) k) f
def kV (k : Nat) : Pth := a6f k k
def oG (p : Pth) : Fr → Value := Pth.rec (motive := fun _ => Fr → Value)
 (fun f => Fr.rec (motive := fun _ => Value) undef (fun v _ _ _ _ => v) f)
 (fun _ ih f => Fr.rec (motive := fun _ => Value) undef (fun _ l _ _ _ => ih l) f)
 (fun _ ih f => Fr.rec (motive := fun _ => Value) undef (fun _ _ r _ _ => ih r) f) p
def qE {α : Type} (v : Value) (p : Pth) : Fr → (Fr → α) → α := Pth.rec (motive := fun _ => Fr → (Fr → α) → α)
 (fun f K => Fr.rec (motive := fun _ => α) (K (.n v .e .e)) (fun _ l r _ _ => K (.n v l r)) f)
 (fun _ ih f K => Fr.rec (motive := fun _ => α) (ih .e fun l => K (.n undef l .e)) (fun w l r _ _ => ih l fun l => K (.n w l r)) f)
 (fun _ ih f K => Fr.rec (motive := fun _ => α) (ih .e fun r => K (.n undef .e r)) (fun w l r _ _ => ih r fun r => K (.n w l r)) f) p
def lS {α : Type} (p : Pth) : (Pth → α) → α := Pth.rec (motive := fun _ => (Pth → α) → α) (fun K => K .z) (fun _ ih K => ih fun p => K (.l p)) (fun _ ih K => ih fun p => K (.r p)) p
inductive LArg where
 | t (p : Pth)
 | c (v : Value)
def mS (f : Fr) (x : LArg) : Value := LArg.rec (motive := fun _ => Value) (fun p => oG p f) (fun v => v) x
inductive Rs where
 | no
 | ok (v : Value) (H : Heap)
 | th (v : Value) (H : Heap)
def oS {α : Type} (v : Value) (K : Value → α) : α :=
 match v with
 | .bool b => K (.bool b)
 | .int k n => K (.int k n)
 | .string s => K (.string s)
 | .pointer a => K (.pointer a)
 | .slice a n c => K (.slice a n c)
 | .map r => K (.map r)
 | .func fn a b => K (.func fn a b)
 | .agg cs => K (.agg cs)
 | .tuple vs => K (.tuple vs)
 | v => K v
inductive LOp where
 | bad
 | mv (x : LArg)
 | pick (c a b : LArg)
 | bin (g : IntKind → Int → Int → Option Value) (x y : LArg)
 | not (x : LArg)
 | ld1 (x : LArg)
 | ldn (n : Nat) (x : LArg)
 | st (n : Nat) (x y : LArg)
 | fa (off : Nat) (x : LArg)
 | ixs (size : Nat) (x i : LArg)
 | ixa (n size : Nat) (x i : LArg)
 | ext (i : Nat) (x : LArg)
 | f1 (off : Nat) (x : LArg)
 | fn (off n : Nat) (x : LArg)
 | len (x : LArg)
 | slen (x : LArg)
 | app (elem size bytes : Nat) (x y : LArg)
 | alloc (t : TypeId) (cs : List Value)
 | callF (f : FuncId) (p : Pth) (args : List LArg)
 | callV (g : LArg) (args : List LArg)
 | gen (o : Oper)
inductive LOps where
 | nil
 | cons (d : Option Pth) (o : LOp) (rest : LOps)
 | gcons (p : Pth) (w : Bool) (d : Option Pth) (o : LOp) (rest : LOps)
inductive LCode where
 | bad
 | skip
 | reg (ops : LOps)
 | drw (ops : LOps) (tab : List (Nat × Option Nat × Option (Pth × Bool) × LOp))
 | seq (a b : LCode)
 | cond (c : LArg) (x y : LCode)
 | block (id : Nat) (b : LCode)
 | loop (b : LCode)
 | exit (id : Nat)
 | ret
 | range (g : LArg) (ps : List Pth) (pp : List Pth) (params : Array Tmp) (assign body : Code) (a b : LCode)
inductive LRes where
 | t (p : Pth)
 | c1 (p : Pth)
 | cn (n : Nat) (p : Pth)
structure LFunc where
 ps : List Pth
 body : LCode
 res : List LRes
inductive LT where
 | e
 | n (g : Option LFunc) (l r : LT)
def a2U (p : Pth) : LT → Option LFunc := Pth.rec (motive := fun _ => LT → Option LFunc)
 (fun f => LT.rec (motive := fun _ => Option LFunc) none (fun v _ _ _ _ => v) f)
 (fun _ ih f => LT.rec (motive := fun _ => Option LFunc) none (fun _ l _ _ _ => ih l) f)
 (fun _ ih f => LT.rec (motive := fun _ => Option LFunc) none (fun _ _ r _ _ => ih r) f) p
def sK {α : Type} (v : LFunc) (p : Pth) : LT → (LT → α) → α := Pth.rec (motive := fun _ => LT → (LT → α) → α)
 (fun f K => LT.rec (motive := fun _ => α) (K (.n (some v) .e .e)) (fun _ l r _ _ => K (.n (some v) l r)) f)
 (fun _ ih f K => LT.rec (motive := fun _ => α) (ih .e fun l => K (.n none l .e)) (fun w l r _ _ => ih l fun l => K (.n w l r)) f)
 (fun _ ih f K => LT.rec (motive := fun _ => α) (ih .e fun r => K (.n none .e r)) (fun w l r _ _ => ih r fun r => K (.n w l r)) f) p
structure LEnv where
 L : Nat
 ps : List Pth
 pp : List Pth
 a : LCode
 b : LCode
def c0D (P : Program) (o : Oper) (ρ : Operand → Value) (H : Heap) : Option (Value × Heap) :=
 if o.op.operands.toList.all (fun x => flat (ρ x)) then
  match iN P (execOp ρ o) with
  | some (.value v) => if flat v then some (v, H) else none
  | _ => none
 else none
def c2y (P : Program) (o : Oper) (ρ : Operand → Value) (H : Heap) : Option (Value × Heap) :=
 let keep (v : Option Value) : Option (Value × Heap) := v.map fun v => (v, H)
 let plain : Option (Value × Heap) := c0D P o ρ H
 match o.op with
 | .move x | .assign x => some (ρ x, H)
 | .pick c a b => match ρ c with | .bool t => some (if t then ρ a else ρ b, H) | _ => none
 | .alloc t => (jB P t).bind fun z => if jC z then rA P H t z else none
 | .box t x => xK P H t (ρ x)
 | .build t parts =>
   let ps := parts.toList.map fun (i, x) => (i, ρ x)
   if (jB P t).any jC && ps.all (fun x => x.2.cells.toList.all oneCell) then
    (P.built t ps).map fun cs => (.agg cs, H)
   else none
 | .buildSlice t len parts =>
   (iI P t).bind fun elem => (iE P elem).bind fun size => (jB P elem).bind fun z =>
   let ps := parts.toList.map fun (i, x) => (i, ρ x)
   if len == 0 && ps.isEmpty && size != 0 then some (.slice (some ⟨H.length, 0, some 0⟩) 0 size, sB H elem []) else
   if jC z && ps.all (fun x => x.2.cells.toList.all oneCell) && len * size ≤ 2 ^ 24 && len * size != 0 && z.cells.size == size then
    (Instr.fill (fun i => some (i * size, size)) ((Array.range (len * size)).map (z.cells[· % z.cells.size]!)) ps).map fun cs =>
      (.slice (some ⟨H.length, 0, some cs.toList.length⟩) len size, sB H elem cs.toList)
   else none
 | .makeSlice t n c =>
   (iI P t).bind fun elem => (iE P elem).bind fun size => (nC P elem).bind fun bytes => (jB P elem).bind fun z =>
   match ρ n, ρ c with
   | .int .i64 a, .int .i64 b =>
     if jC z && decide (a ≤ b) && 0 ≤ a && b * (bytes + 1) ≤ (oC : Int) && size != 0 && z.cells.size == size then
      let cs := if size = 1 then List.replicate b.toNat (z.cells[0]!) else (madeCells z.cells (b.toNat * size)).toList
      some (.slice (some ⟨H.length, 0, some cs.length⟩) a.toNat size, sB H elem cs)
     else none
   | _, _ => none
 | .load t a => keep (lO P H t (ρ a))
 | .store t a x => (rK P H t (ρ a) (ρ x)).map fun H => (undef, H)
 | .nilCheck x => match ρ x with
   | .pointer (some a) => some (.pointer (some a), H)
   | .func (.func f) a b => some (.func (.func f) a b, H)
   | _ => none
 | .fieldAddr s x f => match ρ x with
   | .pointer (some ⟨A, i, some e⟩) => (oX P s f).bind fun fd => (iE P fd.type).bind fun n => if n == 0 then none else some (.pointer (some ⟨A, i + fd.offset, some e⟩), H)
   | _ => none
 | .indexAddr t x ix => match P.underlying t, ρ x, ρ ix with
   | some (.slice elem), .slice (some ⟨A, i, some e⟩) n _, .int _ j => (iE P elem).bind fun size =>
     if 0 ≤ j && j < n then some (.pointer (some ⟨A, i + j.toNat * size, some e⟩), H) else none
   | some (.array n elem), .pointer (some ⟨A, i, some e⟩), .int _ j => (iE P elem).bind fun size =>
     if 0 ≤ j && j < n then some (.pointer (some ⟨A, i + j.toNat * size, some e⟩), H) else none
   | some (.array n elem), .pointer (some ⟨A, i, none⟩), .int _ j => (iE P elem).bind fun size =>
     if 0 ≤ j && j < n then some (.pointer (some ⟨A, i + j.toNat * size, none⟩), H) else none
   | _, _, _ => none
 | .slice t x lo hi none => if flat (ρ x) then plain else match jT P t with
   | some (n, elem) => keep (a5L P H n elem (ρ x) (lo.map ρ) (hi.map ρ))
   | none => keep (xP P t (ρ x) (lo.map ρ) (hi.map ρ))
 | .field t x f => if flat (ρ x) then plain else
   match ρ x with
   | .agg cs => (oX P t f).bind fun fd => match jR P fd.type with
     | some true => (iE P fd.type).map fun n => (.agg (cs.extract fd.offset (fd.offset + n)), H)
     | some false => (cs[fd.offset]?).map fun v => (v, H)
     | none => none
   | _ => none
 | .extract t i => match ρ t with
   | .tuple vs => (vs[i]?).map fun v => (v, H)
   | _ => none
 | .makeFunc fn first captured => match fn with
   | .func f => if (first ++ captured).toList.all (fun x => qB (ρ x)) then some (.func (.func f) (first.map ρ) (captured.map ρ), H) else none
   | _ => none
 | .binOp op t x y _ => match op, ρ x, ρ y with
   | .eql, .slice (some _) _ _, .slice none 0 0 => if ((P.underlying t).map wB) == some true then some (.bool false, H) else none
   | .neq, .slice (some _) _ _, .slice none 0 0 => if ((P.underlying t).map wB) == some true then some (.bool true, H) else none
   | op, .int k a, .int k' b => if k = k' then (match mR op k a b with | some v => some (v, H) | none => plain) else plain
   | .eql, .pointer (some _), .pointer none => if uE P t then some (.bool false, H) else none
   | .neq, .pointer (some _), .pointer none => if uE P t then some (.bool true, H) else none
   | .eql, .pointer (some ⟨A, i, some e⟩), .pointer (some ⟨A', i', some e'⟩) => if uE P t && A == A' && i == i' && e == e' then some (.bool true, H) else none
   | .neq, .pointer (some ⟨A, i, some e⟩), .pointer (some ⟨A', i', some e'⟩) => if uE P t && A == A' && i == i' && e == e' then some (.bool false, H) else none
   | _, _, _ => plain
 | .call c => match c.callee with
   | .builtin .len => if c.args.size == 1 && c.argTypes.size == 1 then
      match (P.underlying (c.argTypes.getD 0 0)), ρ (c.args.getD 0 (.tmp 0)) with
      | some (.slice _), .slice a n k => keep (xW H (.slice a n k))
      | some .string, .string s => keep (xW H (.string s))
      | some (.map _ _), .map r => keep (xW H (.map r))
      | _, _ => none
     else none
   | .builtin .append => if c.args.size == 2 && c.argTypes.size == 2 && ((P.underlying (c.argTypes.getD 1 0)).map qD) == some true then
      nT P H (c.argTypes.getD 0 0) (ρ (c.args.getD 0 (.tmp 0))) (ρ (c.args.getD 1 (.tmp 0)))
     else none
   | .builtin .copy => if c.args.size == 2 && c.argTypes.size == 2 then a1t P H (c.argTypes.getD 0 0) (ρ (c.args.getD 0 (.tmp 0))) (ρ (c.args.getD 1 (.tmp 0))) else none
   | .builtin .clear => if c.args.size == 1 && c.argTypes.size == 1 then tI P H (c.argTypes.getD 0 0) (ρ (c.args.getD 0 (.tmp 0))) else none
   | .builtin .cap => plain
   | .builtin .unsafeSliceData => if c.args.size == 1 && c.argTypes.size == 1 then match ρ (c.args.getD 0 (.tmp 0)) with
      | .slice (some a) n _ => if n == 0 then none else some (.pointer (some a), H)
      | _ => none
     else none
   | .builtin .unsafeString => if c.args.size == 2 && c.argTypes.size == 2 then wA P H (c.argTypes.getD 0 0) (ρ (c.args.getD 0 (.tmp 0))) (ρ (c.args.getD 1 (.tmp 0))) else none
   | .builtin .max => plain
   | .builtin .min => plain
   | _ => none
 | .unOp op _ x => match op, ρ x with
   | .not, .bool b => some (.bool (!b), H)
   | _, _ => plain
 | .makeMap t r => qA P H t (r.map ρ)
 | .lookup t x k c => keep (pT P H t (ρ x) (ρ k) c)
 | .mapUpdate t m k v => (a1y P H t (ρ m) (ρ k) (ρ v)).map fun H => (undef, H)
 | .mapEntry t m k => tY P H t (ρ m) (ρ k)
 | .entryStore _ m b v => (sC H (ρ m) (ρ b) (ρ v)).map fun H => (undef, H)
 | .convert s t x => if flat (ρ x) && !(lF P t) then plain else match ρ x with
   | .slice (some ⟨A, i, some e⟩) n _ => if lF P s && oH P t then keep ((jD H A i e n).bind fun l => (nO l).map .string) else none
   | .string b => if lF P t && oH P s && b.size ≤ 2 ^ 40 then (iI P t).bind fun elem => some (.slice (some ⟨H.length, 0, some b.size⟩) b.size 1, b5u H elem (b.data.toList.map fun c => .int .u8 c.toNat)) else none
   | .pointer (some ⟨A, 0, some e⟩) => if a3Y P H s t A e then some (.pointer (some ⟨A, 0, some e⟩), H) else none
   | _ => none
 | .index _ _ _ => plain
 | .makeInterface _ _ => plain
 | _ => none
def oD {α : Type} (b : Bool) (no : α) (x : α) : α := Bool.rec (motive := fun _ => α) no x b
def a8l {α : Type} (cs : List α) : Nat → Bool := List.rec (motive := fun _ => Nat → Bool) (fun e => Nat.beq e 0) (fun _ _ ih e => Nat.rec (motive := fun _ => Bool) true (fun m _ => ih m) e) cs
def a4O {α : Type} (cs : List α) : Nat → Bool := List.rec (motive := fun _ => Nat → Bool) (fun e => Nat.beq e 0) (fun _ _ ih e => Nat.rec (motive := fun _ => Bool) false (fun m _ => ih m) e) cs
def a1A {α : Type} (cs : List α) : Nat → Option α := List.rec (motive := fun _ => Nat → Option α) (fun _ => none) (fun v _ ih e => Nat.rec (motive := fun _ => Option α) (some v) (fun m _ => ih m) e) cs
def a2Y {α : Type} (cs : List α) : Nat → (List α → Rs) → Rs := List.rec (motive := fun _ => Nat → (List α → Rs) → Rs) (fun n K => Nat.rec (motive := fun _ => Rs) (K []) (fun _ _ => .no) n) (fun v _ ih n K => Nat.rec (motive := fun _ => Rs) (K []) (fun m _ => ih m fun l => K (v :: l)) n) cs
def b2m {α : Type} (cs : List α) : Nat → List α := List.rec (motive := fun _ => Nat → List α) (fun _ => []) (fun v t ih n => Nat.rec (motive := fun _ => List α) (v :: t) (fun m _ => ih m) n) cs
def kIx (k : IntKind) : Nat := IntKind.rec (motive := fun _ => Nat) 0 1 2 3 4 5 6 7 k
def hMv (x : LArg) (f : Fr) (H : Heap) : Rs := oS (mS f x) fun v => .ok v H
def b6p (c a b : LArg) (f : Fr) (H : Heap) : Rs := match mS f c with
 | .bool t => oS (mS f (Bool.rec (motive := fun _ => LArg) b a t)) fun v => .ok v H
 | _ => .no
def oV (v : Option Value) (H : Heap) : Rs := Option.rec (motive := fun _ => Rs) .no (fun v => .th v H) v
def c1O (g : IntKind → Int → Int → Option Value) (k : IntKind) (a : Int) (H : Heap) (y : Value) : Rs := match y with
 | .int k' b => oD (Nat.beq (kIx k) (kIx k')) .no (oV (g k a b) H)
 | _ => .no
def c3f (g : IntKind → Int → Int → Option Value) (x y : LArg) (f : Fr) (H : Heap) : Rs := match mS f x with
 | .int k a => c1O g k a H (mS f y)
 | _ => .no
def c7s (x : LArg) (f : Fr) (H : Heap) : Rs := match mS f x with
 | .bool b => .ok (.bool (Bool.rec (motive := fun _ => Bool) true false b)) H
 | _ => .no
def b9G (b : Option Blk) (i e : Nat) (H : Heap) : Rs := match b with
 | some (.cells cs _ _ lo _) => oD (Nat.ble lo e) .no (oD (a8l cs e) .no (oD (Nat.ble (Nat.succ i) e) .no (Option.rec (motive := fun _ => Rs) .no (fun v => oS v fun v => .ok v H) (a1A cs i))))
 | _ => .no
def c3b (b : Option Blk) (i : Nat) (H : Heap) : Rs := match b with
 | some (.cells cs _ false lo 1) => oD (a8l cs lo) .no (Option.rec (motive := fun _ => Rs) .no (fun v => oS v fun v => .ok v H) (a1A cs i))
 | _ => .no
def b3B (x : LArg) (f : Fr) (H : Heap) : Rs := match mS f x with
 | .pointer (some ⟨A, i, some e⟩) => b9G (iR H A) i e H
 | .pointer (some ⟨A, i, none⟩) => c3b (iR H A) i H
 | _ => .no
def b8W (b : Option Blk) (n i e : Nat) (H : Heap) : Rs := match b with
 | some (.cells cs _ _ lo _) => oD (Nat.ble lo e) .no (oD (a8l cs e) .no (oD (Nat.ble (Nat.add i n) e) .no (a2Y (b2m cs i) n fun l => .ok (.agg ⟨l⟩) H)))
 | _ => .no
def b4l (n : Nat) (x : LArg) (f : Fr) (H : Heap) : Rs := match mS f x with
 | .pointer (some ⟨A, i, some e⟩) => b8W (iR H A) n i e H
 | _ => .no
def stB (b : Option Blk) (n A i e : Nat) (vs : List Value) (H : Heap) : Rs := match b with
 | some (.cells cs ty true lo ver) => oD (a4O vs n) .no (oD (vs.all oneCell) .no (oD (a4O cs e) .no (oD (Nat.ble (Nat.add i n) e) .no (oD (Nat.ble lo e) .no
    (.th undef (hset H A (.cells (iX cs i vs) ty true e ver)))))))
 | _ => .no
def hSt (n : Nat) (x y : LArg) (f : Fr) (H : Heap) : Rs := match mS f x with
 | .pointer (some ⟨A, i, some e⟩) => stB (iR H A) n A i e (mS f y).cells.toList H
 | _ => .no
def hFa (off : Nat) (x : LArg) (f : Fr) (H : Heap) : Rs := match mS f x with
 | .pointer (some ⟨A, i, some e⟩) => kE (Nat.add i off) fun i => .ok (.pointer (some ⟨A, i, some e⟩)) H
 | _ => .no
def ixP (A i e size n : Nat) (H : Heap) (j : Value) : Rs := match j with
 | .int _ (.ofNat j) => oD (Nat.blt j n) .no (kE (Nat.add i (Nat.mul j size)) fun i => .ok (.pointer (some ⟨A, i, some e⟩)) H)
 | _ => .no
def c2v (size : Nat) (x i : LArg) (f : Fr) (H : Heap) : Rs := match mS f x with
 | .slice (some ⟨A, a, some e⟩) n _ => ixP A a e size n H (mS f i)
 | _ => .no
def ixG (A i size n : Nat) (H : Heap) (j : Value) : Rs := match j with
 | .int _ (.ofNat j) => oD (Nat.blt j n) .no (kE (Nat.add i (Nat.mul j size)) fun i => .ok (.pointer (some ⟨A, i, none⟩)) H)
 | _ => .no
def c2q (n size : Nat) (x i : LArg) (f : Fr) (H : Heap) : Rs := match mS f x with
 | .pointer (some ⟨A, a, some e⟩) => ixP A a e size n H (mS f i)
 | .pointer (some ⟨A, a, none⟩) => ixG A a size n H (mS f i)
 | _ => .no
def okV (v : Option Value) (H : Heap) : Rs := Option.rec (motive := fun _ => Rs) .no (fun v => oS v fun v => .ok v H) v
def c2x (i : Nat) (x : LArg) (f : Fr) (H : Heap) : Rs := match mS f x with
 | .tuple ⟨vs⟩ => okV (a1A vs i) H
 | _ => .no
def hF1 (off : Nat) (x : LArg) (f : Fr) (H : Heap) : Rs := match mS f x with
 | .agg ⟨cs⟩ => okV (a1A cs off) H
 | _ => .no
def hFn (off n : Nat) (x : LArg) (f : Fr) (H : Heap) : Rs := match mS f x with
 | .agg ⟨cs⟩ => a2Y (b2m cs off) n fun l => .ok (.agg ⟨l⟩) H
 | _ => .no
def c1Y (x : LArg) (f : Fr) (H : Heap) : Rs := match mS f x with
 | .slice _ n _ => .th (goInt n) H
 | _ => .no
def b7C (x : LArg) (f : Fr) (H : Heap) : Rs := match mS f x with
 | .string s => .th (goInt s.size) H
 | _ => .no
def c4s (b : Option Blk) (elem size bytes A i e k : Nat) (n : Nat) (l : List Value) (P : Program) (H : Heap) : Rs := match b with
 | some (.cells cs ty true lo ver) => oD (Bool.rec (motive := fun _ => Bool) (iE P ty == some size) true (Nat.beq ty elem)) .no (oD (a4O cs e) .no (oD (Nat.ble lo e) .no
    (oD (Nat.beq (Nat.add i (Nat.mul k size)) e)
      (oD (Nat.beq n 0) (oD (Nat.ble (Nat.add i (Nat.mul (Nat.add k n) size)) e) .no (.th (.slice (some ⟨A, i, some e⟩) (k + n) size) (hset H A (.cells (iX cs (i + k * size) l) ty true e ver)))) .no)
      (oD (Nat.ble (Nat.mul (Nat.add k n) (Nat.succ bytes)) oC) .no (.th (.slice (some ⟨A, i, some (e + l.length)⟩) (k + n) size) (hset H A (.cells (a6h cs l) ty true lo (Bool.rec (motive := fun _ => Nat) 2 ver (Nat.beq ty elem)))))))))
 | _ => .no
def c4T (P : Program) (elem size bytes : Nat) (s : Value) (H : Heap) (n : Nat) (l : List Value) : Rs := match s with
 | .slice none k c => oD (Nat.beq k 0) .no (oD (Nat.beq c 0) .no (oD (Nat.ble (Nat.mul n (Nat.succ bytes)) oC) .no (oD (Nat.beq n 0) (.th (.slice (some ⟨H.length, 0, some l.length⟩) n size) (sB H elem l)) (.ok (.slice none 0 0) H))))
 | .slice (some ⟨A, i, some e⟩) k _ => c4s (iR H A) elem size bytes A i e k n l P H
 | _ => .no
def c2d (P : Program) (elem size bytes : Nat) (x y : LArg) (f : Fr) (H : Heap) : Rs := match a0G H size (mS f y) with
 | some (n, l) => c4T P elem size bytes (mS f x) H n l
 | none => .no
def c2C (t : TypeId) (cs : List Value) (_ : Fr) (H : Heap) : Rs := .th (.pointer (some ⟨H.length, 0, some cs.length⟩)) (sB H t cs)
def evF (f : Fr) : Operand → Value
 | .tmp t => oG (kV t) f
 | .const v => v
 | .global g => .pointer (some ⟨g, 0, none⟩)
 | .func k => .func (.func k) #[] #[]
def c8p (P : Program) (o : Oper) (f : Fr) (H : Heap) : Rs := match c2y P o (evF f) H with
 | some (v, H1) => .th v H1
 | none => .no
def a3U {α : Type} (f : Fr) (l : List LArg) : (List Value → α) → α := List.rec (motive := fun _ => (List Value → α) → α) (fun K => K []) (fun x _ ih K => oS (mS f x) fun v => ih fun l => K (v :: l)) l
structure Calls' where
 fn : Pth → FuncId → List Value → Heap → Rs
 rd : Nat → List Value → Heap → Rs
def c4a (C : Calls') (k : FuncId) (p : Pth) (args : List LArg) (f : Fr) (H : Heap) : Rs := a3U f args fun l => C.fn p k l H
def b0x (C : Calls') (l : List Value) (H : Heap) (g : Value) : Rs := match g with
 | .func (.func k) ⟨a⟩ ⟨b⟩ => kE k fun k => lS (kV k) fun p => C.fn p k (a6h a (a6h l b)) H
 | .func (.yield L) _ _ => C.rd L l H
 | _ => .no
def c2X (C : Calls') (g : LArg) (args : List LArg) (f : Fr) (H : Heap) : Rs := a3U f args fun l => b0x C l H (mS f g)
def c8v (_ : Fr) (_ : Heap) : Rs := .no
def opF (P : Program) (C : Calls') (o : LOp) : Fr → Heap → Rs :=
 LOp.rec (motive := fun _ => Fr → Heap → Rs) c8v hMv b6p c3f c7s b3B b4l hSt hFa c2v c2q c2x hF1 hFn c1Y b7C (c2d P) c2C (c4a C) (c2X C) (c8p P) o
inductive Rf where
 | no
 | ok (f : Fr) (H : Heap)
def vQ {α : Type} (d : Option Pth) (v : Value) (f : Fr) (K : Fr → α) : α := Option.rec (motive := fun _ => α) (K f) (fun p => qE v p f K) d
def b1R {α : Type} (no : α) (d : Option Pth) (f : Fr) (K : Fr → Heap → α) (r : Rs) : α :=
 Rs.rec (motive := fun _ => α) no (fun v H => vQ d v f fun f => K f H) (fun v H => zP v fun v => nZ H fun H => vQ d v f fun f => K f H) r
def isB (v : Value) (w : Bool) : Bool := match v with
 | .bool b => Bool.rec (motive := fun _ => Bool) (Bool.rec (motive := fun _ => Bool) true false w) w b
 | _ => false
def zG (P : Program) (C : Calls') (ops : LOps) : Fr → Heap → Rf := LOps.rec (motive := fun _ => Fr → Heap → Rf)
 (fun f H => .ok f H)
 (fun d o _ ih f H => b1R .no d f ih (opF P C o f H))
 (fun p w d o _ ih f H => oD (isB (oG p f) w) (vQ d undef f fun f => ih f H) (b1R .no d f ih (opF P C o f H))) ops
inductive Rt where
 | no
 | ok (tr : List (Fr × Heap × Value)) (f : Fr) (H : Heap)
def b1U (tr : List (Fr × Heap × Value)) (f0 : Fr) (H0 : Heap) (d : Option Pth) (K : List (Fr × Heap × Value) → Fr → Heap → Rt) (r : Rs) : Rt :=
 Rs.rec (motive := fun _ => Rt) .no (fun v H => vQ d v f0 fun f => K ((f0, H0, v) :: tr) f H) (fun v H => zP v fun v => nZ H fun H => vQ d v f0 fun f => K ((f0, H0, v) :: tr) f H) r
def rN (P : Program) (C : Calls') (ops : LOps) : List (Fr × Heap × Value) → Fr → Heap → Rt := LOps.rec (motive := fun _ => List (Fr × Heap × Value) → Fr → Heap → Rt)
 (fun tr f H => .ok tr f H)
 (fun d o _ ih tr f H => b1U tr f H d ih (opF P C o f H))
 (fun p w d o _ ih tr f H => oD (isB (oG p f) w) (vQ d undef f fun f1 => ih ((f, H, undef) :: tr) f1 H) (b1U tr f H d ih (opF P C o f H))) ops
def b8A (v : Value) (r : Rs) : Bool := Rs.rec (motive := fun _ => Bool) false (fun w _ => veq w v) (fun w _ => veq w v) r
def b5B (f : Fr) (g : Option (Pth × Bool)) : Bool := match g with
 | none => true
 | some (p, w) => isB (oG p f) w
def b6T (P : Program) (C : Calls') (tr : List (Fr × Heap × Value)) (H1 : Heap) (x : Nat × Option Nat × Option (Pth × Bool) × LOp) : Bool :=
 match a1A tr x.1 with
 | some (f, _, v) => oD (b5B f x.2.2.1) true (match x.2.1 with
   | none => b8A v (opF P C x.2.2.2 f H1)
   | some m => match a1A tr m with
     | some (_, H, _) => b8A v (opF P C x.2.2.2 f H)
     | none => false)
 | none => false
def b8j {α : Type} (p : α → Bool) (l : List α) : Bool := List.rec (motive := fun _ => Bool) true (fun x _ ih => oD (p x) false ih) l
inductive Rc where
 | no
 | ok (e : Ex) (f : Fr) (H : Heap)
def c6P (r : Rf) : Rc := Rf.rec (motive := fun _ => Rc) .no (fun f H => .ok .normal f H) r
def c1l (P : Program) (C : Calls') (tab : List (Nat × Option Nat × Option (Pth × Bool) × LOp)) (r : Rt) : Rc := Rt.rec (motive := fun _ => Rc) .no (fun tr f H => oD (b8j (b6T P C tr H) tab) .no (.ok .normal f H)) r
def pI {α : Type} (no : α) (l : List Value) : List Pth → Fr → (Fr → α) → α := List.rec (motive := fun _ => List Pth → Fr → (Fr → α) → α) (fun _ f K => K f)
 (fun v _ ih ps f K => List.rec (motive := fun _ => α) no (fun p ps _ => qE v p f fun f => ih ps f K) ps) l
def a4i (H : Heap) (f : Fr) (r : LRes) : Rs := LRes.rec (motive := fun _ => Rs) (fun p => oS (oG p f) fun v => .ok v H) (fun p => b3B (.t p) f H) (fun n p => b4l n (.t p) f H) r
def b7c (H : Heap) (f : Fr) (l : List LRes) : (List Value → Rs) → Rs := List.rec (motive := fun _ => (List Value → Rs) → Rs) (fun K => K []) (fun r _ ih K => Rs.rec (motive := fun _ => Rs) .no (fun v _ => ih fun l => K (v :: l)) (fun _ _ => .no) (a4i H f r)) l
def noT (v : Value) : Bool := match v with | .tuple _ => false | _ => true
def a6z (l : List LRes) (f : Fr) (H : Heap) : Rs := match l with
 | [r] => a4i H f r
 | l => b7c H f l fun vs => oD (b8j noT vs) .no (.ok (.tuple ⟨vs⟩) H)
def c2e (l : List LRes) (r : Rc) : Rs := match r with
 | .ok .normal f H => a6z l f H
 | .ok .ret f H => a6z l f H
 | _ => .no
abbrev qO := List LEnv → LCode → Fr → Heap → Rc
def c3r (P : Program) (k : FuncId) (args : List Value) (H : Heap) : Rs := match qP P k args H with
 | some (v, H1) => .th v H1
 | none => .no
def nB (T : LT) (ih : qO) (E : List LEnv) (p : Pth) (args : List Value) (H : Heap) : Rs := match a2U p T with
 | some g => pI .no args g.ps .e fun f => c2e g.res (ih E g.body f H)
 | none => .no
def b5k (P : Program) (T : LT) (ih : qO) (E : List LEnv) (p : Pth) (k : FuncId) (args : List Value) (H : Heap) : Rs := match a2U p T with
 | some g => pI .no args g.ps .e fun f => c2e g.res (ih E g.body f H)
 | none => c3r P k args H
def b5x (E : List LEnv) (L : Nat) : Option LEnv := List.rec (motive := fun _ => Option LEnv) none (fun e _ ih => oD (Nat.beq e.L L) ih (some e)) E
def c1L (e : Ex) : Option Code := match e with | .normal => none | .ret => some .ret | .exit id => some (.exit id)
def a2x (L : Nat) (e : Ex) (H : Heap) : Rs := match iR H L with
 | some (.loop ⟨_, _, fn, tmps, ps, a, b, d⟩) => match c1L e with
   | none => .th (.bool true) (hset H L (.loop ⟨.ready, none, fn, tmps, ps, a, b, d⟩))
   | some c => .th (.bool false) (hset H L (.loop ⟨.done, some c, fn, tmps, ps, a, b, d⟩))
 | _ => .no
def b3W (L : Nat) (r : Rc) : Rs := match r with
 | .ok e _ H => a2x L e H
 | .no => .no
def a1a (ih : qO) (E : List LEnv) (en : LEnv) (f : Fr) (H : Heap) : Rs := match iR H en.L with
 | some (.loop ⟨.ready, p, fn, tmps, ps, a, b, d⟩) => nZ (hset H en.L (.loop ⟨.busy, p, fn, tmps, ps, a, b, d⟩)) fun H => b3W en.L (ih E en.b f H)
 | _ => .no
def tF (ih : qO) (E : List LEnv) (en : LEnv) (r : Rc) : Rs := match r with
 | .ok .normal f H => a1a ih E en f H
 | _ => .no
def b0P (ih : qO) (E : List LEnv) (L : Nat) (args : List Value) (H : Heap) : Rs := match b5x E L with
 | some en => match iR H L with
   | some (.loop ⟨.ready, _, _, ⟨tmps⟩, ps, _, _, _⟩) => oD (a4O args ps.size) .no (pI .no tmps en.ps .e fun f => pI .no args en.pp f fun f => tF ih E en (ih E en.a f H))
   | _ => .no
 | none => .no
def a1c (P : Program) (T : LT) (ih : qO) (E : List LEnv) : Calls' := ⟨b5k P T ih E, b0P ih E⟩
def c8o (_ : Fr) (_ : Heap) : Rc := .no
def c4G (f : Fr) (H : Heap) : Rc := .ok .normal f H
def c7q (P : Program) (T : LT) (ih : qO) (E : List LEnv) (ops : LOps) (f : Fr) (H : Heap) : Rc := c6P (zG P (a1c P T ih E) ops f H)
def c7K (P : Program) (T : LT) (ih : qO) (E : List LEnv) (ops : LOps) (tab : List (Nat × Option Nat × Option (Pth × Bool) × LOp)) (f : Fr) (H : Heap) : Rc := c1l P (a1c P T ih E) tab (rN P (a1c P T ih E) ops [] f H)
def b8I (ih : qO) (E : List LEnv) (b : LCode) (r : Rc) : Rc := match r with
 | .ok .normal f H => ih E b f H
 | r => r
def c7u (ih : qO) (E : List LEnv) (a b : LCode) (_ _ : Fr → Heap → Rc) (f : Fr) (H : Heap) : Rc := b8I ih E b (ih E a f H)
def b7F (ih : qO) (E : List LEnv) (c : LArg) (x y : LCode) (_ _ : Fr → Heap → Rc) (f : Fr) (H : Heap) : Rc := match mS f c with
 | .bool t => ih E (Bool.rec (motive := fun _ => LCode) y x t) f H
 | _ => .no
def c5s (id : Nat) (r : Rc) : Rc := match r with
 | .ok (.exit i) f H => .ok (Bool.rec (motive := fun _ => Ex) (.exit i) .normal (Nat.beq i id)) f H
 | r => r
def c3d (ih : qO) (E : List LEnv) (id : Nat) (b : LCode) (_ : Fr → Heap → Rc) (f : Fr) (H : Heap) : Rc := c5s id (ih E b f H)
def c6v (ih : qO) (E : List LEnv) (b : LCode) (_ : Fr → Heap → Rc) (f : Fr) (H : Heap) : Rc := b8I ih E (.loop b) (ih E b f H)
def c5V (id : Nat) (f : Fr) (H : Heap) : Rc := .ok (.exit id) f H
def c7a (f : Fr) (H : Heap) : Rc := .ok .ret f H
def frL {α : Type} (f : Fr) (ps : List Pth) : (List Value → α) → α := List.rec (motive := fun _ => (List Value → α) → α) (fun K => K []) (fun p _ ih K => oS (oG p f) fun v => ih fun l => K (v :: l)) ps
def vE (L : Nat) (f : Fr) (H : Heap) : Rc := match iR H L with
 | some (.loop ⟨.ready, none, fn, tmps, ps, a, b, d⟩) => nZ (hset H L (.loop ⟨.exhausted, none, fn, tmps, ps, a, b, d⟩)) fun H => .ok .normal f H
 | some (.loop ⟨.done, none, fn, tmps, ps, a, b, d⟩) => nZ (hset H L (.loop ⟨.exhausted, none, fn, tmps, ps, a, b, d⟩)) fun H => .ok .normal f H
 | some (.loop ⟨.done, some .ret, fn, tmps, ps, a, b, d⟩) => nZ (hset H L (.loop ⟨.exhausted, some .ret, fn, tmps, ps, a, b, d⟩)) fun H => .ok .ret f H
 | some (.loop ⟨.done, some (.exit id), fn, tmps, ps, a, b, d⟩) => nZ (hset H L (.loop ⟨.exhausted, some (.exit id), fn, tmps, ps, a, b, d⟩)) fun H => .ok (.exit id) f H
 | _ => .no
def b4c (L : Nat) (f : Fr) (r : Rs) : Rc := match r with
 | .no => .no
 | .ok _ H => vE L f H
 | .th _ H => nZ H fun H => vE L f H
def b1K (T : LT) (ih : qO) (E : List LEnv) (f : Fr) (L : Nat) (k : FuncId) (args : List Value) (H : Heap) : Rc := lS (kV k) fun p => b4c L f (nB T ih E p args H)
def a8Z (T : LT) (ih : qO) (E : List LEnv) (g : LArg) (ps pp : List Pth) (params : Array Tmp) (assign body : Code) (a b : LCode) (_ _ : Fr → Heap → Rc) (f : Fr) (H : Heap) : Rc := match mS f g with
 | .func (.func k) ⟨x⟩ ⟨y⟩ => kE H.length fun L => frL f ps fun l => nZ (H.cons (.loop ⟨.ready, none, 0, ⟨l⟩, params, assign, body, 0⟩)) fun H1 =>
    kE k fun k => b1K T ih (⟨L, ps, pp, a, b⟩ :: E) f L k (a6h x (.func (.yield L) #[] #[] :: y)) H1
 | _ => .no
def b2h (P : Program) (T : LT) (ih : qO) (E : List LEnv) (c : LCode) : Fr → Heap → Rc :=
 LCode.rec (motive := fun _ => Fr → Heap → Rc) c8o c4G (c7q P T ih E) (c7K P T ih E) (c7u ih E) (b7F ih E) (c3d ih E) (c6v ih E) c5V c7a (a8Z T ih E) c
def exF (P : Program) (T : LT) (n : Nat) : qO := Nat.rec (motive := fun _ => qO) (fun _ _ _ _ => .no) (fun _ ih => b2h P T ih) n
section
variable {α : Type}
def lW (x : Operand) (K : LArg → α) : α := match x with
 | .tmp t => lS (kV t) fun p => K (.t p)
 | .const v => K (.c v)
 | .global g => K (.c (.pointer (some ⟨g, 0, none⟩)))
 | .func k => K (.c (.func (.func k) #[] #[]))
def a5b (l : List Operand) : (List LArg → α) → α := List.rec (motive := fun _ => (List LArg → α) → α) (fun K => K []) (fun x _ ih K => lW x fun x => ih fun l => K (x :: l)) l
def a3C (o : Option Nat) (d : α) (K : Nat → α) : α := match o with
 | some n => kE n K
 | none => d
def c8s (k : IntKind) (a b : Int) : Option Value := some (.int k (wX k (b9d a b)))
def c6Y (k : IntKind) (a b : Int) : Option Value := some (.int k (wX k (c0v a b)))
def c6M (a b : Int) : Int := match a, b with
 | .ofNat a, .ofNat b => .ofNat (Nat.mul a b)
 | a, b => a * b
def c5N (k : IntKind) (a b : Int) : Option Value := some (.int k (wX k (c6M a b)))
def c4B (a b : Int) : Int := match a, b with
 | .ofNat a, .ofNat b => .ofNat (Nat.div a b)
 | a, b => a.tdiv b
def c5W (a b : Int) : Int := match a, b with
 | .ofNat a, .ofNat b => .ofNat (Nat.mod a b)
 | a, b => a.tmod b
def b9a (k : IntKind) (a b : Int) : Option Value := match eqI b 0 with | true => none | false => some (.int k (wX k (c4B a b)))
def b9s (k : IntKind) (a b : Int) : Option Value := match eqI b 0 with | true => none | false => some (.int k (c5W a b))
def c7d (_ : IntKind) (a b : Int) : Option Value := some (.bool (eqI a b))
def c8u (_ : IntKind) (a b : Int) : Option Value := some (.bool (!eqI a b))
def c7E (_ : IntKind) (a b : Int) : Option Value := some (.bool (ltI a b))
def c7n (_ : IntKind) (a b : Int) : Option Value := some (.bool (!ltI b a))
def c7z (_ : IntKind) (a b : Int) : Option Value := some (.bool (ltI b a))
def c7D (_ : IntKind) (a b : Int) : Option Value := some (.bool (!ltI a b))
def b8x (op : BinOp) : Option (IntKind → Int → Int → Option Value) := match op with
 | .add => some c8s
 | .sub => some c6Y
 | .mul => some c5N
 | .quo => some b9a
 | .rem => some b9s
 | .eql => some c7d
 | .neq => some c8u
 | .lss => some c7E
 | .leq => some c7n
 | .gtr => some c7z
 | .geq => some c7D
 | _ => none
def c2u (d : Option TypeDesc) : Bool := match d with | some (.int _) => true | _ => false
def c8z (P : Program) (s : TypeId) (f : Nat) (d : α) (K1 : Nat → α) (Kn : Nat → Nat → α) : α := match oX P s f with
 | some fd => kE fd.offset fun off => match jR P fd.type with
   | some true => a3C (iE P fd.type) d fun n => Kn off n
   | some false => K1 off
   | none => d
 | none => d
def b6k (P : Program) (o : Oper) (c : Call) (K : LOp → α) : α := match c.callee with
 | .value (.func k) => lS (kV k) fun p => a5b c.args.toList fun l => K (.callF k p l)
 | .value g => lW g fun g => a5b c.args.toList fun l => K (.callV g l)
 | .builtin .len => oD (c.args.size == 1 && c.argTypes.size == 1) (K (.gen o)) (match P.underlying (c.argTypes.getD 0 0) with
    | some (.slice _) => lW (c.args.getD 0 (.tmp 0)) fun x => K (.len x)
    | some .string => lW (c.args.getD 0 (.tmp 0)) fun x => K (.slen x)
    | _ => K (.gen o))
 | .builtin .append => oD (c.args.size == 2 && c.argTypes.size == 2 && ((P.underlying (c.argTypes.getD 1 0)).map qD) == some true) (K (.gen o))
    (match iI P (c.argTypes.getD 0 0) with
     | some elem => a3C (iE P elem) (K (.gen o)) fun size => a3C (nC P elem) (K (.gen o)) fun bytes => match jB P elem with
       | some z => oD (z.cells.size == size && size != 0) (K (.gen o)) (kE elem fun elem => lW (c.args.getD 0 (.tmp 0)) fun x => lW (c.args.getD 1 (.tmp 0)) fun y => K (.app elem size bytes x y))
       | none => K (.gen o)
     | none => K (.gen o))
 | _ => K (.gen o)
def c5J (P : Program) (o : Oper) (K : LOp → α) : α := match o.op with
 | .move x => lW x fun x => K (.mv x)
 | .assign x => lW x fun x => K (.mv x)
 | .pick c a b => lW c fun c => lW a fun a => lW b fun b => K (.pick c a b)
 | .binOp op t x y _ => oD (c2u (P.underlying t)) (K (.gen o)) (match b8x op with
   | some g => lW x fun x => lW y fun y => K (.bin g x y)
   | none => K (.gen o))
 | .load t x => match jR P t with
   | some true => a3C (iE P t) (K (.gen o)) fun n => lW x fun x => K (.ldn n x)
   | some false => lW x fun x => K (.ld1 x)
   | none => K (.gen o)
 | .store t x y => a3C (iE P t) (K (.gen o)) fun n => lW x fun x => lW y fun y => K (.st n x y)
 | .fieldAddr s x f => match oX P s f with
   | some fd => match iE P fd.type with
     | some 0 => K (.gen o)
     | some _ => kE fd.offset fun off => lW x fun x => K (.fa off x)
     | none => K (.gen o)
   | none => K (.gen o)
 | .indexAddr t x i => match P.underlying t with
   | some (.slice elem) => a3C (iE P elem) (K (.gen o)) fun size => lW x fun x => lW i fun i => K (.ixs size x i)
   | some (.array n elem) => a3C (iE P elem) (K (.gen o)) fun size => lW x fun x => lW i fun i => K (.ixa n size x i)
   | _ => K (.gen o)
 | .extract t i => kE i fun i => lW t fun t => K (.ext i t)
 | .call c => b6k P o c K
 | _ => K (.gen o)
def yK (P : Program) (o : Oper) (K : LOp → α) : α := oD (o.op.operands.toList.all iP) (K .bad) (c5J P o K)
def a6L (k : Nat) (d : Option Tmp) (no : α) (K : Option Pth → α) : α := match d with
 | none => K none
 | some t => oD (Nat.blt t k) no (lS (kV t) fun p => K (some p))
def uQ (P : Program) (k : Nat) (ops : Array Oper) (l : List Oper) : (LOps → α) → α → α := List.rec (motive := fun _ => (LOps → α) → α → α) (fun K _ => K .nil)
 (fun o _ ih K no => a6L k o.dst no fun d => yK P o fun o' => match o.guard with
   | none => ih (fun r => K (.cons d o' r)) no
   | some (j, w) => match (ops[j]?).bind (·.dst) with
     | some t => oD (Nat.blt t k) no (lS (kV t) fun p => a0Y w fun w => ih (fun r => K (.gcons p w d o' r)) no)
     | none => no) l
def loG (k : Nat) (ops : Array Oper) (g : Option (Nat × Bool)) (no : α) (K : Option (Pth × Bool) → α) : α := match g with
 | none => K none
 | some (j, w) => match (ops[j]?).bind (·.dst) with
   | some t => oD (Nat.blt t k) no (lS (kV t) fun p => a0Y w fun w => K (some (p, w)))
   | none => no
def uI (P : Program) (k : Nat) (ops : Array Oper) (N : Nat) (tab : List (Nat × Nat)) : (List (Nat × Option Nat × Option (Pth × Bool) × LOp) → α) → α → α := List.rec (motive := fun _ => (List (Nat × Option Nat × Option (Pth × Bool) × LOp) → α) → α → α) (fun K _ => K [])
 (fun x _ ih K no => match ops[x.1]? with
   | some o => loG k ops o.guard no fun g => yK P o fun o' => kE (N - 1 - x.1) fun i => oD (Nat.blt x.2 N) (ih (fun l => K ((i, none, g, o') :: l)) no) (kE (N - 1 - x.2) fun m => ih (fun l => K ((i, some m, g, o') :: l)) no)
   | none => no) tab
def b6b (k : Nat) : (List Pth → α) → α := Nat.rec (motive := fun _ => (List Pth → α) → α) (fun K => K []) (fun n ih K => lS (kV n) fun p => ih fun l => K (p :: l)) k
def c2G {β : Type} (l : List β) : List β → (List β → α) → α := List.rec (motive := fun _ => List β → (List β → α) → α) (fun a K => K a) (fun x _ ih a K => ih (x :: a) K) l
def b3q (k : Nat) (K : List Pth → α) : α := b6b k fun l => c2G l [] K
def xH (k : Nat) (l : List Tmp) : (List Pth → α) → α → α := List.rec (motive := fun _ => (List Pth → α) → α → α) (fun K _ => K []) (fun t _ ih K no => oD (Nat.blt t k) no (lS (kV t) fun p => ih (fun l => K (p :: l)) no)) l
def nM (P : Program) (k : Nat) (c : Code) : (LCode → α) → α := Code.rec (motive := fun _ => (LCode → α) → α)
 (fun K => K .skip)
 (fun _ ops d K => Bool.rec (motive := fun _ => α) (uQ P k ops ops.toList (fun l => K (.reg l)) (K .bad))
   (match nI P ops with
     | some [] => uQ P k ops ops.toList (fun l => K (.reg l)) (K .bad)
     | some tab => uQ P k ops ops.toList (fun l => uI P k ops ops.size tab (fun t => K (.drw l t)) (K .bad)) (K .bad)
     | none => K .bad) d)
 (fun _ _ iha ihb K => iha fun a => ihb fun b => K (.seq a b))
 (fun c _ _ ihx ihy K => oD (iP c) (K .bad) (lW c fun c => ihx fun x => ihy fun y => K (.cond c x y)))
 (fun id _ ih K => kE id fun id => ih fun b => K (.block id b))
 (fun _ ih K => ih fun b => K (.loop b))
 (fun g ps assign body iha ihb K => oD (iP g) (K .bad) (lW g fun g' => b3q k fun pp => xH k ps.toList (fun q => iha fun a => ihb fun b => K (.range g' pp q ps assign body a b)) (K .bad)))
 (fun id K => kE id fun id => K (.exit id))
 (fun _ _ K => K .bad)
 (fun _ K => K .skip)
 (fun _ K => K .bad)
 (fun K => K .ret)
 (fun _ K => K .bad) c
def a1x (P : Program) (l : List ResultVar) : (List LRes → α) → α → α := List.rec (motive := fun _ => (List LRes → α) → α → α) (fun K _ => K [])
 (fun r _ ih K no => match r with
   | .tmp t => lS (kV t) fun p => ih (fun l => K (.t p :: l)) no
   | .cell a t => match jR P t with
     | some true => a3C (iE P t) no fun n => lS (kV a) fun p => ih (fun l => K (.cn n p :: l)) no
     | some false => lS (kV a) fun p => ih (fun l => K (.c1 p :: l)) no
     | none => no) l
def a2t (P : Program) (f : FuncId) (no : α) (K : LFunc → α) : α := match P.funcs[f]? with
 | some fn => match fn.body with
   | some c => oD (fn.name == "runtime.NumGoroutine") (a1x P fn.results.toList (fun res => b3q fn.ntmps fun ps => nM P fn.ntmps c fun b => K ⟨ps, b, res⟩) no) no
   | none => no
 | none => no
def uJ (P : Program) (fs : List FuncId) : LT → (LT → α) → α := List.rec (motive := fun _ => LT → (LT → α) → α) (fun T K => K T)
 (fun f _ ih T K => a2t P f (ih T K) fun g => lS (kV f) fun p => sK g p T fun T => ih T K) fs
end
end
end Go.Ds
namespace Go.Ds
section
variable {α : Type}
theorem wL (f k : Nat) : a6f (f + 1) (k + 1) = if k % 2 = 0 then .l (a6f f (k / 2)) else .r (a6f f (k / 2)) := by
 show Bool.rec (motive := fun _ => Pth) (.r (a6f f (k / 2))) (.l (a6f f (k / 2))) (Nat.beq (k % 2) 0) = _
 by_cases h : k % 2 = 0
 ·rw [if_pos h, h]; rfl
 ·rw [if_neg h]
  have : Nat.beq (k % 2) 0 = false := fS.2 fun e => h (dX e)
  rw [this]
theorem a4P (f : Nat) : a6f f 0 = .z := by cases f <;> rfl
theorem a3s : ∀ (f g a b : Nat), a ≤ f → b ≤ g → a6f f a = a6f g b → a = b
 | _, _, 0, 0, _, _, _ => rfl
 | 0, _, a + 1, _, h, _, _ => by omega
 | _, 0, _, b + 1, _, h, _ => by omega
 | f, g + 1, 0, b + 1, _, _, h => by
   rw [a4P, wL] at h
   split at h <;> cases h
 | f + 1, g, a + 1, 0, _, _, h => by
   rw [a4P, wL] at h
   split at h <;> cases h
 | f + 1, g + 1, a + 1, b + 1, ha, hb, h => by
   rw [wL, wL] at h
   by_cases h1 : a % 2 = 0
   ·rw [if_pos h1] at h
    by_cases h2 : b % 2 = 0
    ·rw [if_pos h2] at h
     injection h with h
     have := a3s f g (a / 2) (b / 2) (by omega) (by omega) h
     omega
    ·rw [if_neg h2] at h; cases h
   ·rw [if_neg h1] at h
    by_cases h2 : b % 2 = 0
    ·rw [if_pos h2] at h; cases h
    ·rw [if_neg h2] at h
     injection h with h
     have := a3s f g (a / 2) (b / 2) (by omega) (by omega) h
     omega
theorem b1C {a b : Nat} (h : kV a = kV b) : a = b := a3s _ _ _ _ (di _) (di _) h
theorem lQ (p : Pth) (K : Pth → α) : lS p K = K p := by
 induction p generalizing K with
 | z => rfl
 | l p ih => exact ih _
 | r p ih => exact ih _
theorem mW (v : Value) (K : Value → α) : oS v K = K v := by cases v <;> rfl
theorem sW (v : Value) (p : Pth) (f : Fr) (K : Fr → α) : qE v p f K = K (qE v p f fun f => f) := by
 induction p generalizing f α with
 | z => cases f <;> rfl
 | l p ih =>
   cases f with
   | e =>
     show qE v p .e (fun l => K (.n undef l .e)) = K (qE v p .e fun l => .n undef l .e)
     rw [ih, ih (K := fun l => Fr.n undef l .e)]
   | n w l r =>
     show qE v p l (fun l => K (.n w l r)) = K (qE v p l fun l => .n w l r)
     rw [ih, ih (K := fun l => Fr.n w l r)]
 | r p ih =>
   cases f with
   | e =>
     show qE v p .e (fun l => K (.n undef .e l)) = K (qE v p .e fun l => .n undef .e l)
     rw [ih, ih (K := fun l => Fr.n undef .e l)]
   | n w l r =>
     show qE v p r (fun r => K (.n w l r)) = K (qE v p r fun r => .n w l r)
     rw [ih, ih (K := fun r => Fr.n w l r)]
theorem vB (p : Pth) : oG p .e = undef := by
 cases p <;> rfl
theorem b3z (v : Value) (p q : Pth) (f : Fr) : (q = p → oG q (qE v p f fun f => f) = v) ∧ (q ≠ p → oG q (qE v p f fun f => f) = oG q f) := by
 induction p generalizing f q with
 | z =>
   refine ⟨fun h => ?_, fun h => ?_⟩
   ·subst h; cases f <;> rfl
   ·cases q with
    | z => exact absurd rfl h
    | l q =>
      cases f with
      | e => show oG q .e = undef; exact vB q
      | n => rfl
    | r q =>
      cases f with
      | e => show oG q .e = undef; exact vB q
      | n => rfl
 | l p ih =>
   have h1 : ∀ f, qE v (.l p) f (fun f => f) = match f with | .e => .n undef (qE v p .e fun f => f) .e | .n w l r => .n w (qE v p l fun f => f) r := fun f => by
    cases f with
    | e => exact sW v p .e fun l => Fr.n undef l .e
    | n w l r => exact sW v p l fun l => Fr.n w l r
   rw [h1]
   cases q with
   | z => exact ⟨fun h => (nomatch h), fun _ => by cases f <;> rfl⟩
   | r q =>
     refine ⟨fun h => (nomatch h), fun _ => ?_⟩
     cases f with
     | e => show oG q .e = undef; exact vB q
     | n => rfl
   | l q =>
     refine ⟨fun h => ?_, fun h => ?_⟩
     ·injection h with h
      cases f with
      | e => exact (ih q .e).1 h
      | n w l r => exact (ih q l).1 h
     ·have h : q ≠ p := fun e => h (by rw [e])
      cases f with
      | e => show oG q (qE v p .e fun f => f) = undef; rw [(ih q .e).2 h, vB]
      | n w l r => exact (ih q l).2 h
 | r p ih =>
   have h1 : ∀ f, qE v (.r p) f (fun f => f) = match f with | .e => .n undef .e (qE v p .e fun f => f) | .n w l r => .n w l (qE v p r fun f => f) := fun f => by
    cases f with
    | e => exact sW v p .e fun l => Fr.n undef .e l
    | n w l r => exact sW v p r fun r => Fr.n w l r
   rw [h1]
   cases q with
   | z => exact ⟨fun h => (nomatch h), fun _ => by cases f <;> rfl⟩
   | l q =>
     refine ⟨fun h => (nomatch h), fun _ => ?_⟩
     cases f with
     | e => show oG q .e = undef; exact vB q
     | n => rfl
   | r q =>
     refine ⟨fun h => ?_, fun h => ?_⟩
     ·injection h with h
      cases f with
      | e => exact (ih q .e).1 h
      | n w l r => exact (ih q r).1 h
     ·have h : q ≠ p := fun e => h (by rw [e])
      cases f with
      | e => show oG q (qE v p .e fun f => f) = undef; rw [(ih q .e).2 h, vB]
      | n w l r => exact (ih q r).2 h
def FAg (f : Fr) (l : List Value) : Prop := ∀ t, oG (kV t) f = get l t
def FRel (k : Nat) (f : Fr) (l : List Value) : Prop := l.length = k ∧ FAg f l
noncomputable def b7b (f : Fr) (t : Tmp) (v : Value) : Fr := qE v (kV t) f fun f => f
theorem a4w (f : Fr) (t u : Tmp) (v : Value) : oG (kV u) (b7b f t v) = if u = t then v else oG (kV u) f := by
 have h := b3z v (kV t) (kV u) f
 by_cases he : u = t
 ·rw [if_pos he]; exact h.1 (by rw [he])
 ·rw [if_neg he]; exact h.2 (fun e => he (b1C e))
theorem FRel.put {k : Nat} {f : Fr} {l : List Value} (h : FRel k f l) {t : Tmp} (ht : t < k) (v : Value) : FRel k (b7b f t v) (Go.Ds.put l (some t) v) := by
 refine ⟨by simp [Go.Ds.put, nD, h.1], fun u => ?_⟩
 rw [a4w, b1V]
 by_cases he : u = t
 ·subst he; rw [if_pos rfl, if_pos ⟨rfl, by rw [h.1]; exact ht⟩]
 ·rw [if_neg he, if_neg (fun hh => he (cV hh.1).symm)]; exact h.2 u
theorem FRel.set {k : Nat} {f : Fr} {l : List Value} (h : FRel k f l) {t : Tmp} (ht : t < k) (v : Value) : FRel k (b7b f t v) (l.set t v) := by
 have := h.put ht v
 simpa [Go.Ds.put, nD] using this
def Rs.Is (r : Rs) (v : Value) (H : Heap) : Prop := r = .ok v H ∨ r = .th v H
theorem Rs.ar {v : Value} {H : Heap} : ¬ Rs.no.Is v H := by rintro (h | h) <;> cases h
theorem Rs.aN {v w : Value} {H H1 : Heap} (h : (Rs.ok v H).Is w H1) : w = v ∧ H1 = H := by
 rcases h with h | h
 ·injection h with a b; exact ⟨a.symm, b.symm⟩
 ·cases h
theorem Rs.aR {v w : Value} {H H1 : Heap} (h : (Rs.th v H).Is w H1) : w = v ∧ H1 = H := by
 rcases h with h | h
 ·cases h
 ·injection h with a b; exact ⟨a.symm, b.symm⟩
theorem kQ (b : Bool) (no x : α) : oD b no x = if b = true then x else no := by cases b <;> rfl
theorem lK {b : Bool} {x : Rs} {v : Value} {H : Heap} (h : (oD b Rs.no x).Is v H) : b = true ∧ x.Is v H := by
 cases b with
 | false => exact absurd h Rs.ar
 | true => exact ⟨rfl, h⟩
theorem zF {β : Type} : ∀ (cs : List β) (e : Nat), a8l cs e = decide (e ≤ cs.length)
 | [], 0 => rfl
 | [], e + 1 => by simp; rfl
 | _ :: _, 0 => rfl
 | _ :: cs, e + 1 => by show a8l cs e = _; rw [zF cs e]; simp
theorem yT {β : Type} : ∀ (cs : List β) (e : Nat), a4O cs e = decide (e = cs.length)
 | [], 0 => rfl
 | [], e + 1 => by simp; rfl
 | _ :: _, 0 => by simp; rfl
 | _ :: cs, e + 1 => by show a4O cs e = _; rw [yT cs e]; simp
theorem yE {β : Type} : ∀ (cs : List β) (e : Nat), a1A cs e = cs[e]?
 | [], _ => rfl
 | _ :: _, 0 => rfl
 | _ :: cs, e + 1 => by show a1A cs e = _; rw [yE cs e]; simp
theorem a8u {β : Type} : ∀ (cs : List β) (e : Nat), b2m cs e = cs.drop e
 | [], e => by cases e <;> rfl
 | _ :: _, 0 => rfl
 | _ :: cs, e + 1 => by show b2m cs e = _; rw [a8u cs e]; rfl
theorem a7l {β : Type} : ∀ {cs : List β} {n : Nat} {K : List β → Rs} {v : Value} {H : Heap}, (a2Y cs n K).Is v H → n ≤ cs.length ∧ (K (cs.take n)).Is v H
 | [], 0, K, v, H, h => ⟨di _, h⟩
 | [], n + 1, K, v, H, h => absurd h Rs.ar
 | _ :: _, 0, K, v, H, h => ⟨eW _, h⟩
 | c :: cs, n + 1, K, v, H, h => by
   have h' : (a2Y cs n fun l => K (c :: l)).Is v H := h
   obtain ⟨h1, h2⟩ := a7l h'
   exact ⟨by simp; omega, h2⟩
theorem b9T {a b : IntKind} (h : Nat.beq (kIx a) (kIx b) = true) : a = b := by
 cases a <;> cases b <;> first | rfl | (exact absurd h (by decide))
theorem b7h (k : Nat) (K : List Pth → α) : b6b k K = K ((List.range k).map kV).reverse := by
 induction k generalizing K with
 | zero => rfl
 | succ n ih =>
   show lS (kV n) (fun p => b6b n fun l => K (p :: l)) = _
   rw [lQ, ih, dY]
   simp
theorem b9P {β : Type} (l : List β) : ∀ (a : List β) (K : List β → α), c2G l a K = K (l.reverse ++ a) := by
 induction l with
 | nil => intro a K; rfl
 | cons x l ih => intro a K; show c2G l (x :: a) K = _; rw [ih]; simp
theorem b1Y (k : Nat) (K : List Pth → α) : b3q k K = K ((List.range k).map kV) := by
 unfold b3q; rw [b7h, b9P]; simp
theorem pH (n : Nat) (d : α) (K : Nat → α) : a3C (some n) d K = K n := kB n K
def LK (H H' : Heap) : Prop := H.length ≤ H'.length ∧ ∀ A r', A < H.length → iR H' A = some (.loop r') →
 ∃ r, iR H A = some (.loop r) ∧ r'.assign = r.assign ∧ r'.body = r.body ∧ r'.params = r.params ∧ r'.tmps = r.tmps
theorem LK.refl (H : Heap) : LK H H := ⟨di _, fun _ r _ h => ⟨r, h, rfl, rfl, rfl, rfl⟩⟩
theorem LK.trans {H H1 H2 : Heap} (h : LK H H1) (k : LK H1 H2) : LK H H2 := ⟨dC h.1 k.1, fun A r' hA hr => by
 obtain ⟨r1, h1, a1, b1, c1, d1⟩ := k.2 A r' (dM hA h.1) hr
 obtain ⟨r, h2, a2, b2, c2, d2⟩ := h.2 A r1 hA h1
 exact ⟨r, h2, a1.trans a2, b1.trans b2, c1.trans c2, d1.trans d2⟩⟩
def Blk.cb : Blk → Bool
 | .loop _ => true
 | _ => false
theorem LK.hset (H : Heap) (A : Nat) {b : Blk} (hb : b.cb = false) : LK H (hset H A b) := by
 refine ⟨by rw [jQ]; exact di _, fun B r' hB h => ?_⟩
 by_cases he : A = B
 ·subst he; rw [iS _ hB] at h; injection h with h; subst h; cases hb
 ·rw [jA _ he] at h; exact ⟨r', h, rfl, rfl, rfl, rfl⟩
theorem LK.cons (H : Heap) (b : Blk) : LK H (H.cons b) := by
 refine ⟨by rw [length_cons]; omega, fun B r' hB h => ?_⟩
 rw [jN b hB] at h; exact ⟨r', h, rfl, rfl, rfl, rfl⟩
theorem LK.row (H : Heap) (ty : TypeId) (cs : List Value) : LK H (sB H ty cs) := by rw [lH]; exact .cons _ _
theorem LK.loop {H : Heap} {L : Nat} {r r' : Loop} (h : iR H L = some (.loop r)) (e : r'.assign = r.assign ∧ r'.body = r.body ∧ r'.params = r.params ∧ r'.tmps = r.tmps) : LK H (Go.Ds.hset H L (.loop r')) := by
 refine ⟨by rw [jQ]; exact di _, fun B r2 hB hg => ?_⟩
 by_cases he : L = B
 ·subst he; rw [iS _ hB] at hg; injection hg with hg; injection hg with hg; subst hg; exact ⟨r, h, e⟩
 ·rw [jA _ he] at hg; exact ⟨r2, hg, rfl, rfl, rfl, rfl⟩
variable {P : Program}
theorem a7R {H H' : Heap} {t : TypeId} {p v : Value} (h : rK P H t p v = some H') : LK H H' := by
 unfold rK at h
 split at h
 ·split at h
  ·dsimp only at h
   split at h
   ·injection h with h; subst h; exact .hset _ _ rfl
   ·cases h
  ·cases h
 ·cases h
theorem a4m {H H' : Heap} {t : TypeId} {v r : Value} (h : xK P H t v = some (r, H')) : LK H H' := by
 unfold xK at h
 dsimp only at h
 split at h
 ·injection h with h; injection h with _ h; subst h; exact .row _ _ _
 ·cases h
theorem a5i {H H' : Heap} {t : TypeId} {s x r : Value} (h : nT P H t s x = some (r, H')) : LK H H' := by
 unfold nT at h
 simp only [cY] at h
 obtain ⟨elem, _, size, _, bytes, _, z, _, ⟨n, l⟩, _, h⟩ := h
 try dsimp only at h
 split at h
 ·split at h
  ·split at h
   ·injection h with h; injection h with _ h; subst h; exact .refl _
   ·injection h with h; injection h with _ h; subst h; exact .row _ _ _
  ·cases h
 ·split at h
  ·split at h
   ·injection h with h; injection h with _ h; subst h; exact .hset _ _ rfl
   ·split at h
    ·injection h with h; injection h with _ h; subst h; exact .hset _ _ rfl
    ·cases h
  ·cases h
 ·cases h
theorem a8P {H H' : Heap} {t : TypeId} {v r : Value} (h : rA P H t v = some (r, H')) : LK H H' := by
 unfold rA at h
 split at h
 ·dsimp only at h
  rename_i n elem _
  have key : ∀ (b : Bool), (if b = true then some (Value.pointer (some ⟨H.length, 0, some v.cells.toList.length⟩), b6o H elem v.cells.toList) else none) = some (r, H') → LK H H' := by
   intro b h
   cases b
   ·cases h
   ·injection h with h; injection h with _ h; subst h; rw [a1Q]; exact .cons _ _
  exact key _ h
 ·exact a4m h
theorem a5s {H H' : Heap} {t : TypeId} {x y r : Value} (h : wA P H t x y = some (r, H')) : LK H H' := by
 unfold wA at h
 split at h
 ·split at h
  ·split at h
   ·simp only [dh] at h
    obtain ⟨_, _, h⟩ := h
    injection h with _ h; subst h; exact .hset _ _ rfl
   ·cases h
  ·cases h
 ·cases h
theorem a4Z {H H' : Heap} {k : FuncId} {args : List Value} {r : Value} (h : qP P k args H = some (r, H')) : LK H H' := by
 unfold qP at h
 simp only [cY] at h
 obtain ⟨fn, _, h⟩ := h
 split at h
 case isFalse => cases h
 split at h
 ·split at h
  ·injection h with h; injection h with _ h; subst h; exact .refl _
  ·cases h
 split at h
 ·split at h
  ·split at h
   ·simp only [cY] at h
    obtain ⟨_, _, h⟩ := h
    split at h
    ·injection h with h; injection h with _ h; subst h; exact .row _ _ _
    ·cases h
   ·cases h
  ·cases h
 split at h
 ·split at h
  ·split at h
   ·split at h
    ·injection h with h; injection h with _ h; subst h; exact .refl _
    ·cases h
   ·cases h
  ·cases h
 ·cases h
theorem b0K {H H' : Heap} {t : TypeId} {s x r : Value} (h : a1t P H t s x = some (r, H')) : LK H H' := by
 unfold a1t at h
 simp only [cY] at h
 obtain ⟨elem, _, size, _, m, _, h⟩ := h
 try dsimp only at h
 split at h
 ·split at h
  ·injection h with h; injection h with _ h; subst h; exact .refl _
  ·cases h
 ·split at h
  ·injection h with h; injection h with _ h; subst h; exact .refl _
  ·simp only [cY] at h
   obtain ⟨l, _, h⟩ := h
   split at h
   ·split at h
    ·injection h with h; injection h with _ h; subst h; exact .hset _ _ rfl
    ·cases h
   ·cases h
 ·cases h
theorem a6v {H H' : Heap} {t : TypeId} {x r : Value} (h : tI P H t x = some (r, H')) : LK H H' := by
 unfold tI at h
 simp only [cY] at h
 obtain ⟨elem, _, z, _, h⟩ := h
 split at h
 ·injection h with h; injection h with _ h; subst h; exact .refl _
 ·split at h
  ·injection h with h; injection h with _ h; subst h; exact .refl _
  ·try dsimp only at h
   split at h
   ·split at h
    ·injection h with h; injection h with _ h; subst h; exact .hset _ _ rfl
    ·cases h
   ·cases h
 ·cases h
theorem b3J {H H' : Heap} {t : TypeId} {m k v : Value} (h : a1y P H t m k v = some H') : LK H H' := by
 unfold a1y at h
 simp only [cY] at h
 obtain ⟨⟨kt, et⟩, _, h⟩ := h
 dsimp only at h
 split at h
 ·split at h
  ·split at h
   ·simp only [cY] at h
    obtain ⟨r, _, h⟩ := h
    split at h
    ·simp only [cY] at h
     obtain ⟨e, _, h⟩ := h
     split at h
     ·injection h with h; subst h; exact .hset _ _ rfl
     ·cases h
    ·injection h with h; subst h; exact .hset _ _ rfl
   ·cases h
  ·cases h
 ·cases h
theorem a6G {H H' : Heap} {t : TypeId} {m k r : Value} (h : tY P H t m k = some (r, H')) : LK H H' := by
 unfold tY at h
 simp only [cY] at h
 obtain ⟨⟨kt, et⟩, _, h⟩ := h
 dsimp only at h
 split at h
 ·split at h
  ·split at h
   ·simp only [cY] at h
    obtain ⟨r, _, h⟩ := h
    split at h
    ·simp only [cY] at h
     obtain ⟨e, _, h⟩ := h
     split at h
     ·injection h with h; injection h with _ h; subst h; exact .hset _ _ rfl
     ·cases h
    ·simp only [cY] at h
     obtain ⟨z, _, h⟩ := h
     split at h
     ·injection h with h; injection h with _ h; subst h; exact .hset _ _ rfl
     ·cases h
   ·cases h
  ·cases h
 ·cases h
theorem a7L {H H' : Heap} {m b v : Value} (h : sC H m b v = some H') : LK H H' := by
 unfold sC at h
 split at h
 ·split at h
  ·split at h
   ·simp only [cY] at h
    obtain ⟨e, _, h⟩ := h
    injection h with h; subst h; exact .hset _ _ rfl
   ·cases h
  ·cases h
 ·cases h
theorem a3N {H H' : Heap} {t : TypeId} {o : Option Value} {r : Value} (h : qA P H t o = some (r, H')) : LK H H' := by
 unfold qA at h
 simp only [cY] at h
 obtain ⟨_, _, h⟩ := h
 split at h
 ·injection h with h; injection h with _ h; subst h; exact .cons _ _
 ·injection h with h; injection h with _ h; subst h; exact .cons _ _
 ·cases h
theorem a7Y {H H' : Heap} {o : Oper} {l : List Value} {r : Value} (h : kT P o l H = some (r, H')) : H' = H := by
 unfold kT at h
 split at h
 ·split at h
  ·split at h
   ·injection h with h; injection h with _ h; exact h.symm
   ·cases h
  ·cases h
 ·cases h
theorem wD {H H' : Heap} {v r : Value} (h : some (v, H) = some (r, H')) : LK H H' := by injection h with h; injection h with _ h; subst h; exact .refl _
theorem uZ {H H' : Heap} {v : Option Value} {r : Value} (h : v.map (fun v => (v, H)) = some (r, H')) : LK H H' := by
 cases v with
 | none => cases h
 | some v => exact wD h
set_option maxHeartbeats 1000000 in
theorem b7N {H H' : Heap} {o : Oper} {l : List Value} {r : Value} (h : opD P o l H = some (r, H')) : LK H H' := by
 obtain ⟨dst, op, type, pos, after, guard⟩ := o
 have pl : ∀ {o : Oper}, kT P o l H = some (r, H') → LK H H' := fun h => by rw [a7Y h]; exact .refl _
 cases op with
 | alloc t =>
   simp only [opD, cY] at h
   obtain ⟨z, _, h⟩ := h
   split at h
   ·exact a8P h
   ·cases h
 | box t x => simp only [opD] at h; exact a4m h
 | store t x y =>
   simp only [opD, dh] at h
   obtain ⟨H1, h, e⟩ := h
   injection e with _ e; subst e
   exact a7R h
 | mapUpdate t m x y =>
   simp only [opD, dh] at h
   obtain ⟨H1, h, e⟩ := h
   injection e with _ e; subst e
   exact b3J h
 | mapEntry t m x => simp only [opD] at h; exact a6G h
 | entryStore t m x y =>
   simp only [opD, dh] at h
   obtain ⟨H1, h, e⟩ := h
   injection e with _ e; subst e
   exact a7L h
 | makeMap t x => simp only [opD] at h; exact a3N h
 | buildSlice t len parts =>
   simp only [opD, cY] at h
   obtain ⟨elem, _, size, _, z, _, h⟩ := h
   split at h
   ·injection h with h; injection h with _ h; subst h; exact .row _ _ _
   split at h
   ·simp only [dh] at h
    obtain ⟨cs, _, e⟩ := h
    injection e with _ e; subst e
    exact .row _ _ _
   ·cases h
 | makeSlice t n c =>
   simp only [opD, cY] at h
   obtain ⟨elem, _, size, _, bytes, _, z, _, h⟩ := h
   split at h
   ·split at h
    ·injection h with h; injection h with _ h; subst h; exact .row _ _ _
    ·cases h
   ·cases h
 | call c =>
   simp only [opD] at h
   split at h
   ·split at h
    ·split at h
     all_goals first | exact uZ h | cases h
    ·cases h
   ·split at h
    ·exact a5i h
    ·cases h
   ·split at h
    ·exact b0K h
    ·cases h
   ·split at h
    ·exact a6v h
    ·cases h
   ·exact pl h
   ·split at h
    ·split at h
     ·split at h
      ·cases h
      ·exact wD h
     ·cases h
    ·cases h
   ·split at h
    ·exact a5s h
    ·cases h
   ·exact pl h
   ·exact pl h
   ·cases h
 | convert s t x =>
   simp only [opD] at h
   split at h
   ·exact pl h
   ·split at h
    ·split at h
     ·exact uZ h
     ·cases h
    ·split at h
     ·simp only [cY] at h
      obtain ⟨_, _, h⟩ := h
      injection h with h; injection h with _ h; subst h
      rw [b1Z]; exact .cons _ _
     ·cases h
    ·split at h
     ·exact wD h
     ·cases h
    ·cases h
 | slice t x lo hi mx =>
   cases mx with
   | some _ => simp only [opD] at h; cases h
   | none =>
     simp only [opD] at h
     split at h
     ·exact pl h
     ·split at h
      ·exact uZ h
      ·exact uZ h
 | _ =>
   simp only [opD] at h
   repeat' first
    | exact LK.refl _
    | exact wD h
    | exact uZ h
    | exact pl h
    | (cases h; done)
    | split at h
    | (simp only [cY, dh] at h; obtain ⟨_, _, h⟩ := h)
    | (obtain ⟨_, _, h⟩ := h)
    | (injection h with h; injection h with _ h; subst h; exact LK.refl _)
    | (injection h with _ h; subst h; exact LK.refl _)
    | (cases h; exact LK.refl _)
end
end Go.Ds
namespace Go.Ds
variable {P : Program}
structure CallsOk (P : Program) (C : Calls') (H0 : Heap) : Prop where
 fn : ∀ p f args H v H1, LK H0 H → (C.fn p f args H).Is v H1 → p = kV f → (FnS P f args H (fun v' H' => v' = v ∧ H' = H1) ∨ qP P f args H = some (v, H1)) ∧ LK H H1
 rd : ∀ L args H v H1, LK H0 H → (C.rd L args H).Is v H1 → zW P L args H v H1 ∧ LK H H1
noncomputable def iV (x : Operand) : LArg := match x with
 | .tmp t => .t (kV t)
 | .const v => .c v
 | .global g => .c (.pointer (some ⟨g, 0, none⟩))
 | .func k => .c (.func (.func k) #[] #[])
theorem lE {α : Type} (x : Operand) (K : LArg → α) : lW x K = K (iV x) := by
 cases x with
 | tmp t => exact lQ _ _
 | _ => rfl
theorem jW {f : Fr} {l : List Value} (h : FAg f l) (x : Operand) : mS f (iV x) = ev l x := by
 cases x with
 | tmp t => exact h t
 | _ => rfl
theorem a4p {α : Type} (l : List Operand) (K : List LArg → α) : a5b l K = K (l.map iV) := by
 induction l generalizing K with
 | nil => rfl
 | cons x l ih =>
   show lW x (fun x => a5b l fun l => K (x :: l)) = _
   rw [lE, ih]; rfl
theorem a7A {α : Type} {f : Fr} {l : List Value} (h : FAg f l) (xs : List Operand) (K : List Value → α) : a3U f (xs.map iV) K = K (xs.map (ev l)) := by
 induction xs generalizing K with
 | nil => rfl
 | cons x xs ih =>
   show oS (mS f (iV x)) (fun v => a3U f (xs.map iV) fun l => K (v :: l)) = _
   rw [mW, ih, jW h]; rfl
theorem c2U {f : Fr} {l : List Value} (h : FAg f l) : evF f = ev l := by
 funext x
 cases x with
 | tmp t => exact h t
 | _ => rfl
def wP (P : Program) (o : Oper) (lo : LOp) : Prop := ∀ C H0 f l H v H1, CallsOk P C H0 → LK H0 H → FAg f l → (opF P C lo f H).Is v H1 → StepR P o l H v H1 ∧ LK H H1
def LowPl (P : Program) (o : Oper) (lo : LOp) : Prop := ∀ C f l H v H1, FAg f l → (opF P C lo f H).Is v H1 → opD P o l H = some (v, H1)
theorem LowPl.low {o : Oper} {lo : LOp} (hok : o.op.operands.toList.all iP = true) (h : LowPl P o lo) : wP P o lo :=
 fun C _ f l H v H1 _ _ hf hr => by have := h C f l H v H1 hf hr; exact ⟨.op hok this, b7N this⟩
theorem b9E (o : Oper) : wP P o .bad := fun _ _ _ _ _ _ _ _ _ _ h => absurd h Rs.ar
theorem c0j (o : Oper) : LowPl P o (.gen o) := fun C f l H v H1 hf hr => by
 have hr : (match c2y P o (evF f) H with | some (v, H1) => Rs.th v H1 | none => .no).Is v H1 := hr
 rw [c2U hf] at hr
 have e : c2y P o (ev l) H = opD P o l H := rfl
 rw [e] at hr
 split at hr
 ·rename_i v2 H2 h2
  obtain ⟨rfl, rfl⟩ := Rs.aR hr
  exact h2
 ·exact absurd hr Rs.ar
section
variable {dst : Option Tmp} {type : TypeId} {pos : String} {after : Array Edge} {guard : Option (Nat × Bool)}
theorem c2N (x : Operand) : LowPl P ⟨dst, .move x, type, pos, after, guard⟩ (.mv (iV x)) := fun C f l H v H1 hf hr => by
 have hr : (oS (mS f (iV x)) fun v => Rs.ok v H).Is v H1 := hr
 rw [mW, jW hf] at hr
 obtain ⟨rfl, rfl⟩ := Rs.aN hr
 rfl
theorem c3m (x : Operand) : LowPl P ⟨dst, .assign x, type, pos, after, guard⟩ (.mv (iV x)) := fun C f l H v H1 hf hr => by
 have hr : (oS (mS f (iV x)) fun v => Rs.ok v H).Is v H1 := hr
 rw [mW, jW hf] at hr
 obtain ⟨rfl, rfl⟩ := Rs.aN hr
 rfl
theorem b6r (c a b : Operand) : LowPl P ⟨dst, .pick c a b, type, pos, after, guard⟩ (.pick (iV c) (iV a) (iV b)) := fun C f l H v H1 hf hr => by
 have hr : (b6p (iV c) (iV a) (iV b) f H).Is v H1 := hr
 unfold b6p at hr
 rw [jW hf] at hr
 split at hr
 ·rename_i t ht
  rw [mW] at hr
  simp only [opD, ht]
  cases t
  ·have hr : (Rs.ok (mS f (iV b)) H).Is v H1 := hr
   rw [jW hf] at hr
   obtain ⟨rfl, rfl⟩ := Rs.aN hr; rfl
  ·have hr : (Rs.ok (mS f (iV a)) H).Is v H1 := hr
   rw [jW hf] at hr
   obtain ⟨rfl, rfl⟩ := Rs.aN hr; rfl
 ·exact absurd hr Rs.ar
theorem b9H (a b : Int) : c6M a b = a * b := by cases a <;> cases b <;> rfl
theorem a6b (a b : Int) : c4B a b = a.tdiv b := by cases a <;> cases b <;> rfl
theorem a5g (a b : Int) : c5W a b = a.tmod b := by cases a <;> cases b <;> rfl
theorem b9F {op : BinOp} {g : IntKind → Int → Int → Option Value} (h : b8x op = some g) (k : IntKind) (a b : Int) : mR op k a b = g k a b := by
 cases op <;> simp only [b8x] at h <;> first | (cases h; done) | (injection h with h; subst h)
 all_goals first
  | rfl
  | (simp only [mR, c5N, b9H]; done)
  | (simp only [mR, b9a, a6b]; done)
  | (simp only [mR, b9s, a5g]; done)
  | (simp only [mR, b9a, a6b]; rfl)
  | (simp only [mR, b9s, a5g]; rfl)
  | (simp only [mR, b9a, a6b]; cases eqI b 0 <;> rfl)
  | (simp only [mR, b9s, a5g]; cases eqI b 0 <;> rfl)
theorem c6L {o : Option Value} {H H1 : Heap} {v : Value} (h : (oV o H).Is v H1) : o = some v ∧ H1 = H := by
 cases o with
 | none => exact absurd h Rs.ar
 | some w => obtain ⟨rfl, rfl⟩ := Rs.aR h; exact ⟨rfl, rfl⟩
theorem b4W {o : Option Value} {H H1 : Heap} {v : Value} (h : (okV o H).Is v H1) : o = some v ∧ H1 = H := by
 cases o with
 | none => exact absurd h Rs.ar
 | some w =>
   have h : (oS w fun v => Rs.ok v H).Is v H1 := h
   rw [mW] at h
   obtain ⟨rfl, rfl⟩ := Rs.aN h; exact ⟨rfl, rfl⟩
theorem b8V {op : BinOp} {g : IntKind → Int → Int → Option Value} (hg : b8x op = some g) (t yt : TypeId) (x y : Operand) : LowPl P ⟨dst, .binOp op t x y yt, type, pos, after, guard⟩ (.bin g (iV x) (iV y)) := fun C f l H v H1 hf hr => by
 have hr : (c3f g (iV x) (iV y) f H).Is v H1 := hr
 unfold c3f at hr
 rw [jW hf] at hr
 split at hr
 ·rename_i k a hx
  unfold c1O at hr
  rw [jW hf] at hr
  split at hr
  ·rename_i k' b hy
   obtain ⟨hk, hq⟩ := lK hr
   obtain rfl := b9T hk
   obtain ⟨hv, rfl⟩ := c6L hq
   rw [← b9F hg] at hv
   have : opD P ⟨dst, .binOp op t x y yt, type, pos, after, guard ⟩ l H1 = if k = k then (match mR op k a b with | some v => some (v, H1) | none => kT P ⟨dst, .binOp op t x y yt, type, pos, after, guard ⟩ l H1) else kT P ⟨dst, .binOp op t x y yt, type, pos, after, guard ⟩ l H1 := by
    simp only [opD, hx, hy]
    cases op <;> rfl
   rw [this, if_pos rfl, hv]
  ·exact absurd hr Rs.ar
 ·exact absurd hr Rs.ar
theorem c0P {b : Option Blk} {i e : Nat} {H H1 : Heap} {v : Value} (h : (b9G b i e H).Is v H1) : H1 = H ∧ ∃ cs ty rw lo ver, b = some (.cells cs ty rw lo ver) ∧ lo ≤ e ∧ e ≤ cs.length ∧ i + 1 ≤ e ∧ cs[i]? = some v := by
 unfold b9G at h
 split at h
 ·rename_i cs ty rw lo ver
  obtain ⟨h1, h⟩ := lK h
  obtain ⟨h2, h⟩ := lK h
  obtain ⟨h3, h⟩ := lK h
  have h : (okV (a1A cs i) H).Is v H1 := h
  obtain ⟨h4, h5⟩ := b4W h
  rw [zF] at h2
  rw [yE] at h4
  exact ⟨h5, cs, ty, rw, lo, ver, rfl, eF h1, by simpa using h2, eF h3, h4⟩
 ·exact absurd h Rs.ar
theorem c0O {b : Option Blk} {n i e : Nat} {H H1 : Heap} {v : Value} (h : (b8W b n i e H).Is v H1) : H1 = H ∧ ∃ cs ty rw lo ver, b = some (.cells cs ty rw lo ver) ∧ lo ≤ e ∧ e ≤ cs.length ∧ i + n ≤ e ∧ v = .agg ((cs.drop i).take n).toArray := by
 unfold b8W at h
 split at h
 ·rename_i cs ty rw lo ver
  obtain ⟨h1, h⟩ := lK h
  obtain ⟨h2, h⟩ := lK h
  obtain ⟨h3, h⟩ := lK h
  obtain ⟨h4, h⟩ := a7l h
  obtain ⟨rfl, rfl⟩ := Rs.aN h
  rw [zF] at h2
  exact ⟨rfl, cs, ty, rw, lo, ver, rfl, eF h1, by simpa using h2, eF h3, by rw [a8u]⟩
 ·exact absurd h Rs.ar
theorem b1E {X : LArg} {f : Fr} {H H1 : Heap} {v w : Value} {t : TypeId} (ht : jR P t = some false) (hw : mS f X = w) (h : (b3B X f H).Is v H1) : H1 = H ∧ lO P H t w = some v := by
 unfold b3B at h
 rw [hw] at h
 split at h
 ·rename_i A i e
  obtain ⟨h1, cs, ty, rw', lo, ver, h2, h3, h4, h5, h6⟩ := c0P h
  refine ⟨h1, ?_⟩
  simp only [lO, ht, jD, h2]
  rw [if_pos (by simp; omega)]
  simp [h6]
 ·rename_i A i
  unfold c3b at h
  split at h
  ·rename_i cs ty lo hg
   obtain ⟨h1, h⟩ := lK h
   rw [zF] at h1
   have h1 : lo ≤ cs.length := by simpa using h1
   cases hn : a1A cs i with
   | none => rw [hn] at h; exact absurd h Rs.ar
   | some c =>
     rw [hn] at h
     have h : (oS c fun v => Rs.ok v H).Is v H1 := h
     rw [mW] at h
     obtain ⟨rfl, rfl⟩ := Rs.aN h
     rw [yE] at hn
     have hi := (dw.1 hn).1
     refine ⟨rfl, ?_⟩
     simp only [lO, ht, jD, hg]
     rw [if_pos (by simp; omega)]
     simp [hn]
  ·exact absurd h Rs.ar
 ·exact absurd h Rs.ar
theorem b1D {X : LArg} {f : Fr} {H H1 : Heap} {v w : Value} {t : TypeId} {n : Nat} (ht : jR P t = some true) (hn : iE P t = some n) (hw : mS f X = w) (h : (b4l n X f H).Is v H1) : H1 = H ∧ lO P H t w = some v := by
 unfold b4l at h
 rw [hw] at h
 split at h
 ·rename_i A i e
  obtain ⟨h1, cs, ty, rw', lo, ver, h2, h3, h4, h5, h6⟩ := c0O h
  refine ⟨h1, ?_⟩
  simp only [lO, ht, hn, cX, jD, h2]
  rw [if_pos (by simp; omega), h6]
  rfl
 ·exact absurd h Rs.ar
theorem b9R {t : TypeId} (ht : jR P t = some false) (x : Operand) : LowPl P ⟨dst, .load t x, type, pos, after, guard⟩ (.ld1 (iV x)) := fun C f l H v H1 hf hr => by
 obtain ⟨rfl, h⟩ := b1E (P := P) ht (jW hf x) hr
 simp only [opD, h, dO]
theorem b9Q {t : TypeId} {n : Nat} (ht : jR P t = some true) (hn : iE P t = some n) (x : Operand) : LowPl P ⟨dst, .load t x, type, pos, after, guard⟩ (.ldn n (iV x)) := fun C f l H v H1 hf hr => by
 obtain ⟨rfl, h⟩ := b1D (P := P) ht hn (jW hf x) hr
 simp only [opD, h, dO]
theorem c2O {t : TypeId} {n : Nat} (hn : iE P t = some n) (x y : Operand) : LowPl P ⟨dst, .store t x y, type, pos, after, guard⟩ (.st n (iV x) (iV y)) := fun C f l H v H1 hf hr => by
 have hr : (hSt n (iV x) (iV y) f H).Is v H1 := hr
 unfold hSt at hr
 rw [jW hf, jW hf] at hr
 split at hr
 ·rename_i A i e hx
  unfold stB at hr
  split at hr
  ·rename_i cs ty lo ver hg
   obtain ⟨h1, hr⟩ := lK hr
   obtain ⟨h2, hr⟩ := lK hr
   obtain ⟨h3, hr⟩ := lK hr
   obtain ⟨h4, hr⟩ := lK hr
   obtain ⟨h5, hr⟩ := lK hr
   obtain ⟨rfl, rfl⟩ := Rs.aR hr
   rw [yT] at h1 h3
   have h1 : n = (ev l y).cells.toList.length := by simpa only [decide_eq_true_eq] using h1
   have h3 : e = cs.length := by simpa only [decide_eq_true_eq] using h3
   have h4 : i + n ≤ e := eF h4
   have h5 : lo ≤ e := eF h5
   simp only [opD, rK, hx, hg]
   rw [if_pos ⟨by rw [hn, h1], h2, h3, by omega, h5⟩]
   simp only [dO]
   rw [h3]
  ·exact absurd hr Rs.ar
 ·exact absurd hr Rs.ar
theorem c2w {s : TypeId} {k n : Nat} {fd : Field} (hf' : oX P s k = some fd) (hn : iE P fd.type = some n) (hn0 : n ≠ 0) (x : Operand) : LowPl P ⟨dst, .fieldAddr s x k, type, pos, after, guard⟩ (.fa fd.offset (iV x)) := fun C f l H v H1 hf hr => by
 have hr : (hFa fd.offset (iV x) f H).Is v H1 := hr
 unfold hFa at hr
 rw [jW hf] at hr
 split at hr
 ·rename_i A i e hx
  rw [kB] at hr
  obtain ⟨rfl, rfl⟩ := Rs.aN hr
  simp only [opD, hx, hf', cX, hn]
  rw [if_neg (by simpa using hn0)]; rfl
 ·exact absurd hr Rs.ar
theorem b5b {A i e size n : Nat} {H H1 : Heap} {j v : Value} (h : (ixP A i e size n H j).Is v H1) : H1 = H ∧ ∃ k m, j = .int k (.ofNat m) ∧ m < n ∧ v = .pointer (some ⟨A, i + m * size, some e⟩) := by
 unfold ixP at h
 split at h
 ·rename_i k m
  obtain ⟨h1, h⟩ := lK h
  rw [kB] at h
  obtain ⟨rfl, rfl⟩ := Rs.aN h
  rw [blt_eq] at h1
  exact ⟨rfl, k, m, rfl, by simpa using h1, rfl⟩
 ·exact absurd h Rs.ar
theorem b9D {t elem : TypeId} {size : Nat} (ht : P.underlying t = some (.slice elem)) (hs : iE P elem = some size) (x i : Operand) : LowPl P ⟨dst, .indexAddr t x i, type, pos, after, guard⟩ (.ixs size (iV x) (iV i)) := fun C f l H v H1 hf hr => by
 have hr : (c2v size (iV x) (iV i) f H).Is v H1 := hr
 unfold c2v at hr
 rw [jW hf, jW hf] at hr
 split at hr
 ·rename_i A a e n c hx
  obtain ⟨rfl, k, m, hj, hm, rfl⟩ := b5b hr
  simp only [opD, ht, hx, hj, hs, cX]
  rw [if_pos (by simp; omega)]
  rfl
 ·exact absurd hr Rs.ar
theorem c5q (a b : Nat) : Nat.beq a b = (a == b) := by
 cases h : Nat.beq a b with
 | true => rw [dX h]; simp
 | false => have := Nat.ne_of_beq_eq_false h; simp [this]
theorem c3L {A i size n : Nat} {H H1 : Heap} {j v : Value} (h : (ixG A i size n H j).Is v H1) : H1 = H ∧ ∃ k m, j = .int k (.ofNat m) ∧ m < n ∧ v = .pointer (some ⟨A, i + m * size, none⟩) := by
 unfold ixG at h
 split at h
 ·rename_i k m
  obtain ⟨h1, h⟩ := lK h
  rw [kB] at h
  obtain ⟨rfl, rfl⟩ := Rs.aN h
  exact ⟨rfl, k, m, rfl, by simpa [ig] using h1, rfl⟩
 ·exact absurd h Rs.ar
theorem b9o {t elem : TypeId} {n size : Nat} (ht : P.underlying t = some (.array n elem)) (hs : iE P elem = some size) (x i : Operand) : LowPl P ⟨dst, .indexAddr t x i, type, pos, after, guard⟩ (.ixa n size (iV x) (iV i)) := fun C f l H v H1 hf hr => by
 have hr : (c2q n size (iV x) (iV i) f H).Is v H1 := hr
 unfold c2q at hr
 rw [jW hf, jW hf] at hr
 split at hr
 ·rename_i A a e hx
  obtain ⟨rfl, k, m, hj, hm, rfl⟩ := b5b hr
  simp only [opD, ht, hx, hj, hs, cX]
  rw [if_pos (by simp; omega)]
  rfl
 ·rename_i A a hx
  obtain ⟨rfl, k, m, hj, hm, rfl⟩ := c3L hr
  simp only [opD, ht, hx, hj, hs, cX]
  rw [if_pos (by simp; omega)]
  rfl
 ·exact absurd hr Rs.ar
theorem b8N (i : Nat) (x : Operand) : LowPl P ⟨dst, .extract x i, type, pos, after, guard⟩ (.ext i (iV x)) := fun C f l H v H1 hf hr => by
 have hr : (c2x i (iV x) f H).Is v H1 := hr
 unfold c2x at hr
 rw [jW hf] at hr
 split at hr
 ·rename_i vs hx
  obtain ⟨h1, rfl⟩ := b4W hr
  rw [yE] at h1
  simp only [opD, hx]
  simp [h1]
 ·exact absurd hr Rs.ar
theorem c0Y {c : Call} {elem : TypeId} (hc : c.callee = .builtin .len) (h1 : c.args.size = 1) (h2 : c.argTypes.size = 1) (ht : P.underlying (c.argTypes.getD 0 0) = some (.slice elem)) : LowPl P ⟨dst, .call c, type, pos, after, guard⟩ (.len (iV (c.args.getD 0 (.tmp 0)))) := fun C f l H v H1 hf hr => by
 have hr : (c1Y (iV (c.args.getD 0 (.tmp 0))) f H).Is v H1 := hr
 unfold c1Y at hr
 rw [jW hf] at hr
 split at hr
 ·rename_i a n k hx
  obtain ⟨rfl, rfl⟩ := Rs.aR hr
  simp only [opD, hc, h1, h2, ht, hx, xW]; rfl
 ·exact absurd hr Rs.ar
theorem b7W {c : Call} (hc : c.callee = .builtin .len) (h1 : c.args.size = 1) (h2 : c.argTypes.size = 1) (ht : P.underlying (c.argTypes.getD 0 0) = some .string) : LowPl P ⟨dst, .call c, type, pos, after, guard⟩ (.slen (iV (c.args.getD 0 (.tmp 0)))) := fun C f l H v H1 hf hr => by
 have hr : (b7C (iV (c.args.getD 0 (.tmp 0))) f H).Is v H1 := hr
 unfold b7C at hr
 rw [jW hf] at hr
 split at hr
 ·rename_i s hx
  obtain ⟨rfl, rfl⟩ := Rs.aR hr
  simp only [opD, hc, h1, h2, ht, hx, xW]; rfl
 ·exact absurd hr Rs.ar
theorem c0X {c : Call} {elem : TypeId} {size bytes : Nat} {z : Value} (hc : c.callee = .builtin .append) (h1 : c.args.size = 2) (h2 : c.argTypes.size = 2) (hi : ((P.underlying (c.argTypes.getD 1 0)).map qD) = some true)
 (he : iI P (c.argTypes.getD 0 0) = some elem) (hs : iE P elem = some size) (hb : nC P elem = some bytes) (hz : jB P elem = some z) (hzs : z.cells.size = size) (hs0 : size ≠ 0) :
 LowPl P ⟨dst, .call c, type, pos, after, guard⟩ (.app elem size bytes (iV (c.args.getD 0 (.tmp 0))) (iV (c.args.getD 1 (.tmp 0)))) := fun C f l H v H1 hf hr => by
 have hr : (c2d P elem size bytes (iV (c.args.getD 0 (.tmp 0))) (iV (c.args.getD 1 (.tmp 0))) f H).Is v H1 := hr
 unfold c2d at hr
 rw [jW hf, jW hf] at hr
 have hD : opD P ⟨dst, .call c, type, pos, after, guard⟩ l H = nT P H (c.argTypes.getD 0 0) (ev l (c.args.getD 0 (.tmp 0))) (ev l (c.args.getD 1 (.tmp 0))) := by
  simp only [opD, hc, h1, h2, hi]; rfl
 rw [hD]
 unfold nT
 rw [he, cX, hs, cX, hb, cX, hz, cX]
 split at hr
 ·rename_i n m hsrc
  rw [hsrc, cX]
  unfold c4T at hr
  split at hr
  ·rename_i k cc hx
   obtain ⟨g1, hq1⟩ := lK hr
   obtain ⟨g2, hq2⟩ := lK hq1
   obtain ⟨g3, hq⟩ := lK hq2
   clear hr hq1 hq2
   obtain rfl : k = 0 := dX g1
   obtain rfl : cc = 0 := dX g2
   have g3 : n * (bytes + 1) ≤ oC := eF g3
   simp only [hx]
   rw [if_pos (by simp [hs0, hzs, g3])]
   rw [kQ] at hq
   by_cases hn : n = 0
   ·subst hn
    rw [if_pos (by rfl)] at hq
    obtain ⟨rfl, rfl⟩ := Rs.aN hq
    simp
   ·rw [if_neg (fun e => hn (dX e))] at hq
    obtain ⟨rfl, rfl⟩ := Rs.aR hq
    simp [hn]
  ·rename_i A i e k cc hx
   unfold c4s at hr
   split at hr
   ·rename_i cs ty lo ver hg
    obtain ⟨g2, hr⟩ := lK hr
    obtain ⟨g4, hr⟩ := lK hr
    obtain ⟨g5, hr⟩ := lK hr
    have g2 : (ty == elem || iE P ty == some size) = true := by
     rw [c5q] at g2
     cases hh : (ty == elem) with
     | true => rfl
     | false => rw [hh] at g2; exact g2
    rw [yT] at g4
    have g4 : e = cs.length := by simpa only [decide_eq_true_eq] using g4
    have g5 : lo ≤ e := eF g5
    simp only [hx, hg]
    rw [kQ] at hr
    by_cases g3 : i + k * size = e
    ·rw [if_pos (by simpa using g3)] at hr
     obtain ⟨g1, hr⟩ := lK hr
     obtain ⟨rfl, rfl⟩ := Rs.aR hr
     have g1 : (k + n) * (bytes + 1) ≤ oC := eF g1
     have et : (Bool.rec (motive := fun _ => Nat) 2 ver (Nat.beq ty elem)) = (if (ty == elem) = true then ver else 2) := by
      rw [c5q]
      cases hh : (ty == elem) with
      | true => rfl
      | false => rfl
     rw [et, if_pos (by simp only [g2, fu, cW, bne_iff_ne, beq_iff_eq, decide_eq_true_eq]; exact ⟨⟨⟨⟨⟨hs0, g1⟩, by simpa using hzs⟩, g3⟩, g4⟩, g5⟩)]
    ·rw [if_neg (by simpa using g3)] at hr
     rw [kQ] at hr
     by_cases hn : n = 0
     ·rw [if_pos (by simpa using hn)] at hr
      exact absurd hr Rs.ar
     ·rw [if_neg (by simpa using hn)] at hr
      obtain ⟨g6, hr⟩ := lK hr
      obtain ⟨rfl, rfl⟩ := Rs.aR hr
      have g6 : i + (k + n) * size ≤ e := eF g6
      rw [if_neg (by simp [g3]), if_pos (by simp only [g2, fu, cW, bne_iff_ne, beq_iff_eq, decide_eq_true_eq]; exact ⟨⟨⟨⟨⟨hs0, hn⟩, by simpa using hzs⟩, g6⟩, g4⟩, g5⟩), g4]
   ·exact absurd hr Rs.ar
  ·exact absurd hr Rs.ar
 ·exact absurd hr Rs.ar
theorem b3V {c : Call} {k : FuncId} (hc : c.callee = .value (.func k)) (hok : (Op.call c).operands.toList.all iP = true) : wP P ⟨dst, .call c, type, pos, after, guard⟩ (.callF k (kV k) (c.args.toList.map iV)) := fun C H0 f l H v H1 hC hk hf hr => by
 have hr : (a3U f (c.args.toList.map iV) fun l => C.fn (kV k) k l H).Is v H1 := hr
 rw [a7A hf] at hr
 obtain ⟨h1 | hx, h2⟩ := hC.fn _ _ _ _ _ _ hk hr rfl
 case inr => exact ⟨.ext hok c (.func k) k #[] #[] rfl hc rfl (by simpa using hx), h2⟩
 obtain ⟨he, v', H', hcall, rfl, rfl⟩ := h1.fn
 exact ⟨.call hok c (.func k) k #[] #[] rfl hc rfl he (by simpa using hcall), h2⟩
theorem b3b {c : Call} {g : Operand} (hc : c.callee = .value g) (hok : (Op.call c).operands.toList.all iP = true) : wP P ⟨dst, .call c, type, pos, after, guard⟩ (.callV (iV g) (c.args.toList.map iV)) := fun C H0 f l H v H1 hC hk hf hr => by
 have hr : (a3U f (c.args.toList.map iV) fun l => b0x C l H (mS f (iV g))).Is v H1 := hr
 rw [a7A hf, jW hf] at hr
 unfold b0x at hr
 split at hr
 ·rename_i k a b hg
  rw [kB, lQ] at hr
  obtain ⟨h1 | hx, h2⟩ := hC.fn _ _ _ _ _ _ hk hr rfl
  case inr => exact ⟨.ext hok c g k ⟨a⟩ ⟨b⟩ rfl hc hg (by simpa [yM] using hx), h2⟩
  obtain ⟨he, v', H', hcall, rfl, rfl⟩ := h1.fn
  exact ⟨.call hok c g k ⟨a⟩ ⟨b⟩ rfl hc hg he (by simpa [yM] using hcall), h2⟩
 ·rename_i L a b hg
  obtain ⟨h1, h2⟩ := hC.rd _ _ _ _ _ hk hr
  exact ⟨.round hok c g L _ _ rfl hc hg h1, h2⟩
 ·exact absurd hr Rs.ar
end
set_option maxHeartbeats 1000000 in
theorem b1T {α : Type} (o : Oper) (K : LOp → α) : ∃ lo, wP P o lo ∧ yK P o K = K lo := by
 unfold yK
 rw [kQ]
 by_cases hok : o.op.operands.toList.all iP = true
 case neg => rw [if_neg hok]; exact ⟨_, b9E o, rfl⟩
 rw [if_pos hok]
 have gen : ∃ lo, wP P o lo ∧ K (.gen o) = K lo := ⟨_, (c0j o).low hok, rfl⟩
 obtain ⟨dst, op, type, pos, after, guard⟩ := o
 unfold c5J
 cases op with
 | move x => simp only [lE]; exact ⟨_, (c2N x).low hok, rfl⟩
 | assign x => simp only [lE]; exact ⟨_, (c3m x).low hok, rfl⟩
 | pick c a b => simp only [lE]; exact ⟨_, (b6r c a b).low hok, rfl⟩
 | binOp op t x y yt =>
   simp only [lE, kQ]
   split
   ·split
    ·rename_i g hg; exact ⟨_, (b8V hg t yt x y).low hok, rfl⟩
    ·exact gen
   ·exact gen
 | load t x =>
   simp only [lE]
   split
   ·rename_i ht
    cases hn : iE P t with
    | none => exact gen
    | some n => rw [pH]; exact ⟨_, (b9Q ht hn x).low hok, rfl⟩
   ·rename_i ht; exact ⟨_, (b9R ht x).low hok, rfl⟩
   ·exact gen
 | store t x y =>
   simp only [lE]
   cases hn : iE P t with
   | none => exact gen
   | some n => rw [pH]; exact ⟨_, (c2O hn x y).low hok, rfl⟩
 | fieldAddr s x k =>
   simp only [lE]
   split
   ·rename_i fd hfd
    split
    ·exact gen
    ·rename_i n hn0 hn
     rw [kB]
     exact ⟨_, (c2w hfd hn (fun e => hn0 e) x).low hok, rfl⟩
    ·exact gen
   ·exact gen
 | indexAddr t x i =>
   simp only [lE]
   split
   ·rename_i elem ht
    cases hs : iE P elem with
    | none => exact gen
    | some n => rw [pH]; exact ⟨_, (b9D ht hs x i).low hok, rfl⟩
   ·rename_i n elem ht
    cases hs : iE P elem with
    | none => exact gen
    | some m => rw [pH]; exact ⟨_, (b9o ht hs x i).low hok, rfl⟩
   ·exact gen
 | extract t i => simp only [lE]; rw [kB]; exact ⟨_, (b8N i t).low hok, rfl⟩
 | call c =>
   simp only
   unfold b6k
   split
   ·rename_i k hc
    rw [lQ, a4p]
    exact ⟨_, b3V hc hok, rfl⟩
   ·rename_i g _ hc
    rw [lE, a4p]
    exact ⟨_, b3b hc hok, rfl⟩
   ·rename_i hc
    rw [kQ]
    split
    ·rename_i h1
     simp only [cW, beq_iff_eq] at h1
     split
     ·rename_i elem ht; rw [lE]; exact ⟨_, (c0Y hc h1.1 h1.2 ht).low hok, rfl⟩
     ·rename_i ht; rw [lE]; exact ⟨_, (b7W hc h1.1 h1.2 ht).low hok, rfl⟩
     ·exact gen
    ·exact gen
   ·rename_i hc
    rw [kQ]
    split
    ·rename_i h1
     simp only [cW, beq_iff_eq] at h1
     split
     ·rename_i elem he
      cases hs : iE P elem with
      | none => exact gen
      | some size =>
        rw [pH]
        cases hb : nC P elem with
        | none => exact gen
        | some bytes =>
          rw [pH]
          split
          ·rename_i z hz
           rw [kQ]
           split
           ·rename_i h2
            simp only [cW, beq_iff_eq, bne_iff_ne] at h2
            rw [kB, lE, lE]
            exact ⟨_, (c0X hc h1.1.1 h1.1.2 h1.2 he hs hb hz h2.1 h2.2).low hok, rfl⟩
           ·exact gen
          ·exact gen
     ·exact gen
    ·exact gen
   ·exact gen
 | _ => exact gen
def DOk (k : Nat) (dst : Option Tmp) (d : Option Pth) : Prop := (dst = none ∧ d = none) ∨ ∃ t, dst = some t ∧ t < k ∧ d = some (kV t)
inductive LowOps (P : Program) (k : Nat) (ops : Array Oper) : List Oper → LOps → Prop
 | nil : LowOps P k ops [] .nil
 | cons {o : Oper} {os : List Oper} {d : Option Pth} {lo : LOp} {r : LOps} (hd : DOk k o.dst d) (ho : wP P o lo) (hg : o.guard = none) (hr : LowOps P k ops os r) : LowOps P k ops (o :: os) (.cons d lo r)
 | gcons {o : Oper} {os : List Oper} {d : Option Pth} {lo : LOp} {r : LOps} {j t : Nat} {w : Bool} (hd : DOk k o.dst d) (ho : wP P o lo) (hg : o.guard = some (j, w)) (ht : (ops[j]?).bind (·.dst) = some t) (htk : t < k) (hr : LowOps P k ops os r) : LowOps P k ops (o :: os) (.gcons (kV t) w d lo r)
def GOk (ops : Array Oper) (o : Oper) (g : Option (Pth × Bool)) : Prop := (o.guard = none ∧ g = none) ∨ ∃ j w t, o.guard = some (j, w) ∧ (ops[j]?).bind (·.dst) = some t ∧ g = some (kV t, w)
theorem GOk.runs {ops : Array Oper} {o : Oper} {g : Option (Pth × Bool)} (h : GOk ops o g) {f : Fr} {l : List Value} (hf : FAg f l) (hw : Region.wanted o (iU ops l) = true) : b5B f g = true := by
 rcases h with ⟨_, rfl⟩ | ⟨j, w, t, hg, ht, rfl⟩
 ·rfl
 ·simp only [Region.wanted, hg, iU, ht] at hw
  show isB (oG (kV t) f) w = true
  rw [hf t, oM, dc]
  cases hl : l[t]? with
  | none => rw [hl] at hw; simp at hw
  | some v =>
    rw [hl] at hw
    cases v <;> simp at hw
    subst hw
    rename_i b
    cases b <;> rfl
inductive LowTab (P : Program) (ops : Array Oper) : List (Nat × Nat) → List (Nat × Option Nat × Option (Pth × Bool) × LOp) → Prop
 | nil : LowTab P ops [] []
 | cons {i m : Nat} {o : Oper} {lo : LOp} {tab : List (Nat × Nat)} {t : List (Nat × Option Nat × Option (Pth × Bool) × LOp)} {g : Option (Pth × Bool)} (ho : ops[i]? = some o) (hgd : GOk ops o g) (hl : wP P o lo) (hr : LowTab P ops tab t) :
    LowTab P ops ((i, m) :: tab) ((ops.size - 1 - i, if m < ops.size then some (ops.size - 1 - m) else none, g, lo) :: t)
inductive Low (P : Program) (k : Nat) : Code → LCode → Prop
 | bad (c : Code) : Low P k c .bad
 | skip : Low P k .skip .skip
 | label (t : Nat) : Low P k (.label t) .skip
 | reg {id : Nat} {ops : Array Oper} {d : Bool} {lo : LOps} (h : LowOps P k ops ops.toList lo) (hd : d = true → nI P ops = some []) : Low P k (.region id ops d) (.reg lo)
 | drw {id : Nat} {ops : Array Oper} {lo : LOps} {tab : List (Nat × Nat)} {t : List (Nat × Option Nat × Option (Pth × Bool) × LOp)} (h : LowOps P k ops ops.toList lo) (ht : nI P ops = some tab) (hl : LowTab P ops tab t) : Low P k (.region id ops true) (.drw lo t)
 | seq {a b : Code} {A B : LCode} (ha : Low P k a A) (hb : Low P k b B) : Low P k (.seq a b) (.seq A B)
 | cond {c : Operand} {x y : Code} {X Y : LCode} (hc : iP c = true) (hx : Low P k x X) (hy : Low P k y Y) : Low P k (.cond c x y) (.cond (iV c) X Y)
 | block {id : Nat} {b : Code} {B : LCode} (hb : Low P k b B) : Low P k (.block id b) (.block id B)
 | loop {b : Code} {B : LCode} (hb : Low P k b B) : Low P k (.loop b) (.loop B)
 | exit (id : Nat) : Low P k (.exit id) (.exit id)
 | ret : Low P k .ret .ret
 | range {g : Operand} {ps : Array Tmp} {assign body : Code} {A B : LCode} (hg : iP g = true) (hps : ∀ t ∈ ps.toList, t < k) (ha : Low P k assign A) (hb : Low P k body B) :
    Low P k (.rangeFunc g ps assign body) (.range (iV g) ((List.range k).map kV) (ps.toList.map kV) ps assign body A B)
section
variable {α : Type}
theorem b5U (k : Nat) (dst : Option Tmp) (no : α) (K : Option Pth → α) : (∃ d, DOk k dst d ∧ a6L k dst no K = K d) ∨ a6L k dst no K = no := by
 cases dst with
 | none => exact .inl ⟨none, .inl ⟨rfl, rfl⟩, rfl⟩
 | some t =>
   simp only [a6L, kQ]
   split
   ·rename_i h
    rw [lQ]
    rw [blt_eq] at h
    exact .inl ⟨_, .inr ⟨t, rfl, by simpa using h, rfl⟩, rfl⟩
   ·exact .inr rfl
theorem a3n (k : Nat) (ops : Array Oper) (l : List Oper) (K : LOps → α) (no : α) : (∃ L, LowOps P k ops l L ∧ uQ P k ops l K no = K L) ∨ uQ P k ops l K no = no := by
 induction l generalizing K with
 | nil => exact .inl ⟨_, .nil, rfl⟩
 | cons o l ih =>
   let K2 : Option Pth → LOp → α := fun d o' => match o.guard with
    | none => uQ P k ops l (fun r => K (.cons d o' r)) no
    | some (j, w) => match (ops[j]?).bind (·.dst) with
      | some t => oD (Nat.blt t k) no (lS (kV t) fun p => a0Y w fun w => uQ P k ops l (fun r => K (.gcons p w d o' r)) no)
      | none => no
   have e : uQ P k ops (o :: l) K no = a6L k o.dst no fun d => yK P o fun o' => K2 d o' := rfl
   rw [e]
   rcases b5U k o.dst no (fun d => yK P o fun o' => K2 d o') with ⟨d, hd, h1⟩ | h1
   ·rw [h1]
    obtain ⟨lo, hlo, h2⟩ := b1T (P := P) o (fun o' => K2 d o')
    rw [h2]
    simp only [K2]
    split
    ·rename_i hg
     rcases ih (fun r => K (.cons d lo r)) with ⟨L, hL, h3⟩ | h3
     ·exact .inl ⟨_, .cons hd hlo hg hL, h3⟩
     ·exact .inr h3
    ·rename_i j w hg
     split
     ·rename_i t ht
      rw [kQ]
      split
      ·rename_i htk
       rw [lQ, wC]
       rw [blt_eq] at htk
       rcases ih (fun r => K (.gcons (kV t) w d lo r)) with ⟨L, hL, h3⟩ | h3
       ·exact .inl ⟨_, .gcons hd hlo hg ht (by simpa using htk) hL, h3⟩
       ·exact .inr h3
      ·exact .inr rfl
     ·exact .inr rfl
   ·exact .inr h1
theorem c2h (k : Nat) (ops : Array Oper) (o : Oper) (no : α) (K : Option (Pth × Bool) → α) : (∃ g, GOk ops o g ∧ loG k ops o.guard no K = K g) ∨ loG k ops o.guard no K = no := by
 cases hg : o.guard with
 | none => exact .inl ⟨none, .inl ⟨hg, rfl⟩, rfl⟩
 | some x =>
   obtain ⟨j, w⟩ := x
   unfold loG
   cases ht : (ops[j]?).bind (·.dst) with
   | none => exact .inr (by simp only [ht])
   | some t =>
     simp only [ht, kQ]
     split
     ·refine .inl ⟨some (kV t, w), .inr ⟨j, w, t, hg, ht, rfl⟩, ?_⟩
      rw [lQ, wC]
     ·exact .inr rfl
theorem b4X (k : Nat) (ops : Array Oper) (tab : List (Nat × Nat)) (K : List (Nat × Option Nat × Option (Pth × Bool) × LOp) → α) (no : α) : (∃ t, LowTab P ops tab t ∧ uI P k ops ops.size tab K no = K t) ∨ uI P k ops ops.size tab K no = no := by
 induction tab generalizing K with
 | nil => exact .inl ⟨_, .nil, rfl⟩
 | cons x tab ih =>
   obtain ⟨i, m⟩ := x
   cases ho : ops[i]? with
   | none =>
     refine .inr ?_
     show (match ops[i]? with
      | some o => _
      | none => no) = no
     rw [ho]
   | some o =>
     let K2 : Option (Pth × Bool) → LOp → α := fun g o' => kE (ops.size - 1 - i) fun i => oD (Nat.blt m ops.size) (uI P k ops ops.size tab (fun l => K ((i, none, g, o') :: l)) no) (kE (ops.size - 1 - m) fun m => uI P k ops ops.size tab (fun l => K ((i, some m, g, o') :: l)) no)
     have e : uI P k ops ops.size ((i, m) :: tab) K no = loG k ops o.guard no fun g => yK P o fun o' => K2 g o' := by
      show (match ops[i]? with
       | some o => loG k ops o.guard no fun g => yK P o fun o' => K2 g o'
       | none => no) = _
      rw [ho]
     rw [e]
     rcases c2h k ops o no (fun g => yK P o fun o' => K2 g o') with ⟨g, hgd, h1⟩ | h1
     ·rw [h1]
      obtain ⟨lo, hlo, h2⟩ := b1T (P := P) o (fun o' => K2 g o')
      rw [h2]
      show (∃ t, _ ∧ kE (ops.size - 1 - i) (fun i => oD (Nat.blt m ops.size) (uI P k ops ops.size tab (fun l => K ((i, none, g, lo) :: l)) no) (kE (ops.size - 1 - m) fun m => uI P k ops ops.size tab (fun l => K ((i, some m, g, lo) :: l)) no)) = K t) ∨ kE (ops.size - 1 - i) (fun i => oD (Nat.blt m ops.size) (uI P k ops ops.size tab (fun l => K ((i, none, g, lo) :: l)) no) (kE (ops.size - 1 - m) fun m => uI P k ops ops.size tab (fun l => K ((i, some m, g, lo) :: l)) no)) = no
      rw [kB, kQ, kB, blt_eq]
      by_cases hm : m < ops.size
      ·rw [if_pos (by simpa using hm)]
       rcases ih (fun l => K ((ops.size - 1 - i, some (ops.size - 1 - m), g, lo) :: l)) with ⟨t, ht, h3⟩ | h3
       ·have := LowTab.cons (m := m) ho hgd hlo ht
        rw [if_pos hm] at this
        exact .inl ⟨_, this, h3⟩
       ·exact .inr h3
      ·rw [if_neg (by simpa using hm)]
       rcases ih (fun l => K ((ops.size - 1 - i, none, g, lo) :: l)) with ⟨t, ht, h3⟩ | h3
       ·have := LowTab.cons (m := m) ho hgd hlo ht
        rw [if_neg hm] at this
        exact .inl ⟨_, this, h3⟩
       ·exact .inr h3
     ·exact .inr h1
theorem b3i (k : Nat) (l : List Tmp) (K : List Pth → α) (no : α) : ((∀ t ∈ l, t < k) ∧ xH k l K no = K (l.map kV)) ∨ xH k l K no = no := by
 induction l generalizing K with
 | nil => exact .inl ⟨by simp, rfl⟩
 | cons t l ih =>
   show _ ∨ oD (Nat.blt t k) no (lS (kV t) fun p => xH k l (fun l => K (p :: l)) no) = no
   have e : xH k (t :: l) K no = oD (Nat.blt t k) no (lS (kV t) fun p => xH k l (fun l => K (p :: l)) no) := rfl
   rw [e, kQ, lQ, blt_eq]
   by_cases h : t < k
   ·rw [if_pos (by simpa using h)]
    rcases ih (fun l => K (kV t :: l)) with ⟨h1, h2⟩ | h2
    ·exact .inl ⟨by simpa using ⟨h, h1⟩, h2⟩
    ·exact .inr h2
   ·rw [if_neg (by simpa using h)]; exact .inr rfl
theorem b3S (k : Nat) (c : Code) (K : LCode → α) : ∃ C, Low P k c C ∧ nM P k c K = K C := by
 induction c generalizing K with
 | skip => exact ⟨_, .skip, rfl⟩
 | region id ops d =>
   cases d with
   | false =>
     show ∃ C, _ ∧ uQ P k ops ops.toList (fun l => K (.reg l)) (K .bad) = K C
     rcases a3n (P := P) k ops ops.toList (fun l => K (.reg l)) (K .bad) with ⟨L, hL, h⟩ | h
     ·exact ⟨_, .reg hL (fun h => by cases h), h⟩
     ·exact ⟨_, .bad _, h⟩
   | true =>
     show ∃ C, _ ∧ (match nI P ops with
      | some [] => uQ P k ops ops.toList (fun l => K (.reg l)) (K .bad)
      | some tab => uQ P k ops ops.toList (fun l => uI P k ops ops.size tab (fun t => K (.drw l t)) (K .bad)) (K .bad)
      | none => K .bad) = K C
     split
     ·rename_i hd
      rcases a3n (P := P) k ops ops.toList (fun l => K (.reg l)) (K .bad) with ⟨L, hL, h⟩ | h
      ·exact ⟨_, .reg hL (fun _ => hd), h⟩
      ·exact ⟨_, .bad _, h⟩
     ·rename_i tab _ hd
      rcases a3n (P := P) k ops ops.toList (fun l => uI P k ops ops.size tab (fun t => K (.drw l t)) (K .bad)) (K .bad) with ⟨L, hL, h⟩ | h
      ·rw [h]
       rcases b4X (P := P) k ops tab (fun t => K (.drw L t)) (K .bad) with ⟨t, ht, h2⟩ | h2
       ·exact ⟨_, .drw hL hd ht, h2⟩
       ·exact ⟨_, .bad _, h2⟩
      ·exact ⟨_, .bad _, h⟩
     ·exact ⟨_, .bad _, rfl⟩
 | seq a b iha ihb =>
   show ∃ C, _ ∧ nM P k a (fun a => nM P k b fun b => K (.seq a b)) = K C
   obtain ⟨A, hA, h1⟩ := iha (fun a => nM P k b fun b => K (.seq a b))
   obtain ⟨B, hB, h2⟩ := ihb (fun b => K (.seq A b))
   exact ⟨_, .seq hA hB, h1.trans h2⟩
 | cond c x y ihx ihy =>
   show ∃ C, _ ∧ oD (iP c) (K .bad) (lW c fun c => nM P k x fun x => nM P k y fun y => K (.cond c x y)) = K C
   rw [kQ]
   split
   ·rename_i hc
    rw [lE]
    obtain ⟨X, hX, h1⟩ := ihx (fun x => nM P k y fun y => K (.cond (iV c) x y))
    obtain ⟨Y, hY, h2⟩ := ihy (fun y => K (.cond (iV c) X y))
    exact ⟨_, .cond hc hX hY, h1.trans h2⟩
   ·exact ⟨_, .bad _, rfl⟩
 | block id b ih =>
   show ∃ C, _ ∧ kE id (fun id => nM P k b fun b => K (.block id b)) = K C
   rw [kB]
   obtain ⟨B, hB, h1⟩ := ih (fun b => K (.block id b))
   exact ⟨_, .block hB, h1⟩
 | loop b ih =>
   show ∃ C, _ ∧ nM P k b (fun b => K (.loop b)) = K C
   obtain ⟨B, hB, h1⟩ := ih (fun b => K (.loop b))
   exact ⟨_, .loop hB, h1⟩
 | rangeFunc g ps assign body iha ihb =>
   show ∃ C, _ ∧ oD (iP g) (K .bad) (lW g fun g' => b3q k fun pp => xH k ps.toList (fun q => nM P k assign fun a => nM P k body fun b => K (.range g' pp q ps assign body a b)) (K .bad)) = K C
   rw [kQ]
   split
   ·rename_i hg
    rw [lE, b1Y]
    rcases b3i k ps.toList (fun q => nM P k assign fun a => nM P k body fun b => K (.range (iV g) ((List.range k).map kV) q ps assign body a b)) (K .bad) with ⟨hps, h⟩ | h
    ·obtain ⟨A, hA, h1⟩ := iha (fun a => nM P k body fun b => K (.range (iV g) ((List.range k).map kV) (ps.toList.map kV) ps assign body a b))
     obtain ⟨B, hB, h2⟩ := ihb (fun b => K (.range (iV g) ((List.range k).map kV) (ps.toList.map kV) ps assign body A b))
     exact ⟨_, .range hg hps hA hB, h.trans (h1.trans h2)⟩
    ·exact ⟨_, .bad _, h⟩
   ·exact ⟨_, .bad _, rfl⟩
 | exit id =>
   show ∃ C, _ ∧ kE id (fun id => K (.exit id)) = K C
   rw [kB]
   exact ⟨_, .exit id, rfl⟩
 | label t => exact ⟨_, .label t, rfl⟩
 | ret => exact ⟨_, .ret, rfl⟩
 | scope b _ => exact ⟨_, .bad _, rfl⟩
 | goto t => exact ⟨_, .bad _, rfl⟩
 | refuse w => exact ⟨_, .bad _, rfl⟩
end
theorem wF {α : Type} {k : Nat} {f : Fr} {l : List Value} (h : FRel k f l) {dst : Option Tmp} {d : Option Pth} (hd : DOk k dst d) (v : Value) (K : Fr → α) : ∃ f', vQ d v f K = K f' ∧ FRel k f' (put l dst v) := by
 rcases hd with ⟨rfl, rfl⟩ | ⟨t, rfl, ht, rfl⟩
 ·exact ⟨f, rfl, h⟩
 ·exact ⟨b7b f t v, sW v (kV t) f K, h.put ht v⟩
theorem yC {ops : Array Oper} {l : List Value} {j t : Nat} (ht : (ops[j]?).bind (·.dst) = some t) (htl : t < l.length) (w : Bool) : (iU ops l j == some w) = isB (get l t) w := by
 have hg : get l t = l[t] := by rw [oM]; simp [htl]
 unfold iU
 rw [ht, hg]
 simp only [dq htl]
 cases hv : l[t] <;> simp [isB]
 rename_i b
 cases b <;> cases w <;> rfl
theorem b9q {k : Nat} {ops : Array Oper} {C : Calls'} {H0 : Heap} (hC : CallsOk P C H0) {os : List Oper} {lo : LOps} (hlo : LowOps P k ops os lo) : ∀ {i : Nat}, ops.toList.drop i = os → ∀ {f : Fr} {l : List Value} {H : Heap} {f1 : Fr} {H1 : Heap},
 FRel k f l → LK H0 H → zG P C lo f H = .ok f1 H1 → ∃ l1, FRel k f1 l1 ∧ OpsR P ops (List.range' i os.length) l H l1 H1 ∧ LK H H1 := by
 induction hlo with
 | nil =>
   intro i _ f l H f1 H1 hf _ h
   injection h with h1 h2
   subst h1 h2
   exact ⟨l, hf, .nil l H, .refl H⟩
 | @cons o os d lo r hd ho hg hr ih =>
   intro i hi f l H f1 H1 hf hk h
   have hio : ops[i]? = some o := by
    have : (ops.toList.drop i)[0]? = some o := by rw [hi]; rfl
    rw [dI] at this
    simpa using this
   have hi' : ops.toList.drop (i + 1) = os := by rw [← fx, hi]; rfl
   have hw : Region.wanted o (iU ops l) = true := by simp [Region.wanted, hg]
   have h : b1R Rf.no d f (zG P C r) (opF P C lo f H) = .ok f1 H1 := h
   have key : ∀ v H2, (opF P C lo f H).Is v H2 → (vQ d v f fun f => zG P C r f H2) = .ok f1 H1 → ∃ l1, FRel k f1 l1 ∧ OpsR P ops (List.range' i (o :: os).length) l H l1 H1 ∧ LK H H1 := by
    intro v H2 hop hrest
    obtain ⟨hs, hk2⟩ := ho C H0 f l H v H2 hC hk hf.2 hop
    obtain ⟨f', e, hf'⟩ := wF hf hd v (fun f => zG P C r f H2)
    rw [e] at hrest
    obtain ⟨l1, h1, h2, h3⟩ := ih hi' hf' (hk.trans hk2) hrest
    exact ⟨l1, h1, .step hio hw hs h2, hk2.trans h3⟩
   cases hop : opF P C lo f H with
   | no => rw [hop] at h; cases h
   | ok v H2 => rw [hop] at h; exact key v H2 (.inl hop) h
   | th v H2 =>
     rw [hop] at h
     have h : zP v (fun v => nZ H2 fun H2 => vQ d v f fun f => zG P C r f H2) = .ok f1 H1 := h
     rw [zJ, lZ] at h
     exact key v H2 (.inr hop) h
 | @gcons o os d lo r j t w hd ho hg ht htk hr ih =>
   intro i hi f l H f1 H1 hf hk h
   have hio : ops[i]? = some o := by
    have : (ops.toList.drop i)[0]? = some o := by rw [hi]; rfl
    rw [dI] at this
    simpa using this
   have hi' : ops.toList.drop (i + 1) = os := by rw [← fx, hi]; rfl
   have hwi : Region.wanted o (iU ops l) = isB (oG (kV t) f) w := by
    simp only [Region.wanted, hg]
    rw [yC ht (by rw [hf.1]; exact htk) w, hf.2 t]
   have h : oD (isB (oG (kV t) f) w) (vQ d undef f fun f => zG P C r f H) (b1R Rf.no d f (zG P C r) (opF P C lo f H)) = .ok f1 H1 := h
   rw [kQ] at h
   split at h
   ·rename_i hb
    have key : ∀ v H2, (opF P C lo f H).Is v H2 → (vQ d v f fun f => zG P C r f H2) = .ok f1 H1 → ∃ l1, FRel k f1 l1 ∧ OpsR P ops (List.range' i (o :: os).length) l H l1 H1 ∧ LK H H1 := by
     intro v H2 hop hrest
     obtain ⟨hs, hk2⟩ := ho C H0 f l H v H2 hC hk hf.2 hop
     obtain ⟨f', e, hf'⟩ := wF hf hd v (fun f => zG P C r f H2)
     rw [e] at hrest
     obtain ⟨l1, h1, h2, h3⟩ := ih hi' hf' (hk.trans hk2) hrest
     exact ⟨l1, h1, .step hio (by rw [hwi, hb]) hs h2, hk2.trans h3⟩
    cases hop : opF P C lo f H with
    | no => rw [hop] at h; cases h
    | ok v H2 => rw [hop] at h; exact key v H2 (.inl hop) h
    | th v H2 =>
      rw [hop] at h
      have h : zP v (fun v => nZ H2 fun H2 => vQ d v f fun f => zG P C r f H2) = .ok f1 H1 := h
      rw [zJ, lZ] at h
      exact key v H2 (.inr hop) h
   ·rename_i hb
    obtain ⟨f', e, hf'⟩ := wF hf hd undef (fun f => zG P C r f H)
    rw [e] at h
    obtain ⟨l1, h1, h2, h3⟩ := ih hi' hf' hk h
    exact ⟨l1, h1, .past hio (by rw [hwi]; simpa using hb) h2, h3⟩
structure Noted (P : Program) (k : Nat) (ops : Array Oper) (H : Heap) (i n : Nat) (T : Nat → List Value × Heap) (val : Nat → Value) (tr0 tr : List (Fr × Heap × Value)) : Prop where
 step : ∀ j, i ≤ j → j < i + n → xA P ops j (T j) (T (j + 1)) (val j)
 new : ∀ j, i ≤ j → j < i + n → ∃ g, tr[i + n - 1 - j]? = some (g, (T j).2, val j) ∧ FAg g (T j).1
 old : ∀ m, tr[n + m]? = tr0[m]?
 lk : ∀ j, i ≤ j → j ≤ i + n → LK H (T j).2
theorem b7D {k : Nat} {ops : Array Oper} {C : Calls'} {H0 : Heap} (hC : CallsOk P C H0) {os : List Oper} {lo : LOps} (hlo : LowOps P k ops os lo) : ∀ {i : Nat}, ops.toList.drop i = os → ∀ {tr0 tr : List (Fr × Heap × Value)} {f : Fr} {l : List Value} {H : Heap} {f1 : Fr} {H1 : Heap},
 FRel k f l → LK H0 H → rN P C lo tr0 f H = .ok tr f1 H1 → ∃ T val l1, T i = (l, H) ∧ T (i + os.length) = (l1, H1) ∧ FRel k f1 l1 ∧ Noted P k ops H i os.length T val tr0 tr := by
 have more : ∀ {i n : Nat} {o : Oper} {tr0 tr : List (Fr × Heap × Value)} {f : Fr} {l : List Value} {H : Heap} {v : Value} {l2 : List Value} {H2 : Heap} {l1 : List Value} {H1 : Heap} {f1 : Fr}, FRel k f l → xA P ops i (l, H) (l2, H2) v → LK H H2 →
  (∃ T val l1, T (i + 1) = (l2, H2) ∧ T (i + 1 + n) = (l1, H1) ∧ FRel k f1 l1 ∧ Noted P k ops H2 (i + 1) n T val ((f, H, v) :: tr0) tr) →
  ∃ T val l1, T i = (l, H) ∧ T (i + (n + 1)) = (l1, H1) ∧ FRel k f1 l1 ∧ Noted P k ops H i (n + 1) T val tr0 tr := by
  intro i n o tr0 tr f l H v l2 H2 _ H1 f1 hf hst hk ⟨T, val, l1, h1, h2, h3, hN⟩
  refine ⟨fun j => if j ≤ i then (l, H) else T j, fun j => if j ≤ i then v else val j, l1, by simp, ?_, h3, ?_⟩
  ·show (if i + (n + 1) ≤ i then (l, H) else T (i + (n + 1))) = _
   rw [if_neg (by omega), ← h2]; congr 1; omega
  ·refine ⟨fun j hj hn => ?_, fun j hj hn => ?_, fun m => ?_, fun j hj hn => ?_⟩
   ·by_cases he : j = i
    ·subst he
     simp only [di, if_true]
     rw [if_neg (by omega), h1]
     exact hst
    ·rw [if_neg (by omega), if_neg (by omega), if_neg (by omega)]
     exact hN.step j (by omega) (by omega)
   ·by_cases he : j = i
    ·subst he
     simp only [di, if_true]
     refine ⟨f, ?_, hf.2⟩
     have := hN.old 0
     rw [show j + (n + 1) - 1 - j = n + 0 by omega, this]; rfl
    ·rw [if_neg (by omega), if_neg (by omega)]
     obtain ⟨g, hg, hag⟩ := hN.new j (by omega) (by omega)
     exact ⟨g, by rw [← hg]; congr 1; omega, hag⟩
   ·have := hN.old (m + 1)
    rw [show n + 1 + m = n + (m + 1) by omega, this]; rfl
   ·by_cases he : j = i
    ·subst he; simp only [di, if_true]; exact .refl H
    ·rw [if_neg (by omega)]; exact hk.trans (hN.lk j (by omega) (by omega))
 induction hlo with
 | nil =>
   intro i _ tr0 tr f l H f1 H1 hf _ h
   injection h with h1 h2 h3
   subst h1 h2 h3
   exact ⟨fun _ => (l, H), fun _ => undef, l, rfl, rfl, hf, fun j _ h => absurd h (by simp; omega), fun j _ h => absurd h (by simp; omega), fun m => by simp, fun _ _ _ => .refl H⟩
 | @cons o os d lo r hd ho hg hr ih =>
   intro i hi tr0 tr f l H f1 H1 hf hk h
   have hio : ops[i]? = some o := by
    have : (ops.toList.drop i)[0]? = some o := by rw [hi]; rfl
    rw [dI] at this
    simpa using this
   have hi' : ops.toList.drop (i + 1) = os := by rw [← fx, hi]; rfl
   have hw : Region.wanted o (iU ops l) = true := by simp [Region.wanted, hg]
   have h : b1U tr0 f H d (rN P C r) (opF P C lo f H) = .ok tr f1 H1 := h
   have key : ∀ v H2, (opF P C lo f H).Is v H2 → (vQ d v f fun f2 => rN P C r ((f, H, v) :: tr0) f2 H2) = .ok tr f1 H1 → ∃ T val l1, T i = (l, H) ∧ T (i + (o :: os).length) = (l1, H1) ∧ FRel k f1 l1 ∧ Noted P k ops H i (o :: os).length T val tr0 tr := by
    intro v H2 hop hrest
    obtain ⟨hs, hk2⟩ := ho C H0 f l H v H2 hC hk hf.2 hop
    obtain ⟨f', e, hf'⟩ := wF hf hd v (fun f2 => rN P C r ((f, H, v) :: tr0) f2 H2)
    rw [e] at hrest
    have := ih hi' hf' (hk.trans hk2) hrest
    exact more (o := o) (l1 := l) hf ⟨o, hio, rfl, .inl ⟨hw, hs⟩⟩ hk2 this
   cases hop : opF P C lo f H with
   | no => rw [hop] at h; cases h
   | ok v H2 => rw [hop] at h; exact key v H2 (.inl hop) h
   | th v H2 =>
     rw [hop] at h
     have h : zP v (fun v => nZ H2 fun H2 => vQ d v f fun f2 => rN P C r ((f, H, v) :: tr0) f2 H2) = .ok tr f1 H1 := h
     rw [zJ, lZ] at h
     exact key v H2 (.inr hop) h
 | @gcons o os d lo r j t w hd ho hg ht htk hr ih =>
   intro i hi tr0 tr f l H f1 H1 hf hk h
   have hio : ops[i]? = some o := by
    have : (ops.toList.drop i)[0]? = some o := by rw [hi]; rfl
    rw [dI] at this
    simpa using this
   have hi' : ops.toList.drop (i + 1) = os := by rw [← fx, hi]; rfl
   have hwi : Region.wanted o (iU ops l) = isB (oG (kV t) f) w := by
    simp only [Region.wanted, hg]
    rw [yC ht (by rw [hf.1]; exact htk) w, hf.2 t]
   have h : oD (isB (oG (kV t) f) w) (vQ d undef f fun f2 => rN P C r ((f, H, undef) :: tr0) f2 H) (b1U tr0 f H d (rN P C r) (opF P C lo f H)) = .ok tr f1 H1 := h
   rw [kQ] at h
   split at h
   ·rename_i hb
    have key : ∀ v H2, (opF P C lo f H).Is v H2 → (vQ d v f fun f2 => rN P C r ((f, H, v) :: tr0) f2 H2) = .ok tr f1 H1 → ∃ T val l1, T i = (l, H) ∧ T (i + (o :: os).length) = (l1, H1) ∧ FRel k f1 l1 ∧ Noted P k ops H i (o :: os).length T val tr0 tr := by
     intro v H2 hop hrest
     obtain ⟨hs, hk2⟩ := ho C H0 f l H v H2 hC hk hf.2 hop
     obtain ⟨f', e, hf'⟩ := wF hf hd v (fun f2 => rN P C r ((f, H, v) :: tr0) f2 H2)
     rw [e] at hrest
     exact more (o := o) (l1 := l) hf ⟨o, hio, rfl, .inl ⟨by rw [hwi, hb], hs⟩⟩ hk2 (ih hi' hf' (hk.trans hk2) hrest)
    cases hop : opF P C lo f H with
    | no => rw [hop] at h; cases h
    | ok v H2 => rw [hop] at h; exact key v H2 (.inl hop) h
    | th v H2 =>
      rw [hop] at h
      have h : zP v (fun v => nZ H2 fun H2 => vQ d v f fun f2 => rN P C r ((f, H, v) :: tr0) f2 H2) = .ok tr f1 H1 := h
      rw [zJ, lZ] at h
      exact key v H2 (.inr hop) h
   ·rename_i hb
    obtain ⟨f', e, hf'⟩ := wF hf hd undef (fun f2 => rN P C r ((f, H, undef) :: tr0) f2 H)
    rw [e] at h
    exact more (o := o) (l1 := l) hf ⟨o, hio, rfl, .inr ⟨by rw [hwi]; simpa using hb, rfl, rfl⟩⟩ (.refl H) (ih hi' hf' hk h)
theorem b2t {α : Type} (p : α → Bool) (l : List α) : b8j p l = l.all p := by
 induction l with
 | nil => rfl
 | cons x l ih =>
   show oD (p x) false (b8j p l) = _
   rw [kQ, ih, ft]
   cases p x <;> rfl
theorem c0E {v : Value} {r : Rs} (h : b8A v r = true) : ∃ H, r.Is v H := by
 cases r with
 | no => cases h
 | ok w H => exact ⟨H, .inl (by rw [b7y (show veq w v = true from h)])⟩
 | th w H => exact ⟨H, .inr (by rw [b7y (show veq w v = true from h)])⟩
theorem LowTab.get {ops : Array Oper} {tab : List (Nat × Nat)} {t : List (Nat × Option Nat × Option (Pth × Bool) × LOp)} (h : LowTab P ops tab t) {i m : Nat} (hm : (i, m) ∈ tab) : ∃ o lo g, ops[i]? = some o ∧ GOk ops o g ∧ wP P o lo ∧ (ops.size - 1 - i, (if m < ops.size then some (ops.size - 1 - m) else none), g, lo) ∈ t := by
 induction h with
 | nil => cases hm
 | @cons i2 m2 o lo tab t g ho hgd hl hr ih =>
   rcases dV.1 hm with he | hm
   ·injection he with h1 h2
    subst h1 h2
    exact ⟨o, lo, g, ho, hgd, hl, by simp⟩
   ·obtain ⟨o', lo', g', h1, h0, h2, h3⟩ := ih hm
    exact ⟨o', lo', g', h1, h0, h2, dR _ h3⟩
theorem b0H {fl : Fl} {ops : Array Oper} {i m : Nat} (h : (i, m) ∈ mP fl ops) {o : Oper} (ho : ops[i]? = some o) : oB o.op = true := by
 unfold mP at h
 simp only [dP] at h
 obtain ⟨⟨x, j⟩, hx, h⟩ := h
 dsimp only at h
 split at h
 ·rename_i hr
  simp only [dA] at h
  obtain ⟨m', _, e⟩ := h
  injection e with e1 e2
  subst e1
  have := gq.1 hx
  have : ops[j]? = some x := by simpa using this
  rw [this] at ho
  injection ho with ho
  subst ho
  exact hr
 ·cases h
theorem b9f (jY : P.follows .mixedOrders = true) {k id : Nat} {ops : Array Oper} {C : Calls'} {H : Heap} (hC : CallsOk P C H) {lo : LOps} {tab : List (Nat × Nat)} {t : List (Nat × Option Nat × Option (Pth × Bool) × LOp)} (hlo : LowOps P k ops ops.toList lo) (htab : nI P ops = some tab) (hl : LowTab P ops tab t)
 {f : Fr} {l : List Value} {e : Ex} {f1 : Fr} {H1 : Heap} (hf : FRel k f l) (h : c1l P C t (rN P C lo [] f H) = .ok e f1 H1) : ∃ l1, e = .normal ∧ FRel k f1 l1 ∧ Sim P (.region id ops true) l H .normal l1 H1 ∧ LK H H1 := by
 cases hr : rN P C lo [] f H with
 | no => rw [hr] at h; cases h
 | ok tr f2 H2 =>
   rw [hr] at h
   have h : oD (b8j (b6T P C tr H2) t) Rc.no (.ok .normal f2 H2) = .ok e f1 H1 := h
   rw [kQ] at h
   split at h
   case isFalse => cases h
   rename_i hall
   injection h with h1 h2 h3
   subst h1 h2 h3
   obtain ⟨T, val, l1, hT0, hTn, hf1, hN⟩ := b7D hC hlo (i := 0) rfl hf (.refl H) hr
   rw [fA, fJ] at hTn
   rw [fA] at hN
   have hlk : LK H H2 := by have := hN.lk ops.size (eW _) (by omega); rwa [hTn] at this
   refine ⟨l1, rfl, hf1, ?_, hlk⟩
   have := Sim.draw jY (id := id) htab (T := T) (val := val) ⟨fun j hj => hN.step j (eW _) (by omega)⟩ ?_
   ·rw [hT0, hTn] at this; exact this
   ·intro i m o hm ho hw
    obtain ⟨o', lo', gd, ho', hgd, hlow, hmem⟩ := hl.get hm
    rw [ho] at ho'
    obtain rfl := cV ho'
    rw [b2t, du] at hall
    have hrd := hall _ hmem
    have hi : i < ops.size := (dg.1 ho).1
    obtain ⟨g, hg, hag⟩ := hN.new i (eW _) (by omega)
    have hg : tr[ops.size - 1 - i]? = some (g, (T i).2, val i) := by rw [← hg]; congr 1; omega
    have hread : oB o.op = true := by
     obtain ⟨fl, _, rfl⟩ := qN htab
     exact b0H hm ho
    have fin : ∀ H3, LK H H3 → b8A (val i) (opF P C lo' g H3) = true → ∃ H4, opD P o (T i).1 H3 = some (val i, H4) := by
     intro H3 hk3 hq
     obtain ⟨H4, h4⟩ := c0E hq
     obtain ⟨hs, _⟩ := hlow C H g (T i).1 H3 (val i) H4 hC hk3 hag h4
     refine ⟨H4, hs.opD fun c fv hc hv => ?_⟩
     rw [hc] at hread
     simp [oB, hv] at hread
    unfold b6T at hrd
    simp only [yE, hg, hgd.runs hag hw] at hrd
    rw [kQ, if_pos rfl] at hrd
    by_cases hms : m < ops.size
    ·rw [if_pos hms] at hrd
     obtain ⟨g2, hg2, _⟩ := hN.new m (eW _) (by omega)
     have hg2 : tr[ops.size - 1 - m]? = some (g2, (T m).2, val m) := by rw [← hg2]; congr 1; omega
     simp only [hg2] at hrd
     exact fin _ (hN.lk m (eW _) (by omega)) hrd
    ·rw [if_neg hms] at hrd
     have hle : m = ops.size := by
      obtain ⟨fl, _, rfl⟩ := qN htab
      have := a3p hm
      omega
     subst hle
     have := fin H2 hlk hrd
     rw [hTn]; exact this
def uW (P : Program) : List ResultVar → List LRes → Prop
 | [], [] => True
 | r :: rs, l :: ls => (match r, l with
   | .tmp t, .t p => p = kV t
   | .cell a t, .c1 p => p = kV a ∧ jR P t = some false
   | .cell a t, .cn n p => p = kV a ∧ jR P t = some true ∧ iE P t = some n
   | _, _ => False) ∧ uW P rs ls
 | _, _ => False
theorem b8c {α : Type} (l : List ResultVar) (K : List LRes → α) (no : α) : (∃ r, uW P l r ∧ a1x P l K no = K r) ∨ a1x P l K no = no := by
 induction l generalizing K with
 | nil => exact .inl ⟨[], trivial, rfl⟩
 | cons r l ih =>
   cases r with
   | tmp t =>
     have e : a1x P (.tmp t :: l) K no = lS (kV t) fun p => a1x P l (fun l => K (.t p :: l)) no := rfl
     rw [e, lQ]
     rcases ih (fun l => K (.t (kV t) :: l)) with ⟨q, h1, h2⟩ | h2
     ·exact .inl ⟨.t (kV t) :: q, ⟨rfl, h1⟩, h2⟩
     ·exact .inr h2
   | cell a t =>
     have e : a1x P (.cell a t :: l) K no = match jR P t with
      | some true => a3C (iE P t) no fun n => lS (kV a) fun p => a1x P l (fun l => K (.cn n p :: l)) no
      | some false => lS (kV a) fun p => a1x P l (fun l => K (.c1 p :: l)) no
      | none => no := rfl
     rw [e]
     split
     ·rename_i ha
      cases hn : iE P t with
      | none => exact .inr rfl
      | some n =>
        rw [pH, lQ]
        rcases ih (fun l => K (.cn n (kV a) :: l)) with ⟨q, h1, h2⟩ | h2
        ·exact .inl ⟨.cn n (kV a) :: q, ⟨⟨rfl, ha, hn⟩, h1⟩, h2⟩
        ·exact .inr h2
     ·rename_i ha
      rw [lQ]
      rcases ih (fun l => K (.c1 (kV a) :: l)) with ⟨q, h1, h2⟩ | h2
      ·exact .inl ⟨.c1 (kV a) :: q, ⟨⟨rfl, ha⟩, h1⟩, h2⟩
      ·exact .inr h2
     ·exact .inr rfl
theorem b1v {H H1 : Heap} {f : Fr} {l : List Value} (hf : FAg f l) {r : ResultVar} {q : LRes} {rs : List ResultVar} {qs : List LRes} (h : uW P (r :: rs) (q :: qs)) {v : Value} (hv : (a4i H f q).Is v H1) : H1 = H ∧ a1M P l H r = some v ∧ uW P rs qs := by
 obtain ⟨h, hr⟩ := h
 cases r with
 | tmp t => cases q with
   | t p =>
     have h : p = kV t := h
     subst h
     have hv : (oS (oG (kV t) f) fun v => Rs.ok v H).Is v H1 := hv
     rw [mW] at hv
     obtain ⟨rfl, rfl⟩ := Rs.aN hv
     exact ⟨rfl, by rw [hf t]; rfl, hr⟩
   | c1 p => exact h.elim
   | cn n p => exact h.elim
 | cell a t => cases q with
   | t p => exact h.elim
   | c1 p =>
     obtain ⟨rfl, ha⟩ := h
     obtain ⟨e, h1⟩ := b1E (P := P) (X := .t (kV a)) (w := get l a) ha (hf a) hv
     exact ⟨e, h1, hr⟩
   | cn n p =>
     obtain ⟨rfl, ha, hn⟩ := h
     obtain ⟨e, h1⟩ := b1D (P := P) (X := .t (kV a)) (w := get l a) ha hn (hf a) hv
     exact ⟨e, h1, hr⟩
theorem b9K {H : Heap} {f : Fr} {q : LRes} {v : Value} {H1 : Heap} : ¬ (a4i H f q = .th v H1) := by
 intro h
 cases q with
 | t p =>
   have h : (oS (oG p f) fun v => Rs.ok v H) = .th v H1 := h
   rw [mW] at h; cases h
 | c1 p =>
   have h : b3B (.t p) f H = .th v H1 := h
   unfold b3B at h
   split at h
   ·unfold b9G at h
    split at h
    ·rw [kQ, kQ, kQ] at h
     split at h
     ·split at h
      ·split at h
       ·rename_i cs _ _ _ _ _ _ _ _
        cases hn : a1A cs _ with
        | none => rw [hn] at h; cases h
        | some w => rw [hn] at h; have h : (oS w fun v => Rs.ok v H) = .th v H1 := h; rw [mW] at h; cases h
       ·cases h
      ·cases h
     ·cases h
    ·cases h
   ·unfold c3b at h
    split at h
    ·rw [kQ] at h
     split at h
     ·rename_i cs _ _ _ _
      cases hn : a1A cs _ with
      | none => rw [hn] at h; cases h
      | some w => rw [hn] at h; have h : (oS w fun v => Rs.ok v H) = .th v H1 := h; rw [mW] at h; cases h
     ·cases h
    ·cases h
   ·cases h
 | cn n p =>
   have hh : b4l n (.t p) f H = .th v H1 := h
   unfold b4l at hh
   split at hh
   ·unfold b8W at hh
    split at hh
    ·rw [kQ, kQ, kQ] at hh
     split at hh
     ·split at hh
      ·split at hh
       ·have key : ∀ {cs : List Value} {n : Nat} {pre : List Value}, ¬ (a2Y cs n fun l => Rs.ok (.agg ⟨pre ++ l⟩) H) = .th v H1 := by
         intro cs
         induction cs with
         | nil => intro n pre h; cases n <;> cases h
         | cons c cs ih =>
           intro n pre h
           cases n with
           | zero => cases h
           | succ n =>
             have h : (a2Y cs n fun l => Rs.ok (.agg ⟨pre ++ (c :: l)⟩) H) = .th v H1 := h
             have e : ∀ l : List Value, pre ++ (c :: l) = (pre ++ [c]) ++ l := by intro l; simp
             have h2 : (a2Y cs n fun l => Rs.ok (.agg ⟨(pre ++ [c]) ++ l⟩) H) = .th v H1 := by
              rw [← h]; congr 1; funext l; rw [e l]
             exact ih h2
        exact key (pre := []) hh
       ·cases hh
      ·cases hh
     ·cases hh
    ·cases hh
   ·cases hh
theorem a6J {H H1 : Heap} {f : Fr} {l : List Value} (hf : FAg f l) {v : Value} : ∀ {rs : List ResultVar} {qs : List LRes} {K : List Value → Rs}, uW P rs qs → (b7c H f qs K).Is v H1 → ∃ vs, nS P l H rs = some vs ∧ (K vs).Is v H1
 | [], [], K, _, h => ⟨[], rfl, h⟩
 | [], _ :: _, _, h, _ => h.elim
 | _ :: _, [], _, h, _ => h.elim
 | r :: rs, q :: qs, K, hl, h => by
   have h : (Rs.rec (motive := fun _ => Rs) .no (fun v _ => b7c H f qs fun l => K (v :: l)) (fun _ _ => .no) (a4i H f q)).Is v H1 := h
   cases hq : a4i H f q with
   | no => rw [hq] at h; exact absurd h Rs.ar
   | th w H2 => exact absurd hq b9K
   | ok w H2 =>
     rw [hq] at h
     obtain ⟨e, h1, h2⟩ := b1v hf hl (.inl hq)
     obtain ⟨vs, h3, h4⟩ := a6J hf h2 h
     exact ⟨w :: vs, by simp [nS, h1, h3], h4⟩
theorem b6h {fn : Func} {H H1 : Heap} {f : Fr} {l : List Value} (hf : FAg f l) {qs : List LRes} (hl : uW P fn.results.toList qs) {v : Value} (h : (a6z qs f H).Is v H1) : H1 = H ∧ iC P fn l H = some v := by
 unfold a6z at h
 split at h
 ·rename_i q
  cases hr : fn.results.toList with
  | nil => rw [hr] at hl; exact hl.elim
  | cons r rs =>
    rw [hr] at hl
    obtain ⟨e, h1, h2⟩ := b1v hf hl h
    cases rs with
    | cons _ _ => exact h2.elim
    | nil => exact ⟨e, by simp [iC, hr, nS, h1]⟩
 ·rename_i hne
  obtain ⟨vs, h1, h2⟩ := a6J hf hl h
  obtain ⟨h3, h4⟩ := lK h2
  obtain ⟨rfl, rfl⟩ := Rs.aN h4
  refine ⟨rfl, ?_⟩
  have hlen : ∀ {rs : List ResultVar} {qs : List LRes}, uW P rs qs → rs.length = qs.length := by
   intro rs
   induction rs with
   | nil => intro qs h; cases qs with | nil => rfl | cons => exact h.elim
   | cons r rs ih => intro qs h; cases qs with | nil => exact h.elim | cons q qs => simp [ih h.2]
  have hvl : ∀ {rs : List ResultVar} {vs : List Value}, nS P l H1 rs = some vs → vs.length = rs.length := by
   intro rs
   induction rs with
   | nil => intro vs h; injection h with h; subst h; rfl
   | cons r rs ih =>
     intro vs h
     simp only [nS, cY, dh] at h
     obtain ⟨w, _, ws, h1, h2⟩ := h
     subst h2
     simp [ih h1]
  have hn1 : vs.length ≠ 1 := by
   rw [hvl h1, hlen hl]
   intro h1
   match qs, h1 with
   | [q], _ => exact hne q rfl
  unfold iC
  rw [h1, cX]
  rw [b2t] at h3
  have h3 : vs.all jE = true := by rw [← h3]; congr 1
  split
  ·exact absurd rfl hn1
  ·rw [if_pos h3]
structure FuncOk (P : Program) (f : FuncId) (g : LFunc) : Prop where
 ex : ∃ fn c, P.funcs[f]? = some fn ∧ fn.body = some c ∧ (fn.name == "runtime.NumGoroutine") = false ∧ g.ps = (List.range fn.ntmps).map kV ∧ Low P fn.ntmps c g.body ∧ uW P fn.results.toList g.res
def TOk (P : Program) (T : LT) : Prop := ∀ f g, a2U (kV f) T = some g → FuncOk P f g
def EOk (P : Program) (E : List LEnv) (H : Heap) : Prop := ∀ en ∈ E, en.L < H.length ∧ ∀ r, iR H en.L = some (.loop r) →
 ∃ k, en.ps = (List.range k).map kV ∧ r.tmps.size = k ∧ en.pp = r.params.toList.map kV ∧ (∀ t ∈ r.params.toList, t < k) ∧ Low P k r.assign en.a ∧ Low P k r.body en.b
theorem EOk.ab {E : List LEnv} {H H' : Heap} (h : EOk P E H) (hk : LK H H') : EOk P E H' := fun en hen => by
 obtain ⟨h1, h2⟩ := h en hen
 refine ⟨dM h1 hk.1, fun r' hr' => ?_⟩
 obtain ⟨r, hr, ea, eb, ep, et⟩ := hk.2 en.L r' h1 hr'
 obtain ⟨k, a, b, c, d, e, f⟩ := h2 r hr
 exact ⟨k, a, by rw [et]; exact b, by rw [ep]; exact c, by rw [ep]; exact d, by rw [ea]; exact e, by rw [eb]; exact f⟩
def a4q (P : Program) (ih : qO) : Prop := ∀ (E : List LEnv) (C : LCode) (k : Nat) (c : Code) (f : Fr) (l : List Value) (H : Heap) (e : Ex) (f1 : Fr) (H1 : Heap), Low P k c C → FRel k f l → EOk P E H → ih E C f H = .ok e f1 H1 →
 ∃ l1, FRel k f1 l1 ∧ Sim P c l H e l1 H1 ∧ LK H H1 ∧ ∀ b, c = .loop b → ∃ n, Rounds P b n l H e l1 H1
theorem a0p {α : Type} {no : α} : ∀ {l : List Value} {i m : Nat} {f : Fr} {K : Fr → α}, (pI no l ((List.range' i m).map kV) f K = no) ∨ (l.length ≤ m ∧ ∃ f', pI no l ((List.range' i m).map kV) f K = K f' ∧ ∀ t, oG (kV t) f' = if i ≤ t ∧ t < i + l.length then get l (t - i) else oG (kV t) f)
 | [], i, m, f, K => .inr ⟨eW _, f, rfl, fun t => by rw [if_neg (by simp only [ew]; omega)]⟩
 | v :: l, i, 0, f, K => .inl rfl
 | v :: l, i, m + 1, f, K => by
   have e : pI no (v :: l) ((List.range' i (m + 1)).map kV) f K = qE v (kV i) f fun f => pI no l ((List.range' (i + 1) m).map kV) f K := by
    rw [gF]; rfl
   rw [e, sW]
   rcases a0p (l := l) (i := i + 1) (m := m) (f := b7b f i v) (K := K) with h | ⟨h1, f', h2, h3⟩
   ·exact .inl h
   ·refine .inr ⟨by simp; omega, f', h2, fun t => ?_⟩
    rw [h3 t, a4w]
    by_cases ht : t = i
    ·subst ht
     rw [if_neg (by omega), if_pos rfl, if_pos (by simp), Nat.sub_self]; rfl
    ·rw [if_neg ht]
     by_cases h4 : i + 1 ≤ t ∧ t < i + 1 + l.length
     ·rw [if_pos h4, if_pos (by simp; omega)]
      rw [show t - i = (t - (i + 1)) + 1 by omega]; rfl
     ·rw [if_neg h4, if_neg (by simp; omega)]
theorem xB {α : Type} {no : α} {k : Nat} : ∀ {args : List Value} {ps : List Tmp} {f : Fr} {l : List Value} {K : Fr → α}, FRel k f l → (∀ t ∈ ps, t < k) → args.length = ps.length →
 ∃ f', pI no args (ps.map kV) f K = K f' ∧ FRel k f' ((ps.zip args).foldl (fun t (p, v) => t.set p v) l)
 | [], [], f, l, K, hf, _, _ => ⟨f, rfl, hf⟩
 | v :: args, p :: ps, f, l, K, hf, hp, he => by
   have e : pI no (v :: args) ((p :: ps).map kV) f K = qE v (kV p) f fun f => pI no args (ps.map kV) f K := rfl
   rw [e, sW]
   exact xB (hf.set (hp p (by simp)) v) (fun t ht => hp t (by simp [ht])) (by simpa using he)
 | [], _ :: _, _, _, _, _, _, he => by simp at he
 | _ :: _, [], _, _, _, _, _, he => by simp at he
theorem a0h (l : List Value) (n t : Nat) : get (l ++ List.replicate n undef) t = get l t := by
 rw [oM, oM]
 simp only [dc]
 by_cases h : t < l.length
 ·rw [eH h]
 ·rw [eK (by omega), eo (l := l) (by omega), gU]
  split <;> rfl
theorem a0w {T : LT} (hT : TOk P T) {ih : qO} (hih : a4q P ih) {E : List LEnv} {p : Pth} {f : FuncId} {args : List Value} {H H1 : Heap} {v : Value} (hE : EOk P E H) (hp : p = kV f) (h : (nB T ih E p args H).Is v H1) :
 FnS P f args H (fun v' H' => v' = v ∧ H' = H1) ∧ LK H H1 := by
 unfold nB at h
 split at h
 case h_2 => exact absurd h Rs.ar
 rename_i g hg
 subst hp
 obtain ⟨fn, c, hfn, hb, hn, hps, hlow, hres⟩ := (hT f g hg).ex
 rw [hps] at h
 rw [fH] at h
 rcases a0p (no := Rs.no) (l := args) (i := 0) (m := fn.ntmps) (f := .e) (K := fun f => c2e g.res (ih E g.body f H)) with h1 | ⟨h1, f0, h2, h3⟩
 ·rw [h1] at h; exact absurd h Rs.ar
 ·rw [h2] at h
  have hf0 : FRel fn.ntmps f0 (args ++ List.replicate (fn.ntmps - args.length) undef) := by
   refine ⟨by simp; omega, fun t => ?_⟩
   rw [h3 t, a0h]
   by_cases ht : t < args.length
   ·rw [if_pos (by omega)]; rfl
   ·rw [if_neg (by omega), vB, oM, dc, eo (by omega)]; try rfl
  cases hr : ih E g.body f0 H with
  | no => rw [hr] at h; exact absurd h Rs.ar
  | ok e f1 H2 =>
    rw [hr] at h
    obtain ⟨l1, hf1, hs, hk, _⟩ := hih E g.body fn.ntmps c f0 _ H e f1 H2 hlow hf0 hE hr
    have key : (e = .normal ∨ e = .ret) → (a6z g.res f1 H2).Is v H1 → FnS P f args H (fun v' H' => v' = v ∧ H' = H1) ∧ LK H H1 := by
     intro he hv
     obtain ⟨rfl, hv⟩ := b6h hf1.2 hres hv
     exact ⟨⟨fn, c, e, l1, H1, v, hfn, hb, hn, hs, he, hv, rfl, rfl⟩, hk⟩
    cases e with
    | normal => exact key (.inl rfl) h
    | ret => exact key (.inr rfl) h
    | exit id => exact absurd h Rs.ar
theorem b6Z {T : LT} (hT : TOk P T) {ih : qO} (hih : a4q P ih) {E : List LEnv} {p : Pth} {f : FuncId} {args : List Value} {H H1 : Heap} {v : Value} (hE : EOk P E H) (hp : p = kV f) (h : (b5k P T ih E p f args H).Is v H1) :
 (FnS P f args H (fun v' H' => v' = v ∧ H' = H1) ∨ qP P f args H = some (v, H1)) ∧ LK H H1 := by
 unfold b5k at h
 cases hg : a2U p T with
 | some g =>
   rw [hg] at h
   obtain ⟨a, b⟩ := a0w (H1 := H1) (v := v) hT hih hE hp (by unfold nB; rw [hg]; exact h)
   exact ⟨.inl a, b⟩
 | none =>
   rw [hg] at h
   have h : (c3r P f args H).Is v H1 := h
   unfold c3r at h
   split at h
   ·rename_i v2 H2 hx
    obtain ⟨rfl, rfl⟩ := Rs.aR h
    exact ⟨.inr hx, a4Z hx⟩
   ·exact absurd h Rs.ar
theorem a9l {E : List LEnv} {L : Nat} {en : LEnv} (h : b5x E L = some en) : en ∈ E ∧ en.L = L := by
 induction E with
 | nil => cases h
 | cons e E ih =>
   have h : oD (Nat.beq e.L L) (b5x E L) (some e) = some en := h
   rw [kQ] at h
   split at h
   ·rename_i hh
    injection h with h
    subst h
    exact ⟨by simp, dX hh⟩
   ·obtain ⟨h1, h2⟩ := ih h
    exact ⟨dR _ h1, h2⟩
theorem a8F (e : Ex) : c1L e = sD e := by cases e <;> rfl
theorem b3T {ih : qO} (hih : a4q P ih) {E : List LEnv} {L : Nat} {args : List Value} {H H1 : Heap} {v : Value} (hE : EOk P E H) (h : (b0P ih E L args H).Is v H1) : zW P L args H v H1 ∧ LK H H1 := by
 unfold b0P at h
 split at h
 case h_2 => exact absurd h Rs.ar
 rename_i en hen
 obtain ⟨hmem, rfl⟩ := a9l hen
 split at h
 case h_2 => exact absurd h Rs.ar
 rename_i p fn tmps ps a b d hg
 obtain ⟨hlen, h⟩ := lK h
 rw [yT] at hlen
 have hlen : ps.size = args.length := by simpa only [decide_eq_true_eq] using hlen
 obtain ⟨k, hps, hsz, hpp, hpk, hla, hlb⟩ := (hE en hmem).2 _ hg
 have hsz : tmps.length = k := by simpa using hsz
 rw [hps, fH] at h
 rcases a0p (no := Rs.no) (l := tmps) (i := 0) (m := k) (f := .e) (K := fun f => pI .no args en.pp f fun f => tF ih E en (ih E en.a f H)) with h1 | ⟨h1, f0, h2, h3⟩
 ·rw [h1] at h; exact absurd h Rs.ar
 rw [h2] at h
 have hf0 : FRel k f0 tmps := by
  refine ⟨hsz, fun t => ?_⟩
  rw [h3 t]
  by_cases ht : t < tmps.length
  ·rw [if_pos (by omega)]; rfl
  ·rw [if_neg (by omega), vB, oM, dc, eo (by omega)]; try rfl
 rw [hpp] at h
 obtain ⟨f2, h4, hf2⟩ := xB (no := Rs.no) (args := args) (ps := ps.toList) (K := fun f => tF ih E en (ih E en.a f H)) hf0 hpk (by simpa using hlen.symm)
 have h : (pI Rs.no args (List.map kV ps.toList) f0 fun f => tF ih E en (ih E en.a f H)).Is v H1 := h
 rw [h4] at h
 cases hr1 : ih E en.a f2 H with
 | no => rw [hr1] at h; exact absurd h Rs.ar
 | ok e f3 H2 =>
   rw [hr1] at h
   obtain ⟨l3, hf3, hs1, hk1, _⟩ := hih E en.a k a f2 _ H e f3 H2 hla hf2 hE hr1
   cases e with
   | ret => exact absurd h Rs.ar
   | exit id => exact absurd h Rs.ar
   | normal =>
     have h : (a1a ih E en f3 H2).Is v H1 := h
     unfold a1a at h
     split at h
     case h_2 => exact absurd h Rs.ar
     rename_i p2 fn2 tmps2 ps2 a2 b2 d2 hg2
     rw [lZ] at h
     obtain ⟨r0, hr0, ea, eb, ep, et⟩ := hk1.2 en.L _ (hE en hmem).1 hg2
     rw [hg] at hr0
     injection hr0 with hr0
     injection hr0 with hr0
     subst hr0
     have ea' : a2 = a := ea
     have eb' : b2 = b := eb
     have ep' : ps2 = ps := ep
     have et' : tmps2 = ⟨tmps⟩ := et
     clear ea eb ep et
     subst ea' eb' ep' et'
     have hk2 : LK H2 (hset H2 en.L (.loop ⟨.busy, p2, fn2, ⟨tmps⟩, ps2, a2, b2, d2⟩)) := .loop hg2 ⟨rfl, rfl, rfl, rfl⟩
     cases hr2 : ih E en.b f3 (hset H2 en.L (.loop ⟨.busy, p2, fn2, ⟨tmps⟩, ps2, a2, b2, d2⟩)) with
     | no => rw [hr2] at h; exact absurd h Rs.ar
     | ok e f4 H3 =>
       rw [hr2] at h
       obtain ⟨l4, _, hs2, hk3, _⟩ := hih E en.b k b2 f3 _ _ e f4 H3 hlb hf3 (hE.ab (hk1.trans hk2)) hr2
       have h : (a2x en.L e H3).Is v H1 := h
       unfold a2x at h
       split at h
       case h_2 => exact absurd h Rs.ar
       rename_i st3 p3 fn3 tmps3 ps3 a3 b3 d3 hg3
       have fin : ∀ r', H1 = hset H3 en.L (.loop r') → (r' = { (⟨st3, p3, fn3, tmps3, ps3, a3, b3, d3⟩ : Loop) with state := if (sD e).isNone then .ready else .done, pending := sD e }) → v = .bool (sD e).isNone → zW P en.L args H v H1 ∧ LK H H1 := by
        intro r' hH hr' hv
        refine ⟨?_, hk1.trans (hk2.trans (hk3.trans (by rw [hH]; exact .loop hg3 (by rw [hr']; exact ⟨rfl, rfl, rfl, rfl⟩))))⟩
        have hW := a1h (P := P) (args := args) (K := fun v' H' => v' = v ∧ H' = H1) hg hlen rfl
         ⟨.normal, l3, H2, hs1, rfl, _, hg2, rfl, e, l4, H3, hs2, _, hg3, hv.symm, by rw [hH, hr']⟩
        obtain ⟨v', H', h1, rfl, rfl⟩ := hW
        exact h1
       split at h
       ·rename_i hj
        obtain ⟨rfl, rfl⟩ := Rs.aR h
        rw [a8F] at hj
        exact fin _ rfl (by rw [hj]; rfl) (by rw [hj]; rfl)
       ·rename_i c hj
        obtain ⟨rfl, rfl⟩ := Rs.aR h
        rw [a8F] at hj
        exact fin _ rfl (by rw [hj]; rfl) (by rw [hj]; rfl)
theorem a4x {T : LT} (hT : TOk P T) {ih : qO} (hih : a4q P ih) {E : List LEnv} {H0 : Heap} (hE : EOk P E H0) : CallsOk P (a1c P T ih E) H0 where
 fn p f args H v H1 hk h hp := b6Z hT hih (hE.ab hk) hp h
 rd L args H v H1 hk h := b3T hih (hE.ab hk) h
theorem c3z {α : Type} {f : Fr} {l : List Value} (hf : FAg f l) (i m : Nat) (K : List Value → α) : frL f ((List.range' i m).map kV) K = K ((List.range' i m).map (get l)) := by
 induction m generalizing i K with
 | zero => rfl
 | succ m ih =>
   have e : frL f ((List.range' i (m + 1)).map kV) K = oS (oG (kV i) f) fun v => frL f ((List.range' (i + 1) m).map kV) fun l => K (v :: l) := by
    rw [gF]; rfl
   rw [e, mW, ih, hf i, gF]; rfl
theorem b9U {α : Type} {k : Nat} {f : Fr} {l : List Value} (hf : FRel k f l) (K : List Value → α) : frL f ((List.range k).map kV) K = K l := by
 rw [fH, c3z hf.2, ← fH]
 congr 1
 apply gA
 intro i
 rw [eP]
 by_cases hi : i < k
 ·rw [gM hi, dO, oM, dc]
  have : i < l.length := by rw [hf.1]; exact hi
  simp [dq this]
 ·rw [eo (by simp; omega), eo (by rw [hf.1]; omega)]; rfl
theorem b3Q {T : LT} (hT : TOk P T) {ih : qO} (hih : a4q P ih) {E : List LEnv} {k : Nat} {g : Operand} {ps : Array Tmp} {assign body : Code} {A B : LCode} (hg : iP g = true) (hps : ∀ t ∈ ps.toList, t < k) (ha : Low P k assign A) (hb : Low P k body B)
 {x1 x2 : Fr → Heap → Rc} {f : Fr} {l : List Value} {H : Heap} {e : Ex} {f1 : Fr} {H1 : Heap} (hf : FRel k f l) (hE : EOk P E H) (h : a8Z T ih E (iV g) ((List.range k).map kV) (ps.toList.map kV) ps assign body A B x1 x2 f H = .ok e f1 H1) :
 f1 = f ∧ Sim P (.rangeFunc g ps assign body) l H e l H1 ∧ LK H H1 := by
 unfold a8Z at h
 rw [jW hf.2] at h
 split at h
 case h_2 => cases h
 rename_i j xa xb hgv
 rw [kB, b9U hf, lZ, kB] at h
 unfold b1K at h
 rw [lQ] at h
 generalize hH0 : H.cons (.loop ⟨.ready, none, 0, ⟨l⟩, ps, assign, body, 0⟩) = H0 at h
 have hl0 : (⟨.ready, none, 0, ⟨l⟩, ps, assign, body, 0⟩ : Loop) = b1x l ps assign body := rfl
 have hE0 : EOk P (⟨H.length, (List.range k).map kV, ps.toList.map kV, A, B⟩ :: E) H0 := by
  intro en hen
  rcases dV.1 hen with rfl | hen
  ·refine ⟨by rw [← hH0, length_cons]; exact Nat.lt_succ_self _, fun r hr => ?_⟩
   rw [← hH0, iO] at hr
   injection hr with hr
   injection hr with hr
   subst hr
   exact ⟨k, rfl, by simpa using hf.1, rfl, hps, ha, hb⟩
  ·exact (hE.ab (by rw [← hH0]; exact .cons _ _)) en hen
 have key : ∀ v H2, (nB T ih (⟨H.length, (List.range k).map kV, ps.toList.map kV, A, B⟩ :: E) (kV j) (a6h xa (.func (.yield H.length) #[] #[] :: xb)) H0).Is v H2 → vE H.length f H2 = .ok e f1 H1 → f1 = f ∧ Sim P (.rangeFunc g ps assign body) l H e l H1 ∧ LK H H1 := by
  intro v H2 hc hr
  obtain ⟨hfn, hk⟩ := a0w hT hih hE0 rfl hc
  have hargs : a6h xa (.func (.yield H.length) #[] #[] :: xb) = xa ++ [.func (.yield H.length) #[] #[]] ++ xb := by rw [yM]; simp
  rw [hargs, ← hH0, hl0] at hfn
  have fin : ∀ (r : Loop) (H3 : Heap), iR H2 H.length = some (.loop r) → r.state ≠ .busy → H3 = hset H2 H.length (.loop { r with state := .exhausted }) → (r.pending = none → e = .normal) → (∀ c, r.pending = some c → (c = .ret ∧ e = .ret) ∨ ∃ id, c = .exit id ∧ e = .exit id) → f1 = f → H1 = H3 →
   f1 = f ∧ Sim P (.rangeFunc g ps assign body) l H e l H1 ∧ LK H H1 := by
   intro r H3 hrl hnb hH3 hp0 hp1 he1 he2
   have hw : Wp P (.rangeFunc g ps assign body) l H (fun e' l' H' => e' = e ∧ l' = l ∧ H' = H3) := by
    refine Wp.range (first := xa) (captured := xb) hg (by rw [hgv]) (hfn.mono ?_)
    rintro v' H' ⟨rfl, rfl⟩
    refine ⟨r, hrl, hnb, fun hp => ⟨(hp0 hp).symm, rfl, hH3.symm⟩, fun c hc => ?_⟩
    rcases hp1 c hc with ⟨rfl, he⟩ | ⟨id, rfl, he⟩
    ·exact Wp.ret ⟨he.symm, rfl, hH3.symm⟩
    ·exact Wp.exit ⟨he.symm, rfl, hH3.symm⟩
   obtain ⟨e', l', H', hs, rfl, rfl, rfl⟩ := hw
   refine ⟨he1, by rw [he2]; exact hs, ?_⟩
   rw [he2, hH3]
   have h1 : LK H H0 := by rw [← hH0]; exact .cons _ _
   exact h1.trans (hk.trans (.loop hrl ⟨rfl, rfl, rfl, rfl⟩))
  unfold vE at hr
  split at hr
  ·rename_i hg2
   rw [lZ] at hr
   injection hr with h1 h2 h3
   exact fin _ _ hg2 (by simp) rfl (fun _ => h1.symm) (fun c hc => by cases hc) h2.symm h3.symm
  ·rename_i hg2
   rw [lZ] at hr
   injection hr with h1 h2 h3
   exact fin _ _ hg2 (by simp) rfl (fun _ => h1.symm) (fun c hc => by cases hc) h2.symm h3.symm
  ·rename_i hg2
   rw [lZ] at hr
   injection hr with h1 h2 h3
   exact fin _ _ hg2 (by simp) rfl (fun hc => by cases hc) (fun c hc => by injection hc with hc; subst hc; exact .inl ⟨rfl, h1.symm⟩) h2.symm h3.symm
  ·rename_i hg2
   rw [lZ] at hr
   injection hr with h1 h2 h3
   exact fin _ _ hg2 (by simp) rfl (fun hc => by cases hc) (fun c hc => by injection hc with hc; subst hc; exact .inr ⟨_, rfl, h1.symm⟩) h2.symm h3.symm
  ·cases hr
 cases hc : nB T ih (⟨H.length, (List.range k).map kV, ps.toList.map kV, A, B⟩ :: E) (kV j) (a6h xa (.func (.yield H.length) #[] #[] :: xb)) H0 with
 | no => rw [hc] at h; cases h
 | ok v H2 => rw [hc] at h; exact key v H2 (.inl hc) h
 | th v H2 =>
   rw [hc] at h
   have h : nZ H2 (fun H => vE _ f H) = .ok e f1 H1 := h
   rw [lZ] at h
   exact key v H2 (.inr hc) h
theorem c2Q (jY : P.follows .mixedOrders = true) {T : LT} (hT : TOk P T) : ∀ n, a4q P (exF P T n) := by
 intro n
 induction n with
 | zero => intro E C k c f l H e f1 H1 _ _ _ h; cases h
 | succ n ih =>
   intro E C k c f l H e f1 H1 hlow hf hE h
   have h : b2h P T (exF P T n) E C f H = .ok e f1 H1 := h
   have noloop : ∀ {c : Code}, (∀ b, c ≠ .loop b) → ∀ {l1 : List Value}, ∀ b, c = .loop b → ∃ n, Rounds P b n l H e l1 H1 := fun hne _ b hb => absurd hb (hne b)
   cases hlow with
   | bad => cases h
   | skip =>
     injection h with h1 h2 h3; subst h1 h2 h3
     exact ⟨l, hf, .skip l H, .refl H, noloop (by intro b h; cases h)⟩
   | label t =>
     injection h with h1 h2 h3; subst h1 h2 h3
     exact ⟨l, hf, .label t l H, .refl H, noloop (by intro b h; cases h)⟩
   | exit id =>
     injection h with h1 h2 h3; subst h1 h2 h3
     exact ⟨l, hf, .exit id l H, .refl H, noloop (by intro b h; cases h)⟩
   | ret =>
     injection h with h1 h2 h3; subst h1 h2 h3
     exact ⟨l, hf, .ret l H, .refl H, noloop (by intro b h; cases h)⟩
   | @reg id ops d lo hlo hd =>
     have h : c6P (zG P (a1c P T (exF P T n) E) lo f H) = .ok e f1 H1 := h
     cases hr : zG P (a1c P T (exF P T n) E) lo f H with
     | no => rw [hr] at h; cases h
     | ok f2 H2 =>
       rw [hr] at h
       injection h with h1 h2 h3; subst h1 h2 h3
       obtain ⟨l1, hf1, hops, hk⟩ := b9q (a4x hT ih hE) hlo (i := 0) rfl hf (.refl H) hr
       have hops : OpsR P ops (List.range ops.size) l H l1 H2 := by rw [fH]; simpa using hops
       refine ⟨l1, hf1, ?_, hk, noloop (by intro b h; cases h)⟩
       cases d with
       | false => exact .region hops
       | true => exact .bW jY (hd rfl) hops
   | drw hlo ht hl =>
     obtain ⟨l1, rfl, hf1, hs, hk⟩ := b9f jY (a4x hT ih hE) hlo ht hl hf h
     exact ⟨l1, hf1, hs, hk, noloop (by intro b h; cases h)⟩
   | @seq a b A B ha hb =>
     have h : b8I (exF P T n) E B (exF P T n E A f H) = .ok e f1 H1 := h
     cases hr : exF P T n E A f H with
     | no => rw [hr] at h; cases h
     | ok e2 f2 H2 =>
       rw [hr] at h
       obtain ⟨l2, hf2, hs, hk, _⟩ := ih E A k a f l H e2 f2 H2 ha hf hE hr
       cases e2 with
       | normal =>
         obtain ⟨l1, hf1, hs1, hk1, _⟩ := ih E B k b f2 l2 H2 e f1 H1 hb hf2 (hE.ab hk) h
         exact ⟨l1, hf1, .seq hs hs1, hk.trans hk1, noloop (by intro b h; cases h)⟩
       | ret =>
         injection h with h1 h2 h3; subst h1 h2 h3
         exact ⟨l2, hf2, .seq' hs (by intro h; cases h), hk, noloop (by intro b h; cases h)⟩
       | exit id =>
         injection h with h1 h2 h3; subst h1 h2 h3
         exact ⟨l2, hf2, .seq' hs (by intro h; cases h), hk, noloop (by intro b h; cases h)⟩
   | @cond c x y X Y hc hx hy =>
     have h : b7F (exF P T n) E (iV c) X Y (b2h P T (exF P T n) E X) (b2h P T (exF P T n) E Y) f H = .ok e f1 H1 := h
     unfold b7F at h
     rw [jW hf.2] at h
     split at h
     ·rename_i t ht
      cases t with
      | true =>
        obtain ⟨l1, hf1, hs, hk, _⟩ := ih E X k x f l H e f1 H1 hx hf hE h
        exact ⟨l1, hf1, .cond ht hc hs, hk, noloop (by intro b h; cases h)⟩
      | false =>
        obtain ⟨l1, hf1, hs, hk, _⟩ := ih E Y k y f l H e f1 H1 hy hf hE h
        exact ⟨l1, hf1, .cond ht hc hs, hk, noloop (by intro b h; cases h)⟩
     ·cases h
   | @block id b B hb =>
     have h : c5s id (exF P T n E B f H) = .ok e f1 H1 := h
     cases hr : exF P T n E B f H with
     | no => rw [hr] at h; cases h
     | ok e2 f2 H2 =>
       rw [hr] at h
       obtain ⟨l2, hf2, hs, hk, _⟩ := ih E B k b f l H e2 f2 H2 hb hf hE hr
       have hs' : Sim P (.block id b) l H (e2.out id) l2 H2 := .block hs
       cases e2 with
       | normal => injection h with h1 h2 h3; subst h1 h2 h3; exact ⟨l2, hf2, hs', hk, noloop (by intro b h; cases h)⟩
       | ret => injection h with h1 h2 h3; subst h1 h2 h3; exact ⟨l2, hf2, hs', hk, noloop (by intro b h; cases h)⟩
       | exit i =>
         have h : Rc.ok (Bool.rec (motive := fun _ => Ex) (.exit i) .normal (Nat.beq i id)) f2 H2 = .ok e f1 H1 := h
         injection h with h1 h2 h3; subst h2 h3
         have : (Ex.exit i).out id = e := by
          rw [← h1]
          by_cases hi : i = id
          ·subst hi; simp [Ex.out]
          ·have : Nat.beq i id = false := fS.2 fun e => hi (dX e)
           simp [Ex.out, hi, this]
         rw [this] at hs'
         exact ⟨l2, hf2, hs', hk, noloop (by intro b h; cases h)⟩
   | @loop b B hb =>
     have h : b8I (exF P T n) E (.loop B) (exF P T n E B f H) = .ok e f1 H1 := h
     cases hr : exF P T n E B f H with
     | no => rw [hr] at h; cases h
     | ok e2 f2 H2 =>
       rw [hr] at h
       obtain ⟨l2, hf2, hs, hk, _⟩ := ih E B k b f l H e2 f2 H2 hb hf hE hr
       have last : e2 ≠ .normal → e2 = e → f2 = f1 → H2 = H1 → ∃ l1, FRel k f1 l1 ∧ Sim P (.loop b) l H e l1 H1 ∧ LK H H1 ∧ ∀ b', Code.loop b = .loop b' → ∃ n, Rounds P b' n l H e l1 H1 := by
        intro hne h1 h2 h3
        subst h1 h2 h3
        have hr : Rounds P b 1 l H e2 l2 H2 := .last hs hne
        exact ⟨l2, hf2, .loop hr, hk, fun b' hb' => by injection hb' with hb'; subst hb'; exact ⟨1, hr⟩⟩
       cases e2 with
       | normal =>
         obtain ⟨l1, hf1, hs1, hk1, hro⟩ := ih E (.loop B) k (.loop b) f2 l2 H2 e f1 H1 (.loop hb) hf2 (hE.ab hk) h
         obtain ⟨m, hm⟩ := hro b rfl
         have hr : Rounds P b (m + 1) l H e l1 H1 := .more hs hm
         exact ⟨l1, hf1, .loop hr, hk.trans hk1, fun b' hb' => by injection hb' with hb'; subst hb'; exact ⟨_, hr⟩⟩
       | ret => injection h with h1 h2 h3; exact last (by intro h; cases h) h1 h2 h3
       | exit id => injection h with h1 h2 h3; exact last (by intro h; cases h) h1 h2 h3
   | range hg hps ha hb =>
     obtain ⟨rfl, hs, hk⟩ := b3Q (x1 := fun _ _ => .no) (x2 := fun _ _ => .no) hT ih hg hps ha hb hf hE h
     exact ⟨l, hf, hs, hk, noloop (by intro b h; cases h)⟩
theorem zN {α : Type} (v : LFunc) (p : Pth) (f : LT) (K : LT → α) : sK v p f K = K (sK v p f fun f => f) := by
 induction p generalizing f α with
 | z => cases f <;> rfl
 | l p ih =>
   cases f with
   | e =>
     show sK v p .e (fun l => K (.n none l .e)) = K (sK v p .e fun l => .n none l .e)
     rw [ih, ih (K := fun l => LT.n none l .e)]
   | n w l r =>
     show sK v p l (fun l => K (.n w l r)) = K (sK v p l fun l => .n w l r)
     rw [ih, ih (K := fun l => LT.n w l r)]
 | r p ih =>
   cases f with
   | e =>
     show sK v p .e (fun l => K (.n none .e l)) = K (sK v p .e fun l => .n none .e l)
     rw [ih, ih (K := fun l => LT.n none .e l)]
   | n w l r =>
     show sK v p r (fun r => K (.n w l r)) = K (sK v p r fun r => .n w l r)
     rw [ih, ih (K := fun r => LT.n w l r)]
theorem xM (p : Pth) : a2U p .e = none := by cases p <;> rfl
theorem b4D (v : LFunc) (p q : Pth) (f : LT) {g : LFunc} (h : a2U q (sK v p f fun f => f) = some g) : (q = p ∧ g = v) ∨ a2U q f = some g := by
 induction p generalizing f q with
 | z =>
   cases q with
   | z => left; refine ⟨rfl, ?_⟩; cases f <;> (injection h with h; exact h.symm)
   | l q => right; cases f with
     | e => have h : a2U q .e = some g := h
            rw [xM] at h; cases h
     | n => exact h
   | r q => right; cases f with
     | e => have h : a2U q .e = some g := h
            rw [xM] at h; cases h
     | n => exact h
 | l p ih =>
   have h1 : ∀ f, sK v (.l p) f (fun f => f) = match f with | .e => .n none (sK v p .e fun f => f) .e | .n w l r => .n w (sK v p l fun f => f) r := fun f => by
    cases f with
    | e => exact zN v p .e fun l => LT.n none l .e
    | n w l r => exact zN v p l fun l => LT.n w l r
   rw [h1] at h
   cases q with
   | z => right; cases f with
     | e => exact h
     | n => exact h
   | r q => right; cases f with
     | e => have h : a2U q .e = some g := h
            rw [xM] at h; cases h
     | n => exact h
   | l q =>
     cases f with
     | e =>
       rcases ih q .e h with ⟨rfl, hq⟩ | h
       ·exact .inl ⟨rfl, hq⟩
       ·rw [xM] at h; cases h
     | n w l r =>
       rcases ih q l h with ⟨rfl, hq⟩ | h
       ·exact .inl ⟨rfl, hq⟩
       ·exact .inr h
 | r p ih =>
   have h1 : ∀ f, sK v (.r p) f (fun f => f) = match f with | .e => .n none .e (sK v p .e fun f => f) | .n w l r => .n w l (sK v p r fun f => f) := fun f => by
    cases f with
    | e => exact zN v p .e fun l => LT.n none .e l
    | n w l r => exact zN v p r fun r => LT.n w l r
   rw [h1] at h
   cases q with
   | z => right; cases f with
     | e => exact h
     | n => exact h
   | l q => right; cases f with
     | e => have h : a2U q .e = some g := h
            rw [xM] at h; cases h
     | n => exact h
   | r q =>
     cases f with
     | e =>
       rcases ih q .e h with ⟨rfl, hq⟩ | h
       ·exact .inl ⟨rfl, hq⟩
       ·rw [xM] at h; cases h
     | n w l r =>
       rcases ih q r h with ⟨rfl, hq⟩ | h
       ·exact .inl ⟨rfl, hq⟩
       ·exact .inr h
theorem b4v {α : Type} (f : FuncId) (no : α) (K : LFunc → α) : (∃ g, FuncOk P f g ∧ a2t P f no K = K g) ∨ a2t P f no K = no := by
 unfold a2t
 split
 ·rename_i fn hfn
  split
  ·rename_i c hb
   rw [kQ]
   split
   ·exact .inr rfl
   ·rename_i hn
    rcases b8c (P := P) fn.results.toList (fun res => b3q fn.ntmps fun ps => nM P fn.ntmps c fun b => K ⟨ps, b, res⟩) no with ⟨res, hres, h1⟩ | h1
    ·rw [h1, b1Y]
     obtain ⟨C, hC, h2⟩ := b3S (P := P) fn.ntmps c (fun b => K ⟨(List.range fn.ntmps).map kV, b, res⟩)
     exact .inl ⟨⟨_, C, res⟩, ⟨fn, c, hfn, hb, by simpa using hn, rfl, hC, hres⟩, h2⟩
    ·exact .inr h1
  ·exact .inr rfl
 ·exact .inr rfl
theorem b7p {α : Type} (fs : List FuncId) (T : LT) (hT : TOk P T) (K : LT → α) : ∃ T', TOk P T' ∧ uJ P fs T K = K T' := by
 induction fs generalizing T with
 | nil => exact ⟨T, hT, rfl⟩
 | cons f fs ih =>
   have e : uJ P (f :: fs) T K = a2t P f (uJ P fs T K) fun g => lS (kV f) fun p => sK g p T fun T => uJ P fs T K := rfl
   rw [e]
   rcases b4v (P := P) f (uJ P fs T K) (fun g => lS (kV f) fun p => sK g p T fun T => uJ P fs T K) with ⟨g, hg, h⟩ | h
   ·rw [h, lQ, zN]
    refine ih _ fun f' g' h' => ?_
    rcases b4D g (kV f) (kV f') T h' with ⟨he, rfl⟩ | h'
    ·rw [b1C he]; exact hg
    ·exact hT f' g' h'
   ·rw [h]; exact ih T hT
end Go.Ds
namespace Go.Ds
open Go.Proofs Go.Proofs.Tryz
def t64 : List Nat := [0, 1, 56, 2, 57, 49, 28, 3, 61, 58, 42, 50, 38, 29, 17, 4, 62, 47, 59, 36, 45, 43, 51, 22, 53, 39, 33, 30, 24, 18, 12, 5, 63, 55, 48, 27, 60, 41, 37, 16, 46, 35, 44, 21, 52, 32, 23, 11, 54, 26, 40, 15, 34, 20, 31, 10, 25, 14, 19, 9, 13, 8, 7, 6]
def t32 : List Nat := [0, 1, 28, 2, 29, 14, 24, 3, 30, 22, 20, 15, 25, 17, 4, 8, 31, 27, 13, 23, 21, 19, 16, 7, 26, 12, 18, 6, 11, 5, 10, 9]
noncomputable def gH : Heap := ((((Heap.nil.cons (.cells (t64.map fun (n : Nat) => Value.int .u8 (.ofNat n)) 5 false 0 1)).cons (.cells [] 3 false 0 1)).cons (.cells ([1, 10, 100, 1000, 10000, 100000, 1000000, 10000000, 100000000, 1000000000, 10000000000, 100000000000, 1000000000000, 10000000000000, 100000000000000, 1000000000000000, 10000000000000000, 100000000000000000, 1000000000000000000, 10000000000000000000].map fun (n : Nat) => Value.int .u64 (.ofNat n)) 39 false 0 1)).cons (.cells (t32.map fun (n : Nat) => Value.int .u8 (.ofNat n)) 5 false 0 1))
theorem c4D : prog.follows .mixedOrders = true := by kernel_rfl
def b4w : Nat → Nat → List UInt8 → List UInt8
 | 0, _, acc => acc
 | f + 1, n, acc => if n < 10 then (48 + n).toUInt8 :: acc else b4w f (n / 10) ((48 + n % 10).toUInt8 :: acc)
def pL (n : Nat) : ByteArray := ⟨(b4w 100 n []).toArray⟩
theorem a5z {b : ByteArray} {n : Nat} (h : b.data.toList = b4w 100 n []) : b = pL n := by
 cases b with | mk d => cases d with | mk l => simp only at h; subst h; rfl
def b2d (r : Rs) (n : Nat) : Bool := match r with
 | .ok (.string b) _ => decide (b.data.toList = b4w 100 n [])
 | .th (.string b) _ => decide (b.data.toList = b4w 100 n [])
 | _ => false
def b9L (v : Value) (n : Nat) : Bool := match v with
 | .tuple vs => match vs.toList with
   | [.string b, .int .i64 m] => decide (m = 0) && decide (b.data.toList = b4w 100 n [])
   | _ => false
 | _ => false
def b6s (r : Rs) (n : Nat) : Bool := match r with
 | .ok v _ => b9L v n
 | .th v _ => b9L v n
 | _ => false
def b5Z (r : Rs) (n : Int) : Bool := match r with
 | .ok (.int .i64 m) _ => decide (m = n)
 | .th (.int .i64 m) _ => decide (m = n)
 | _ => false
noncomputable def c1r (ps : List Nat) : Bool := uJ prog [117, 130, 122, 160, 181, 194, 197, 198, 199, 200, 203, 204, 205, 206, 208] .e fun T => ps.all fun x => b2d (nB T (exF prog T 4000) [] (kV 130) [.int .i64 x] gH) x
def fsP : List Nat := [117, 192, 177, 179, 52, 129, 122, 191, 202, 84, 85, 156, 157, 158, 159, 163, 201, 207, 174, 175, 176, 178, 180, 182, 183, 189, 190, 193, 195, 197, 198, 199, 200, 203, 204, 205, 206, 208]
noncomputable def uT (ps : List Nat) : Bool := uJ prog fsP .e fun T => ps.all fun x => b6s (nB T (exF prog T 4000) [] (kV 129) [.string (pL x), .int .i64 24] gH) (x ^ 24)
def fsM : List Nat := [117, 192, 177, 179, 52, 130, 131, 122, 160, 191, 202, 84, 85, 156, 157, 158, 159, 161, 163, 181, 201, 207, 174, 175, 176, 178, 180, 182, 183, 194, 189, 190, 193, 195, 197, 198, 199, 200, 203, 204, 205, 206, 208]
noncomputable def mA (ps : List (Nat × Nat)) : Bool := uJ prog fsM .e fun T => ps.all fun x => b2d (nB T (exF prog T 4000) [] (kV 131) [.string (pL x.1), .string (pL x.2)] gH) (x.1 * x.2)
def sS (t : Nat × Nat) : List (Nat × Nat) := (t.1 ^ 24, 2) :: (List.range t.2).map fun k => (2 * t.1 ^ 24 * 4 ^ k, 4)
def a8Q (t : Nat × Nat × Nat) : List (Nat × Nat) := (List.range (t.2.2 + 1)).map fun k => (t.1 ^ 24, 2 * t.2.1 ^ 24 * 4 ^ k)
def b5r (a b : Nat) : Int := if a < b then -1 else if b < a then 1 else 0
noncomputable def vW (ps : List (Nat × Nat)) : Bool := uJ prog [132, 162, 163, 164, 182, 183, 184, 195, 196] .e fun T => ps.all fun x => b5Z (nB T (exF prog T 4000) [] (kV 132) [.string (pL x.1), .string (pL x.2)] gH) (b5r x.1 x.2)
end Go.Ds
namespace Go.Ds
open Go.RowKit Go.Proofs
section
variable {P : Program} {ρ : Rho} {H : Heap} {w : World}
theorem a4o {name : String} {g : Nat} {k : IntKind} {zs : List Int} (hg : P.globalNamed name = some g) (ht : Lib.TabIs P w name k zs) : ∃ t fr, w.heap[g]? = some (.cells (zs.map fun z => Value.int k z).toArray t fr) := by
 unfold Lib.TabIs World.var? at ht
 rw [hg, cX] at ht
 split at ht
 ·rename_i cs t fr hb
  obtain rfl := cV ht
  exact ⟨t, fr, hb⟩
 ·cases ht
theorem InW.cK (h : InW P ρ H w) {name : String} {g : Nat} {k : IntKind} {zs : List Int} {ty : TypeId} (hg : P.globalNamed name = some g) (ht : Lib.TabIs P w name k zs) (hgH : g = H.length) (hty : iE P ty = some 1) :
 InW P (ρ.put H.length (zs.map fun z => Value.int k z).length ⟨g, 0, zs.length, 1⟩) (H.cons (.cells (zs.map fun z => Value.int k z) ty false 0 1)) w := by
 obtain ⟨t, fr, hb⟩ := a4o hg ht
 refine (h.row ⟨g, 0, zs.length, 1⟩ hb (ty := ty) hty (by simp) (zs.map fun z => Value.int k z) 1 (fun _ => ⟨hgH, rfl⟩) (by simp) fun i c hi _ hc => ⟨c, ?_, ?_⟩).1
 ·have : (⟨g, 0, zs.length, 1⟩ : Place).at i = i := by simp [Place.at]
  rw [this]
  simpa using hc
 ·rw [eP] at hc
  obtain ⟨z, _, rfl⟩ := dh.1 hc
  exact .c0 (.flat rfl)
end
theorem c5c : ∀ A b, iR gH A = some b → ∃ cs ty lo, b = .cells cs ty false lo 1 ∧ kO cs = true := by
 intro A b h
 unfold gH at h
 have hn : ∀ (H : Heap) (c : Blk), iR (H.cons c) A = some b → (A = H.length ∧ b = c) ∨ iR H A = some b := fun H c h => by
  by_cases he : A = H.length
  ·subst he; rw [iO] at h; exact .inl ⟨rfl, (cV h).symm⟩
  ·have hA : A < (H.cons c).length := jM h
   rw [length_cons] at hA
   rw [jN _ (by omega)] at h
   exact .inr h
 rcases hn _ _ h with ⟨_, rfl⟩ | h
 ·exact ⟨_, _, _, rfl, by kernel_rfl⟩
 rcases hn _ _ h with ⟨_, rfl⟩ | h
 ·exact ⟨_, _, _, rfl, by kernel_rfl⟩
 rcases hn _ _ h with ⟨_, rfl⟩ | h
 ·exact ⟨_, _, _, rfl, by kernel_rfl⟩
 rcases hn _ _ h with ⟨_, rfl⟩ | h
 ·exact ⟨_, _, _, rfl, by kernel_rfl⟩
 ·have : A < 0 := jM h
  omega
theorem ExtW.glob {ρ ρ' : Rho} {H' : Heap} (h : ExtW ρ gH ρ' H') : Glob gH H' := ⟨h.len, fun A hA => h.old A hA, c5c⟩
def p10 : List Int := [1, 10, 100, 1000, 10000, 100000, 1000000, 10000000, 100000000, 1000000000, 10000000000, 100000000000, 1000000000000, 10000000000000, 100000000000000, 1000000000000000, 10000000000000000, 100000000000000000, 1000000000000000000, 10000000000000000000]
theorem g64 : Tryz.prog.globalNamed "math/bits.deBruijn64tab" = some 0 := by kernel_rfl
theorem oY : Tryz.prog.globalNamed "internal/strconv.uint64pow10" = some 2 := by kernel_rfl
theorem g32 : Tryz.prog.globalNamed "math/bits.deBruijn32tab" = some 3 := by kernel_rfl
theorem b8z {w : World} (h64 : Lib.TabIs Tryz.prog w "math/bits.deBruijn64tab" .u8 (t64.map Int.ofNat)) (h10 : Lib.TabIs Tryz.prog w "internal/strconv.uint64pow10" .u64 p10)
 (h32 : Lib.TabIs Tryz.prog w "math/bits.deBruijn32tab" .u8 (t32.map Int.ofNat)) (h1001 : ∃ cs t fr, w.heap[1]? = some (.cells cs t fr)) : ∃ ρ, InW Tryz.prog ρ gH w := by
 have a0 := (InW.none (P := Tryz.prog) w).cK g64 h64 (ty := 5) rfl (by kernel_rfl)
 obtain ⟨cs1, t1, fr1, hb1⟩ := h1001
 have a1 := (a0.row ⟨1, 0, cs1.size, 1⟩ hb1 (ty := 3) (by kernel_rfl) rfl [] 1 (fun _ => ⟨rfl, rfl⟩) (by simp) (fun i c hi => by simp at hi)).1
 have a2 := a1.cK oY h10 (ty := 39) rfl (by kernel_rfl)
 have a3 := a2.cK g32 h32 (ty := 5) rfl (by kernel_rfl)
 exact ⟨_, a3⟩
end Go.Ds
namespace Go.Ds
noncomputable section
variable {P : Program} {H0 : Base} {H : Heap} {os : List Ob} {κ β : Type} [DecidableEq κ] {enc : κ → Value} {f : β → Value} {t : TypeId} {z : Value}
structure MapK (P : Program) (t : TypeId) {κ : Type} [DecidableEq κ] (enc : κ → Value) (z : Value) : Prop where
 ex : ∃ kt et, yU P t = some (kt, et) ∧ jB P et = some z ∧ jC z = true ∧ (∀ b k, zL P b kt (enc k) = true) ∧
  (∀ k (es : List MapEntry) (ks : List κ), es.map (·.key) = ks.map enc → rZ P kt (enc k) es = some (ks.findIdx? fun x => decide (x = k))) ∧ ∀ k, Instr.sameBits 10000 (enc k) (enc k) = true
def kcs (enc : κ → Value) (f : β → Value) (kvs : List (κ × β)) : List Value := kvs.flatMap fun p => [enc p.1, f p.2]
def a2T (kvs : List (κ × β)) (k : κ) : Option β := (kvs.find? fun p => decide (p.1 = k)).map (·.2)
def a5T (kvs : List (κ × β)) (k : κ) (v : β) : List (κ × β) := match kvs.findIdx? (fun p => decide (p.1 = k)) with
 | some j => kvs.set j (k, v)
 | none => kvs ++ [(k, v)]
theorem a5k : ∀ (es : List MapEntry) (kvs : List (κ × β)), kcs enc f kvs = mcs es → es.map (·.key) = kvs.map (fun p => enc p.1) ∧ es.map (·.val) = kvs.map (fun p => f p.2)
 | [], [], _ => ⟨rfl, rfl⟩
 | [], p :: kvs, h => by simp [kcs, mcs] at h
 | e :: es, [], h => by simp [kcs, mcs] at h
 | e :: es, p :: kvs, h => by
   simp only [kcs, mcs, dB, ik, fj, fQ] at h
   obtain ⟨h1, h2, h3⟩ := h
   obtain ⟨h4, h5⟩ := a5k es kvs h3
   simp only [eE]
   exact ⟨by rw [h4, h1], by rw [h5, h2]⟩
theorem b0c : ∀ (es : List MapEntry) (kvs : List (κ × β)), es.map (·.key) = kvs.map (fun p => enc p.1) → es.map (·.val) = kvs.map (fun p => f p.2) → kcs enc f kvs = mcs es
 | [], [], _, _ => rfl
 | [], p :: kvs, h, _ => by simp at h
 | e :: es, [], h, _ => by simp at h
 | e :: es, p :: kvs, h, h' => by
   simp only [eE, fQ] at h h'
   have := b0c es kvs h.2 h'.2
   simp only [kcs, mcs, dB] at this ⊢
   rw [this, h.1, h'.1]
theorem St.bX (hS : St P H0 H os) (i : Nat) {A : Nat} {cs : List Value} (ho : os[i]? = some ⟨.map (some A), 0, cs⟩) : ∃ es ck ver, iR H A = some (.map es ck ver) ∧ cs = mcs es ∧ Stamps es ck := by
 have := hS.own _ (dQ ho)
 unfold OwnAt at this
 rw [if_pos rfl] at this
 rcases this with ⟨_, _, _, _, _, _, h⟩ | ⟨A', es, ck, ver, h1, h2, h3, h4⟩
 ·cases h
 ·simp only [Value.map.injEq, dE] at h3
  subst h3
  exact ⟨es, ck, ver, h1, h2, h4⟩
theorem b1F (kvs : List (κ × β)) (k : κ) : (∃ j x, (kvs.map (·.1)).findIdx? (fun x => decide (x = k)) = some j ∧ kvs[j]? = some x ∧ kvs.find? (fun p => decide (p.1 = k)) = some x) ∨ ((kvs.map (·.1)).findIdx? (fun x => decide (x = k)) = none ∧ kvs.find? (fun p => decide (p.1 = k)) = none) := by
 induction kvs with
 | nil => exact .inr ⟨rfl, rfl⟩
 | cons p kvs ih =>
   by_cases h : p.1 = k
   ·exact .inl ⟨0, p, by simp [fb, h], rfl, by simp [h]⟩
   ·rcases ih with ⟨j, x, h1, h2, h3⟩ | ⟨h1, h2⟩
    ·exact .inl ⟨j + 1, x, by simp [fb, h, h1], by simpa using h2, by simp [h, h3]⟩
    ·exact .inr ⟨by simp [fb, h, h1], by simp [h, h2]⟩
theorem St.cT (hS : St P H0 H os) (i : Nat) {A : Nat} {kvs : List (κ × β)} (ho : os[i]? = some ⟨.map (some A), 0, kcs enc f kvs⟩) (hk : MapK P t enc z) (hf : ∀ b, nJ (f b) = true) (c : Bool) (k : κ) :
 pT P H t (.map (some A)) (enc k) c = some (pairV c (((a2T kvs k).map f).getD z) (a2T kvs k).isSome) := by
 obtain ⟨kt, et, h1, h2, h3, h4, h5, h6⟩ := hk.ex
 obtain ⟨es, ck, ver, h7, h8, _⟩ := hS.bX i ho
 obtain ⟨h9, h10⟩ := a5k es kvs h8
 have hi := h5 k es (kvs.map (·.1)) (by rw [h9]; simp [hK])
 simp only [pT, h1, cX, a2u, h7, h4, if_true, hi, a2T]
 rcases b1F kvs k with ⟨j, x, e1, e2, e3⟩ | ⟨e1, e3⟩
 ·have hj : es[j]?.map (·.val) = some (f x.2) := by
   rw [← eP, h10, eP, e2]; rfl
  cases he : es[j]? with
  | none => rw [he] at hj; simp at hj
  | some e =>
    rw [he] at hj
    simp only [dO, dE] at hj
    simp only [e1, he, cX, hj, hf, if_true, e3, dO, fg, Option.isSome_some]
 ·simp only [e1, e3, Option.map_none, Option.getD_none, Option.isSome_none, h2, cX, h3, if_true]
def a7j (P : Program) (H : Heap) (t : TypeId) (x k : Value) (c : Bool) (K : Value → Prop) (_k : Keep K := ⟨⟩) : Prop := ∃ v, pT P H t x k c = some v ∧ K v
theorem a6y {t : TypeId} {x x' k k' : Value} {c : Bool} {K : Value → Prop} (h : x = x') (h2 : k = k') : a7j P H t x k c K = a7j P H t x' k' c K := by rw [h, h2]
attribute [congr] a6y
theorem a9i (d ty pos af g) (t : TypeId) (x k : Operand) (c : Bool) (l : List Value) (K : Value → Heap → Prop) :
 mE P ⟨d, .lookup t x k c, ty, pos, af, g⟩ l H K = jK x l fun x => jK k l fun k => a7j P H t x k c fun v => K v H := by
 have h2 : kD ((pT P H t (ev l x) (ev l k) c).map fun v => (v, H)) K = ∃ v, pT P H t (ev l x) (ev l k) c = some v ∧ K v H := by
  cases pT P H t (ev l x) (ev l k) c <;> simp [kD]
 simp only [mE, opD, jK, Op.operands, a7j, h2]
 simp [and_assoc]
theorem St.bO (hS : St P H0 H os) (i : Nat) {A : Nat} {kvs : List (κ × β)} (ho : os[i]? = some ⟨.map (some A), 0, kcs enc f kvs⟩) (hk : MapK P t enc z) (hf : ∀ b, nJ (f b) = true) {c : Bool} {k : κ} {K : Value → Prop}
 (h : K (pairV c (((a2T kvs k).map f).getD z) (a2T kvs k).isSome)) : a7j P H t (.map (some A)) (enc k) c K := ⟨_, hS.cT i ho hk hf c k, h⟩
def a5f (P : Program) (H : Heap) (t : TypeId) (K : Value → Heap → Prop) (_k : Keep K := ⟨⟩) : Prop := ∃ v H1, qA P H t none = some (v, H1) ∧ K v H1
theorem a7c (d ty pos af g) (t : TypeId) (l : List Value) (K : Value → Heap → Prop) : mE P ⟨d, .makeMap t none, ty, pos, af, g⟩ l H K = a5f P H t K := by
 simp only [mE, opD, Op.operands, a5f, nA]
 simp
theorem St.bT (hS : St P H0 H os) (hk : MapK P t enc z) {K : Value → Heap → Prop} (h : ∀ A H1, St P H0 H1 (os ++ [⟨.map (some A), 0, []⟩]) → K (.map (some A)) H1) : a5f P H t K := by
 obtain ⟨kt, et, h1, _⟩ := hk.ex
 refine ⟨.map (some H.length), H.cons (.map [] 0 0), by simp [qA, h1], h _ _ (hS.add ?_ ?_ ?_ ?_)⟩
 ·unfold OwnAt
  rw [if_pos rfl]
  exact .inr ⟨_, [], 0, 0, iO H _, rfl, rfl, .nil 0⟩
 ·simp [oU]
 ·exact fun B hB => jN _ hB
 ·intro B hB
  simp [kJ] at hB
  omega
def b5d (P : Program) (H : Heap) (t : TypeId) (m k v : Value) (K : Heap → Prop) (_k : Keep K := ⟨⟩) : Prop := ∃ H1, a1y P H t m k v = some H1 ∧ K H1
theorem a9B {t : TypeId} {m m' k k' v v' : Value} {K : Heap → Prop} (h : m = m') (h2 : k = k') (h3 : v = v') : b5d P H t m k v K = b5d P H t m' k' v' K := by rw [h, h2, h3]
attribute [congr] a9B
theorem a3J (d ty pos af g) (t : TypeId) (m k v : Operand) (l : List Value) (K : Value → Heap → Prop) :
 mE P ⟨d, .mapUpdate t m k v, ty, pos, af, g⟩ l H K = jK m l fun m => jK k l fun k => jK v l fun v => b5d P H t m k v fun H1 => K undef H1 := by
 have h2 : kD ((a1y P H t (ev l m) (ev l k) (ev l v)).map fun H => (undef, H)) K = ∃ H1, a1y P H t (ev l m) (ev l k) (ev l v) = some H1 ∧ K undef H1 := by
  cases a1y P H t (ev l m) (ev l k) (ev l v) <;> simp [kD]
 simp only [mE, opD, jK, Op.operands, b5d, h2]
 simp [and_assoc]
theorem b1O (kvs : List (κ × β)) (k : κ) (v : β) : a5T kvs k v = match (kvs.map (·.1)).findIdx? (fun x => decide (x = k)) with | some j => kvs.set j (k, v) | none => kvs ++ [(k, v)] := by
 unfold a5T
 rw [List.findIdx?_map]
 rfl
theorem St.cd (hS : St P H0 H os) (i : Nat) {A : Nat} {kvs : List (κ × β)} (ho : os[i]? = some ⟨.map (some A), 0, kcs enc f kvs⟩) (hk : MapK P t enc z) {k : κ} {v : β} {K : Heap → Prop}
 (h : ∀ H1, St P H0 H1 (os.set i ⟨.map (some A), 0, kcs enc f (a5T kvs k v)⟩) → K H1) : b5d P H t (.map (some A)) (enc k) (f v) K := by
 obtain ⟨kt, et, h1, h2, h3, h4, h5, h6⟩ := hk.ex
 obtain ⟨es, ck, ver, h7, h8, hst⟩ := hS.bX i ho
 obtain ⟨h9, h10⟩ := a5k es kvs h8
 have hi := h5 k es (kvs.map (·.1)) (by rw [h9]; simp [hK])
 have fin : ∀ es' ck', mcs es' = kcs enc f (a5T kvs k v) → Stamps es' ck' → St P H0 (hset H A (.map es' ck' (ver + 1))) (os.set i ⟨.map (some A), 0, kcs enc f (a5T kvs k v)⟩) := by
  intro es' ck' he hst'
  refine hS.put i ho ?_ ?_ ?_ ?_
  ·unfold OwnAt
   rw [if_pos rfl]
   exact .inr ⟨A, es', ck', _, iS _ (jM h7), he.symm, rfl, hst'⟩
  ·rw [jQ]; exact di _
  ·intro B hB hne
   exact rD fun hh => hne (by simp [kJ, hh])
  ·exact fun B hB => .inl hB
 rcases b1F kvs k with ⟨j, x, e1, e2, _⟩ | ⟨e1, _⟩
 ·have hj : es[j]?.map (·.key) = some (enc x.1) := by
   rw [← eP, h9, eP, e2]; rfl
  have hx : x.1 = k := by
   have := List.findIdx?_eq_some_iff_getElem.1 e1
   obtain ⟨hlt, hd, _⟩ := this
   have hlt' : j < kvs.length := by simpa using hlt
   have : kvs[j] = x := by
    rw [dq hlt'] at e2
    exact cV e2
   simp [this] at hd
   exact hd
  cases he : es[j]? with
  | none => rw [he] at hj; simp at hj
  | some e =>
    rw [he] at hj
    simp only [dO, dE] at hj
    refine ⟨hset H A (.map (es.set j { e with key := enc k, val := f v }) ck (ver + 1)), ?_, h _ (fin _ _ ?_ (hst.set he _ rfl))⟩
    ·have hsb : Instr.sameBits 10000 e.key (enc k) = true := by rw [hj, hx]; exact h6 k
     simp only [a1y, h1, cX, h7, h4, if_true, hi, e1, he, hsb]
    ·symm
     rw [b1O, e1]
     refine b0c _ _ ?_ ?_
     ·rw [ia, ia, h9]
     ·rw [ia, ia, h10]
 ·refine ⟨hset H A (.map (es ++ [{ key := enc k, val := f v, born := ck }]) (ck + 1) (ver + 1)), ?_, h _ (fin _ _ ?_ (hst.push _ rfl))⟩
  ·simp only [a1y, h1, cX, h7, h4, if_true, hi, e1]
  ·symm
   rw [b1O, e1]
   refine b0c _ _ ?_ ?_
   ·rw [dS, dS, h9]; rfl
   ·rw [dS, dS, h10]; rfl
def c0a (P : Program) (H : Heap) (t : TypeId) (m k : Value) (K : Value → Heap → Prop) (_k : Keep K := ⟨⟩) : Prop := ∃ v H1, tY P H t m k = some (v, H1) ∧ K v H1
theorem b0k {t : TypeId} {m m' k k' : Value} {K : Value → Heap → Prop} (h : m = m') (h2 : k = k') : c0a P H t m k K = c0a P H t m' k' K := by rw [h, h2]
attribute [congr] b0k
def b2f (H : Heap) (m b v : Value) (K : Heap → Prop) (_k : Keep K := ⟨⟩) : Prop := ∃ H1, sC H m b v = some H1 ∧ K H1
theorem a7b {m m' b b' v v' : Value} {K : Heap → Prop} (h : m = m') (h2 : b = b') (h3 : v = v') : b2f H m b v K = b2f H m' b' v' K := by rw [h, h2, h3]
attribute [congr] a7b
theorem a6l (d ty pos af g) (t : TypeId) (m k : Operand) (l : List Value) (K : Value → Heap → Prop) :
 mE P ⟨d, .mapEntry t m k, ty, pos, af, g⟩ l H K = jK m l fun m => jK k l fun k => c0a P H t m k K := by
 have h2 : kD (tY P H t (ev l m) (ev l k)) K = ∃ v H1, tY P H t (ev l m) (ev l k) = some (v, H1) ∧ K v H1 := nA ..
 simp only [mE, opD, jK, Op.operands, c0a, h2]
 simp [and_assoc]
theorem a3h (d ty pos af g) (t : TypeId) (m b v : Operand) (l : List Value) (K : Value → Heap → Prop) :
 mE P ⟨d, .entryStore t m b v, ty, pos, af, g⟩ l H K = jK m l fun m => jK b l fun b => jK v l fun v => b2f H m b v fun H1 => K undef H1 := by
 have h2 : kD ((sC H (ev l m) (ev l b) (ev l v)).map fun H => (undef, H)) K = ∃ H1, sC H (ev l m) (ev l b) (ev l v) = some H1 ∧ K undef H1 := by
  cases sC H (ev l m) (ev l b) (ev l v) <;> simp [kD]
 simp only [mE, opD, jK, Op.operands, b2f, h2]
 simp [and_assoc]
theorem a2C (kvs : List (κ × β)) (k k' : κ) (v : β) : a2T (a5T kvs k v) k' = if k' = k then some v else a2T kvs k' := by
 unfold a2T a5T
 induction kvs with
 | nil =>
   by_cases h : k' = k
   ·simp [h]
   ·simp [h, eY h]
 | cons p kvs ih =>
   by_cases hp : p.1 = k
   ·simp only [fb, hp, decide_true, if_true, ff, List.find?_cons]
    by_cases h : k' = k
    ·simp [h]
    ·simp [h, eY h]
   ·have hd : decide (p.1 = k) = false := by simp [hp]
    simp only [fb, hd, dZ, if_false]
    by_cases hq : p.1 = k'
    ·have hne : ¬ k' = k := fun e => hp (hq.trans e)
     cases hh : kvs.findIdx? (fun p => decide (p.1 = k)) with
     | none => simp [hq, hne]
     | some j => simp [hq, hne]
    ·cases hh : kvs.findIdx? (fun p => decide (p.1 = k)) with
     | none =>
       rw [hh] at ih
       simpa [hq, List.find?_cons] using ih
     | some j =>
       rw [hh] at ih
       simpa [hq, List.find?_cons] using ih
end
end Go.Ds
namespace Go.Ds
noncomputable section
variable {P : Program} {H : Heap}
theorem kS {α : Type} (P : Program) (x : α) : iN P (pure x) = some x := rfl
theorem jX {t : TypeId} {d : TypeDesc} (h : P.underlying t = some d) : iN P (underlying t) = some d := by
 unfold underlying
 rw [iK]
 have : iN P program = some P := rfl
 rw [this, cX, h]
 rfl
def lM : Operand → Bool
 | .const _ => true
 | _ => false
def pA (c : Bool) (i : Nat) (v : Value) : Operand := if c then .const v else .tmp i
def kU (P : Program) (op : BinOp) (t t2 : TypeId) (cx cy : Bool) (x y : Value) : Option Value := (opD P ⟨none, .binOp op t (pA cx 0 x) (pA cy 1 y) t2, t, "", #[], none⟩ [x, y] .nil).map (·.1)
def kX (P : Program) (op : BinOp) (t t2 : TypeId) (cx cy : Bool) (x y : Value) (K : Value → Prop) (_k : Keep K := ⟨⟩) : Prop := match x, y with
 | .int k a, .int k' b => (match (if k = k' then mR op k a b else none) with | some v => K v | none => jU (kU P op t t2 cx cy (.int k a) (.int k' b)) K)
 | x, y => jU (kU P op t t2 cx cy x y) K
theorem a6X {op : BinOp} {t t2 : TypeId} {cx cy : Bool} {x x' y y' : Value} {K : Value → Prop} (h : x = x') (h2 : y = y') : kX P op t t2 cx cy x y K = kX P op t t2 cx cy x' y' K := by rw [h, h2]
attribute [congr] a6X
theorem b1p (x : Operand) (l m : List Value) : ev (ev l x :: m) (pA (lM x) 0 (ev l x)) = ev l x := by cases x <;> rfl
theorem a9h (x : Operand) (l m : List Value) (a : Value) : ev (a :: ev l x :: m) (pA (lM x) 1 (ev l x)) = ev l x := by cases x <;> rfl
theorem b6u (op : BinOp) (t : TypeId) (x y : Operand) (l : List Value) : eqGuard op t x y (ev l x) (ev l y) = eqGuard op t (pA (lM x) 0 (ev l x)) (pA (lM y) 1 (ev l y)) (ev l x) (ev l y) := by
 generalize hx : ev l x = vx
 generalize hy : ev l y = vy
 cases x <;> cases y <;> rfl
theorem c0t (d ty pos af g) (op : BinOp) (t : TypeId) (x y : Operand) (t2 : TypeId) (l : List Value) (H : Heap) :
 opD P ⟨d, .binOp op t x y t2, ty, pos, af, g⟩ l H = (kU P op t t2 (lM x) (lM y) (ev l x) (ev l y)).map fun v => (v, H) := by
 have hp : kT P ⟨d, .binOp op t x y t2, ty, pos, af, g⟩ l H = _ := nE (P := P) ⟨d, .binOp op t x y t2, ty, pos, af, g⟩ ⟨none, .binOp op t (pA (lM x) 0 (ev l x)) (pA (lM y) 1 (ev l y)) t2, t, "", #[], none⟩ l [ev l x, ev l y] H
  (by simp only [Op.operands, eE, gn, b1p, a9h]) (by
    simp only [execOp]
    rw [b1p, a9h, ← b6u])
 simp only [opD, kU, hp, b1p, a9h]
 generalize kT P _ _ _ = r
 generalize ev l x = vx
 generalize ev l y = vy
 split
 all_goals first
  | (split <;> first | rfl | (split <;> first | rfl | (cases r <;> rfl)) | (cases r <;> rfl))
  | (cases r <;> rfl)
theorem b5p (d ty pos af g) (op : BinOp) (t : TypeId) (x y : Operand) (t2 : TypeId) (l : List Value) (K : Value → Heap → Prop) :
 mE P ⟨d, .binOp op t x y t2, ty, pos, af, g⟩ l H K = jK x l fun x' => jK y l fun y' => kX P op t t2 (lM x) (lM y) x' y' fun v => K v H := by
 have h : kD (opD P ⟨d, .binOp op t x y t2, ty, pos, af, g⟩ l H) K = kX P op t t2 (lM x) (lM y) (ev l x) (ev l y) fun v => K v H := by
  have key : kD ((kU P op t t2 (lM x) (lM y) (ev l x) (ev l y)).map fun v => (v, H)) K = jU (kU P op t t2 (lM x) (lM y) (ev l x) (ev l y)) fun v => K v H := by
   cases kU P op t t2 (lM x) (lM y) (ev l x) (ev l y) <;> rfl
  rw [c0t, key]
  unfold kX
  split
  ·rename_i k a k' b hx hy
   split
   ·rename_i v hv
    split at hv
    ·rename_i hk
     subst hk
     have : kU P op t t2 (lM x) (lM y) (.int k a) (.int k b) = some v := by
      have h1 : ∀ m, ev ((.int k a : Value) :: m) (pA (lM x) 0 (.int k a)) = .int k a := fun m => by cases lM x <;> rfl
      have h2 : ∀ m c, ev (c :: (.int k b : Value) :: m) (pA (lM y) 1 (.int k b)) = .int k b := fun m c => by cases lM y <;> rfl
      cases op <;> simp only [mR] at hv <;> first | (cases hv; done) | (simp only [kU, opD, h1, h2, mR, if_true, hv]; rfl)
     rw [hx, hy, this]
     rfl
    ·cases hv
   ·rw [hx, hy]
  ·rfl
 simp only [mE, h, jK, Op.operands]
 simp [and_assoc]
theorem mD (op : BinOp) (t t2 : TypeId) (cx cy : Bool) (k : IntKind) (a b : Int) {v : Value} (K : Value → Prop) (h : mR op k a b = some v) : kX P op t t2 cx cy (.int k a) (.int k b) K = oF v K := by
 simp [kX, h, oF]
section
theorem b2U (t t2 : TypeId) (cx cy : Bool) (k : IntKind) (a b : Int) (K : Value → Prop) : kX P .add t t2 cx cy (.int k a) (.int k b) K = oF (.int k (k.wrap (a + b))) K := mD _ _ _ _ _ _ _ _ _ (by simp [mR, b2k, uY])
theorem b2Z (t t2 : TypeId) (cx cy : Bool) (k : IntKind) (a b : Int) (K : Value → Prop) : kX P .sub t t2 cx cy (.int k a) (.int k b) K = oF (.int k (k.wrap (a - b))) K := mD _ _ _ _ _ _ _ _ _ (by simp [mR, b1A, uY])
theorem b3G (t t2 : TypeId) (cx cy : Bool) (k : IntKind) (a b : Int) (K : Value → Prop) : kX P .mul t t2 cx cy (.int k a) (.int k b) K = oF (.int k (k.wrap (a * b))) K := mD _ _ _ _ _ _ _ _ _ (by simp [mR, uY])
theorem b3F (t t2 : TypeId) (cx cy : Bool) (k : IntKind) (a b : Int) (K : Value → Prop) : kX P .eql t t2 cx cy (.int k a) (.int k b) K = oF (.bool (decide (a = b))) K := mD _ _ _ _ _ _ _ _ _ (by simp [mR, a2a]; rfl)
theorem b3H (t t2 : TypeId) (cx cy : Bool) (k : IntKind) (a b : Int) (K : Value → Prop) : kX P .neq t t2 cx cy (.int k a) (.int k b) K = oF (.bool (decide (¬ a = b))) K := mD _ _ _ _ _ _ _ _ _ (by simp [mR, a2a]; rfl)
theorem b2O (t t2 : TypeId) (cx cy : Bool) (k : IntKind) (a b : Int) (K : Value → Prop) : kX P .lss t t2 cx cy (.int k a) (.int k b) K = oF (.bool (decide (a < b))) K := mD _ _ _ _ _ _ _ _ _ (by simp [mR, a0d])
theorem b3h (t t2 : TypeId) (cx cy : Bool) (k : IntKind) (a b : Int) (K : Value → Prop) : kX P .leq t t2 cx cy (.int k a) (.int k b) K = oF (.bool (decide (a ≤ b))) K := mD _ _ _ _ _ _ _ _ _ (by simp [mR, a0d, ← Int.not_lt])
theorem b2H (t t2 : TypeId) (cx cy : Bool) (k : IntKind) (a b : Int) (K : Value → Prop) : kX P .gtr t t2 cx cy (.int k a) (.int k b) K = oF (.bool (decide (b < a))) K := mD _ _ _ _ _ _ _ _ _ (by simp [mR, a0d])
theorem b3r (t t2 : TypeId) (cx cy : Bool) (k : IntKind) (a b : Int) (K : Value → Prop) : kX P .geq t t2 cx cy (.int k a) (.int k b) K = oF (.bool (decide (b ≤ a))) K := mD _ _ _ _ _ _ _ _ _ (by simp [mR, a0d, ← Int.not_lt])
theorem b4K (t t2 : TypeId) (cx cy : Bool) (k : IntKind) (a b : Int) (K : Value → Prop) (hb : b ≠ 0) : kX P .rem t t2 cx cy (.int k a) (.int k b) K = oF (.int k (a.tmod b)) K := mD _ _ _ _ _ _ _ _ _ (by
 have : (b == 0) = false := by simp [hb]
 simp [mR, a2a, this])
theorem b2X (t t2 : TypeId) (cx cy : Bool) (k : IntKind) (a b : Int) (K : Value → Prop) (hb : b ≠ 0) : kX P .quo t t2 cx cy (.int k a) (.int k b) K = oF (.int k (k.wrap (a.tdiv b))) K := mD _ _ _ _ _ _ _ _ _ (by
 have : (b == 0) = false := by simp [hb]
 simp [mR, a2a, uY, this])
end
theorem lT {op : BinOp} {t t2 : TypeId} {cx cy : Bool} {x y v : Value} (hx : flat x = true) (hy : flat y = true) (hg : iN P (eqGuard op t (pA cx 0 x) (pA cy 1 y) x y) = some ())
 (hv : iN P (binOp op t x y) = some v) (hf : flat v = true) (hs : ∀ a n c, x ≠ .slice (some a) n c) (hp : ∀ a, x ≠ .pointer (some a)) (hi : ∀ k a b, x = .int k a → y = .int k b → mR op k a b = none) : kU P op t t2 cx cy x y = some v := by
 have h1 : ∀ m, ev (x :: m) (pA cx 0 x) = x := fun m => by cases cx <;> rfl
 have h2 : ∀ m c, ev (c :: y :: m) (pA cy 1 y) = y := fun m c => by cases cy <;> rfl
 have hpl : kT P ⟨none, .binOp op t (pA cx 0 x) (pA cy 1 y) t2, t, "", #[], none⟩ [x, y] .nil = some (v, .nil) := by
  unfold kT
  rw [if_pos (by simp [Op.operands, h1, h2, hx, hy])]
  have : execOp (ev [x, y]) ⟨none, .binOp op t (pA cx 0 x) (pA cy 1 y) t2, t, "", #[], none⟩ = (do let v ← (do eqGuard op t (pA cx 0 x) (pA cy 1 y) x y; binOp op t x y); pure (.value v)) := by
   simp only [execOp, h1, h2]
  rw [this, iK, iK, hg, cX, hv, cX, kS]
  simp only [hf, if_true]
 simp only [kU, opD, h1, h2, hpl]
 split
 ·exact absurd rfl (hs _ _ _)
 ·exact absurd rfl (hs _ _ _)
 ·rename_i k a k' b
  split
  ·rename_i hk
   subst hk
   rw [hi _ _ _ rfl rfl]
   rfl
  ·rfl
 ·exact absurd rfl (hp _)
 ·exact absurd rfl (hp _)
 ·exact absurd rfl (hp _)
 ·exact absurd rfl (hp _)
 ·rfl
theorem qS {op : BinOp} {t : TypeId} {x y : Operand} {k k' : IntKind} {a b : Int} : iN P (eqGuard op t x y (.int k a) (.int k' b)) = some () := by
 unfold eqGuard
 split <;> rfl
section
theorem b7K (t t2 : TypeId) (cx cy : Bool) (a b : Int) {k k' : IntKind} (hb : 0 ≤ b) : kU P .shr t t2 cx cy (.int k a) (.int k' b) = some (.int k (a.fdiv (2 ^ (min b.toNat k.bits)))) :=
 lT rfl rfl qS (by simp only [binOp, Op.shift]; rw [if_neg (by omega)]; rfl) rfl (by simp) (by simp) (by intros; rfl)
theorem b5w (t t2 : TypeId) (cx cy : Bool) (a b : Int) {k k' : IntKind} (hb : 0 ≤ b) : kU P .shl t t2 cx cy (.int k a) (.int k' b) = some (.int k (k.wrap (a * 2 ^ (min b.toNat k.bits)))) :=
 lT rfl rfl qS (by simp only [binOp, Op.shift]; rw [if_neg (by omega)]; rfl) rfl (by simp) (by simp) (by intros; rfl)
theorem b6v (t t2 : TypeId) (cx cy : Bool) (a b : Int) (k : IntKind) : kU P .and t t2 cx cy (.int k a) (.int k b) = some (.int k (k.wrap (BitVec.ofInt k.bits a &&& BitVec.ofInt k.bits b).toNat)) :=
 lT rfl rfl qS (by simp only [binOp]; rw [if_neg (by simp)]; rfl) rfl (by simp) (by simp) (by intros; rfl)
theorem b9B (t t2 : TypeId) (cx cy : Bool) (a b : Int) (k : IntKind) : kU P .or t t2 cx cy (.int k a) (.int k b) = some (.int k (k.wrap (BitVec.ofInt k.bits a ||| BitVec.ofInt k.bits b).toNat)) :=
 lT rfl rfl qS (by simp only [binOp]; rw [if_neg (by simp)]; rfl) rfl (by simp) (by simp) (by intros; rfl)
theorem b8d (t t2 : TypeId) (cx cy : Bool) (a b : Int) (k : IntKind) : kU P .xor t t2 cx cy (.int k a) (.int k b) = some (.int k (k.wrap (BitVec.ofInt k.bits a ^^^ BitVec.ofInt k.bits b).toNat)) :=
 lT rfl rfl qS (by simp only [binOp]; rw [if_neg (by simp)]; rfl) rfl (by simp) (by simp) (by intros; rfl)
theorem a7X (t t2 : TypeId) (cx cy : Bool) (a b : Int) (k : IntKind) : kU P .andNot t t2 cx cy (.int k a) (.int k b) = some (.int k (k.wrap (BitVec.ofInt k.bits a &&& ~~~ BitVec.ofInt k.bits b).toNat)) :=
 lT rfl rfl qS (by simp only [binOp]; rw [if_neg (by simp)]; rfl) rfl (by simp) (by simp) (by intros; rfl)
end
section
variable (a b : ByteArray)
theorem a0U {op : BinOp} {t : TypeId} {x y : Operand} : iN P (eqGuard op t x y (.string a) (.string b)) = some () := by
 unfold eqGuard
 split <;> rfl
theorem a1j (h : a.data.toList = b.data.toList) : a = b := by
 cases a; cases b
 simp only [ByteArray.mk.injEq]
 exact Array.toList_inj.1 h
theorem a2k : (a.toList == b.toList) = decide (a = b) := by
 rw [ByteArray.toList_eq, ByteArray.toList_eq, eG, beq_iff_eq, decide_eq_true_iff]
 exact ⟨a1j a b, fun h => by rw [h]⟩
theorem b0I (t t2 : TypeId) (cx cy : Bool) (a b : ByteArray) : kU P .eql t t2 cx cy (.string a) (.string b) = some (.bool (decide (a = b))) :=
 lT rfl rfl (a0U a b) (by rw [← a2k]; rfl) rfl (by simp) (by simp) (by intro _ _ _ h; cases h)
theorem b1l (t t2 : TypeId) (cx cy : Bool) (a b : ByteArray) : kU P .neq t t2 cx cy (.string a) (.string b) = some (.bool (decide (¬ a = b))) :=
 lT rfl rfl (a0U a b) (by
  have : decide (¬ a = b) = !(a.toList == b.toList) := by rw [a2k]; simp
  rw [this]; rfl) rfl (by simp) (by simp) (by intro _ _ _ h; cases h)
theorem a6s (t t2 : TypeId) (cx cy : Bool) (a b : ByteArray) (h : a.size + b.size < 9223372036854775808) : kU P .add t t2 cx cy (.string a) (.string b) = some (.string (a ++ b)) :=
 lT rfl rfl (a0U a b) (by
  simp only [binOp, Op.stringOp]
  rw [if_neg]
  ·rfl
  ·have : IntKind.i64.max = 9223372036854775807 := by decide
   rw [this]; omega) rfl (by simp) (by simp) (by intro _ _ _ h; cases h)
end
theorem b5W {t : TypeId} (s : ByteArray) (ht : oH P t = true) : a0B P H t (.string s) = some (.int .i64 s.size) := by
 unfold oH at ht
 unfold a0B
 split at ht
 ·rename_i h; rw [h]; simp [xW, goInt]
 ·cases ht
def pK (P : Program) (t : TypeId) (x i : Value) : Option Value := (opD P ⟨none, .index t (.const x) (.const i), t, "", #[], none⟩ [] .nil).map (·.1)
theorem b2J (d ty pos af g) (t : TypeId) (x i : Operand) (l : List Value) (K : Value → Heap → Prop) :
 mE P ⟨d, .index t x i, ty, pos, af, g⟩ l H K = jK x l fun x => jK i l fun i => jU (pK P t x i) fun v => K v H := by
 have h : opD P ⟨d, .index t x i, ty, pos, af, g⟩ l H = (pK P t (ev l x) (ev l i)).map fun v => (v, H) := by
  have hp := nE (P := P) ⟨d, .index t x i, ty, pos, af, g⟩ ⟨none, .index t (.const (ev l x)) (.const (ev l i)), t, "", #[], none⟩ l [] H rfl rfl
  simp only [opD, pK]
  exact hp
 have h2 : kD ((pK P t (ev l x) (ev l i)).map fun v => (v, H)) K = jU (pK P t (ev l x) (ev l i)) fun v => K v H := by cases pK P t (ev l x) (ev l i) <;> rfl
 simp only [mE, h, jK, Op.operands, h2]
 simp [and_assoc]
def oP (s : ByteArray) (i : Nat) : Nat := (s.data.toList.getD i 0).toNat
theorem b0b {t : TypeId} (s : ByteArray) (k : IntKind) (i : Int) (ht : oH P t = true) (h0 : 0 ≤ i) (h1 : i < s.size) : pK P t (.string s) (.int k i) = some (.int .u8 (oP s i.toNat)) := by
 have hu : P.underlying t = some .string := by
  unfold oH at ht
  split at ht
  ·rename_i h; exact h
  ·cases ht
 have hr : iN P (Instr.index t (.string s) (.int k i)) = some (.int .u8 (oP s i.toNat)) := by
  unfold Instr.index
  rw [iK]
  have e1 : iN P (asIntOf (.int k i)) = some (k, i) := rfl
  rw [e1, cX]
  simp only [iK, jX hu, cX]
  rw [if_pos h0]
  have hlt : i.toNat < s.size := by omega
  have hb : s[i.toNat]? = some s[i.toNat] := by simp [getElem?_pos, hlt]
  simp only [hb]
  rw [kS]
  congr 3
  unfold oP
  rw [dc]
  have hl : i.toNat < s.data.toList.length := by simpa using hlt
  rw [dq hl]
  rfl
 have hpl : kT P ⟨none, .index t (.const (.string s)) (.const (.int k i)), t, "", #[], none⟩ [] .nil = some (.int .u8 (oP s i.toNat), .nil) := by
  unfold kT
  rw [if_pos (by rfl)]
  have : execOp (ev []) ⟨none, .index t (.const (.string s)) (.const (.int k i)), t, "", #[], none⟩ = (do let v ← Instr.index t (.string s) (.int k i); pure (.value v)) := rfl
  rw [this, iK, hr, cX, kS]
  rfl
 simp only [pK, opD, hpl]
 rfl
def a0Q (P : Program) (t : TypeId) : Option IntKind := match P.underlying t with | some (.int k) => some k | _ => none
theorem a0z {t : TypeId} {k : IntKind} (h : a0Q P t = some k) : P.underlying t = some (.int k) := by
 unfold a0Q at h
 split at h
 ·rename_i h2; rw [h2]; injection h with h; rw [h]
 ·cases h
theorem b4p {s t : TypeId} {k k' : IntKind} (a : Int) (hs : a0Q P s = some k) (ht : a0Q P t = some k') : a2l P s t (.int k a) = some (.int k' (k'.wrap a)) := by
 have hr : iN P (convert s t (.int k a)) = some (.int k' (k'.wrap a)) := by
  unfold convert
  simp only [iK, jX (a0z hs), jX (a0z ht), cX]
  rfl
 have hpl : kT P ⟨none, .convert s t (.const (.int k a)), t, "", #[], none⟩ [] .nil = some (.int k' (k'.wrap a), .nil) := by
  unfold kT
  rw [if_pos (by rfl)]
  have : execOp (ev []) ⟨none, .convert s t (.const (.int k a)), t, "", #[], none⟩ = (do let v ← convert s t (.int k a); pure (.value v)) := rfl
  rw [this, iK, hr, cX, kS]
  rfl
 simp only [a2l, hpl]
 rfl
def a5o (P : Program) (d : Nat) (xs ys : Array Value) (fs : List Field) : Option Bool :=
 (iN P (forIn fs ((none, ()) : Option Bool × Unit) fun f _ =>
   if f.name ≠ "_" then do
    let a ← part f.type xs f.offset
    let b ← part f.type ys f.offset
    let c ← Op.equalIn d f.type a b
    if (!c) = true then pure (ForInStep.done (some false, ())) else pure (ForInStep.yield (none, ()))
   else pure (ForInStep.yield (none, ())))).bind fun x => iN P (match x.fst with | some r => pure r | none => pure true)
theorem a1Y {d : Nat} {xs ys : Array Value} (g : Field → Bool) : ∀ (fs : List Field), (∀ f ∈ fs, f.name ≠ "_" ∧ iN P (part f.type xs f.offset >>= fun x => part f.type ys f.offset >>= fun y => Op.equalIn d f.type x y) = some (g f)) →
 a5o P d xs ys fs = some (fs.all g)
 | [], _ => rfl
 | f :: fs, hg => by
   obtain ⟨h1, h2⟩ := hg f (dJ ..)
   have ih := a1Y g fs fun f' h => hg f' (dR _ h)
   unfold a5o at ih ⊢
   rw [iK] at h2
   simp only [List.forIn_cons, h1, ne_eq, not_false_eq_true, if_true, iK]
   cases hx : iN P (part f.type xs f.offset) with
   | none => rw [hx] at h2; cases h2
   | some x =>
     rw [hx, cX, iK] at h2
     cases hy : iN P (part f.type ys f.offset) with
     | none => rw [hy] at h2; cases h2
     | some y =>
       rw [hy, cX] at h2
       simp only [cX, h2]
       cases hgf : g f with
       | false =>
         simp only [gY, if_true, kS, cX, ft, hgf, fy]
       | true =>
         simp only [Bool.not_true, dZ, if_false, kS, cX, ft, hgf, gO]
         exact ih
theorem b6R {d : Nat} {t : TypeId} {fs : List Field} {xs ys : Array Value} (hu : P.underlying t = some (.struct fs.toArray)) (hst : P.stoodInHeld t = false) (g : Field → Bool)
 (hg : ∀ f ∈ fs, f.name ≠ "_" ∧ iN P (part f.type xs f.offset >>= fun x => part f.type ys f.offset >>= fun y => Op.equalIn d f.type x y) = some (g f)) : iN P (Op.equalIn (d + 1) t (.agg xs) (.agg ys)) = some (fs.all g) := by
 rw [Op.equalIn, iK, jX hu, cX]
 have hp : iN P program = some P := rfl
 simp only [iK, hp, cX, hst, dZ, if_false, List.forIn_toArray]
 refine Eq.trans ?_ (a1Y g fs hg)
 unfold a5o
 congr 1
 funext x
 cases x.fst <;> rfl
theorem a4r {op : BinOp} {t : TypeId} (ht : P.eqGuardType P.depth t = false) {x y : Operand} {a b : Array Value} : iN P (eqGuard op t x y (.agg a) (.agg b)) = some () := by
 have hp : iN P program = some P := rfl
 unfold eqGuard
 cases op <;> simp [iK, hp, ht, kS]
theorem b7L {t t2 : TypeId} {cx cy : Bool} {xs ys : List Value} (b : Bool) (ht : P.eqGuardType P.depth t = false) (hx : xs.all iZ = true) (hy : ys.all iZ = true) (h : iN P (Op.equalIn (9999 + 1) t (.agg xs.toArray) (.agg ys.toArray)) = some b) :
 kU P .eql t t2 cx cy (.agg xs.toArray) (.agg ys.toArray) = some (.bool b) :=
 lT (by simp [flat, jC, kO, hx]) (by simp [flat, jC, kO, hy]) (a4r ht) (by
  have hmd : Op.maxDepth = 9999 + 1 := by decide
  simp only [binOp, iK, Op.equal]
  rw [hmd, h, cX, kS]) rfl (by simp) (by simp) (by intro _ _ _ h; cases h)
theorem b6e {t t2 : TypeId} {cx cy : Bool} {xs ys : List Value} (b : Bool) (ht : P.eqGuardType P.depth t = false) (hx : xs.all iZ = true) (hy : ys.all iZ = true) (h : iN P (Op.equalIn (9999 + 1) t (.agg xs.toArray) (.agg ys.toArray)) = some b) :
 kU P .neq t t2 cx cy (.agg xs.toArray) (.agg ys.toArray) = some (.bool (!b)) :=
 lT (by simp [flat, jC, kO, hx]) (by simp [flat, jC, kO, hy]) (a4r ht) (by
  have hmd : Op.maxDepth = 9999 + 1 := by decide
  simp only [binOp, iK, Op.equal]
  rw [hmd, h, cX, kS]) rfl (by simp) (by simp) (by intro _ _ _ h; cases h)
end
end Go.Ds
namespace Go.Ds
noncomputable section
variable {P : Program} {H : Heap}
theorem a2F (a b : ByteArray) : (a == b) = decide (b = a) := by
 obtain ⟨x⟩ := a
 obtain ⟨y⟩ := b
 rw [eG, decide_eq_true_iff]
 constructor
 ·intro h
  have e : x = y := by simpa using (show (x == y) = true from h)
  rw [e]
 ·intro h
  cases h
  show (x == x) = true
  simp
theorem a4E (o : Option Nat) (i : Nat) : o.map (i + 1 + ·) = (o.map (· + 1)).map (i + ·) := by
 cases o with
 | none => rfl
 | some j => simp only [dO]; congr 1; omega
theorem a1r (k : ByteArray) : ∀ (es : List MapEntry) (ks : List ByteArray) (i : Nat), es.map (·.key) = ks.map Value.string →
 (Instr.findNow .string (.string k) (es.map xL) i).map (·.map (·.1)) = some ((ks.findIdx? fun x => decide (x = k)).map (i + ·))
 | [], [], i, _ => rfl
 | [], _ :: _, _, h => by simp at h
 | _ :: _, [], _, h => by simp at h
 | e :: es, s :: ks, i, h => by
   simp only [eE, fQ] at h
   have hs : Instr.sameNow .string (.string k) e.key = some (decide (s = k)) := by
    rw [h.1]
    show some (k == s) = _
    rw [a2F]
   simp only [eE, Instr.findNow, xL, hs, fb]
   by_cases hd : s = k
   ·simp [hd]
   ·simp only [hd, decide_false, dZ, if_false]
    have := a1r k es ks (i + 1) h.2
    rw [a4E] at this
    exact this
theorem b1J {κ : Type} [DecidableEq κ] {enc : κ → Value} {kt : TypeId} (heq : ∀ a b, iN P (Op.equal kt (enc a) (enc b)) = some (decide (b = a))) (k : κ) : ∀ (es : List MapEntry) (ks : List κ) (i : Nat), es.map (·.key) = ks.map enc →
 (iN P (Instr.findAsking kt (enc k) (es.map xL) i)).map (·.map (·.1)) = some ((ks.findIdx? fun x => decide (x = k)).map (i + ·))
 | [], [], i, _ => rfl
 | [], _ :: _, _, h => by simp at h
 | _ :: _, [], _, h => by simp at h
 | e :: es, s :: ks, i, h => by
   simp only [eE, fQ] at h
   simp only [eE, Instr.findAsking, xL, iK, fb]
   rw [h.1, heq, cX]
   by_cases hd : s = k
   ·simp [hd, kS]
   ·simp only [hd, decide_false, dZ, if_false]
    have := b1J heq k es ks (i + 1) h.2
    rw [a4E] at this
    exact this
theorem MapK.str {t kt et : TypeId} {z : Value} (hm : yU P t = some (kt, et)) (hu : P.underlying kt = some .string) (hz : jB P et = some z) (hf : jC z = true) : MapK P t Value.string z where
 ex := by
  refine ⟨kt, et, hm, hz, hf, ?_, ?_, ?_⟩
  ·intro b k
   have : iN P (Instr.checkKey b 10000 kt (.string k)) = some () := by
    show iN P (Instr.checkKey b (9999 + 1) kt (.string k)) = some ()
    unfold Instr.checkKey
    rw [iK, jX hu, cX]
    rfl
   simp only [zL, this]
   rfl
  ·intro k es ks h
   have h1 := a1r k es ks 0 h
   unfold rZ Instr.findKey
   rw [iK, jX hu, cX]
   cases hn : Instr.findNow .string (.string k) (es.map xL) 0 with
   | none => rw [hn] at h1; cases h1
   | some r =>
     rw [hn] at h1
     simp only [kS]
     simpa using h1
  ·intro k
   show (k == k) = true
   rw [a2F]
   simp
theorem MapK.struct {κ : Type} [DecidableEq κ] {enc : κ → Value} {t kt et : TypeId} {z : Value} {fs : Array Field} (hm : yU P t = some (kt, et)) (hu : P.underlying kt = some (.struct fs)) (hz : jB P et = some z) (hf : jC z = true)
 (hk : ∀ b k, zL P b kt (enc k) = true) (heq : ∀ a b, iN P (Op.equal kt (enc a) (enc b)) = some (decide (b = a))) (hsb : ∀ k, Instr.sameBits 10000 (enc k) (enc k) = true) : MapK P t enc z where
 ex := by
  refine ⟨kt, et, hm, hz, hf, hk, ?_, hsb⟩
  intro k es ks h
  have h1 := b1J heq k es ks 0 h
  unfold rZ Instr.findKey
  rw [iK, jX hu, cX]
  have key : ∀ (l : List MapEntry), Instr.findNow (.struct fs) (enc k) l 0 = none ∨ l = [] := by
   intro l
   cases l with
   | nil => exact .inr rfl
   | cons e l => exact .inl rfl
  rcases key (es.map xL) with hn | hn
  ·rw [hn]
   simpa using h1
  ·rw [hn]
   have : es = [] := by simpa using hn
   subst this
   have : ks = [] := by cases ks with | nil => rfl | cons a ks => simp at h
   subst this
   rfl
end
end Go.Ds
namespace Go.Ds
noncomputable section
variable {P : Program} {H : Heap}
def a2M (o : Option (Nat × TypeId)) (P : Program) (H : Heap) (t : TypeId) (z : Value) (K : Value → Heap → Prop) (_k : Keep K := ⟨⟩) : Prop := match o with
 | none => uU (jC z) (a5e P H t z K)
 | some _ => uU (jC z) (b0y P H t z K)
theorem a5t {o o' : Option (Nat × TypeId)} {t : TypeId} {z : Value} {K : Value → Heap → Prop} (h : o = o') : a2M o P H t z K = a2M o' P H t z K := by rw [h]
attribute [congr] a5t
theorem b7H {t : TypeId} (z : Value) (K : Value → Heap → Prop) : vY P H t (some z) K = a2M (jT P t) P H t z K := by
 cases h : jT P t with
 | none => exact a7N z K h
 | some n => exact b0Q z K h
theorem a6T {t : TypeId} (z : Value) (K : Value → Heap → Prop) : a2M none P H t z K = uU (jC z) (a5e P H t z K) := rfl
theorem a6B {t : TypeId} (n : Nat × TypeId) (z : Value) (K : Value → Heap → Prop) : a2M (some n) P H t z K = uU (jC z) (b0y P H t z K) := rfl
theorem a8s {t : TypeId} {k : IntKind} (h : a0Q P t = some k) : lF P t = false := by
 simp [lF, a0z h]
def a4C (ks kt : Option IntKind) (P : Program) (s t : TypeId) (H : Heap) (k : IntKind) (a : Int) (K : Value → Heap → Prop) (_k : Keep K := ⟨⟩) : Prop := match ks, kt with
 | some k0, some k' => if k0 = k then K (.int k' (k'.wrap a)) H else uF P s t H (.int k a) K
 | _, _ => uF P s t H (.int k a) K
theorem a7h {ks ks' kt kt' : Option IntKind} {s t : TypeId} {k : IntKind} {a : Int} {K : Value → Heap → Prop} (h : ks = ks') (h2 : kt = kt') : a4C ks kt P s t H k a K = a4C ks' kt' P s t H k a K := by rw [h, h2]
attribute [congr] a7h
theorem c0d {s t : TypeId} (k : IntKind) (a : Int) (K : Value → Heap → Prop) : uF P s t H (.int k a) K = a4C (a0Q P s) (a0Q P t) P s t H k a K := by
 unfold a4C
 split
 ·rename_i k0 k' hs ht
  split
  ·rename_i hk
   subst hk
   rw [b3p k0 a K (a8s ht), b4p a hs ht]
   rfl
  ·rfl
 ·rfl
theorem b2W {s t : TypeId} (k k' : IntKind) (a : Int) (K : Value → Heap → Prop) : a4C (some k) (some k') P s t H k a K = oF (.int k' (k'.wrap a)) fun v => K v H := by simp [a4C, oF]
def c4m (b : Bool) (P : Program) (H : Heap) (t : TypeId) (v : Value) : Option Value := match b with
 | true => (match v with | .string s => some (.int .i64 s.size) | _ => a0B P H t v)
 | false => a0B P H t v
theorem c3U (t : TypeId) (v : Value) : b1a none P H t v = c4m (oH P t) P H t v := by
 unfold c4m
 split
 ·rename_i h
  split
  ·exact b5W _ h
  ·rfl
 ·rfl
theorem b5S (t : TypeId) (s : ByteArray) : c4m true P H t (.string s) = some (.int .i64 s.size) := rfl
def a2n (b : Bool) (P : Program) (t : TypeId) (x i : Value) : Option Value := match b, x, i with
 | true, .string s, .int k i => if 0 ≤ i ∧ i < s.size then some (.int .u8 (oP s i.toNat)) else pK P t (.string s) (.int k i)
 | _, x, i => pK P t x i
theorem a8v (t : TypeId) (x i : Value) : pK P t x i = a2n (oH P t) P t x i := by
 unfold a2n
 split
 ·rename_i h
  split
  ·rename_i h2; exact b0b _ _ _ h h2.1 h2.2
  ·rfl
 ·rfl
theorem a8Y (t : TypeId) (s : ByteArray) (k : IntKind) (i : Int) (h0 : 0 ≤ i) (h1 : i < s.size) : a2n true P t (.string s) (.int k i) = some (.int .u8 (oP s i.toNat)) := by
 simp [a2n, h0, h1]
theorem OC : (∀ k n, oneCell (.int k n) = true) ∧ (∀ b, oneCell (.bool b) = true) ∧ (∀ s, oneCell (.string s) = true) ∧ (∀ a, oneCell (.pointer a) = true) ∧ (∀ a n c, oneCell (.slice a n c) = true) ∧ (∀ r, oneCell (.map r) = true) ∧ (∀ f a b, oneCell (.func f a b) = true) ∧ oneCell .nilFunc = true :=
 ⟨fun _ _ => rfl, fun _ => rfl, fun _ => rfl, fun _ => rfl, fun _ _ _ => rfl, fun _ => rfl, fun _ _ _ => rfl, rfl⟩
theorem c5F (o : Option Bool) : (o.map Value.bool).getD (.bool false) = .bool (o.getD false) := by cases o <;> rfl
theorem c6g (k : IntKind) (o : Option Int) : (o.map (Value.int k)).getD (.int k 0) = .int k (o.getD 0) := by cases o <;> rfl
theorem c0M (v : Value) (b : Bool) : pairV false v b = v := rfl
theorem c0B (v : Value) (b : Bool) : pairV true v b = .tuple #[v, .bool b] := rfl
theorem b5i (t : Tmp) : lM (.tmp t) = false := rfl
theorem a9x (v : Value) : lM (.const v) = true := rfl
theorem b7m (s : ByteArray) : flat (.string s) = true := rfl
theorem b2Q (s : ByteArray) : jC (.string s) = true := rfl
theorem b0L (s : ByteArray) : iZ (.string s) = true := rfl
theorem a6W (s : ByteArray) : jE (.string s) = true := rfl
theorem b5h (k : IntKind) (n : Int) : qB (.int k n) = true := rfl
theorem b3n (b : Bool) : qB (.bool b) = true := rfl
theorem b8e (s : ByteArray) : qB (.string s) = true := rfl
theorem qU {c b : Bool} {p q : Prop} (h1 : c = true → sQ (.bool true) b p q) (h2 : c = false → sQ (.bool false) b p q) : sQ (.bool c) b p q := by
 cases c
 ·exact h2 rfl
 ·exact h1 rfl
theorem St.pick {H0 : Base} {os os' : List Ob} (hS : St P H0 H os) (idx : List Nat) (hn : idx.Nodup) (h : idx.map (os[·]?) = os'.map some) : St P H0 H os' := by
 have hmem : ∀ o ∈ os', o ∈ os := by
  intro o ho
  have : some o ∈ idx.map (os[·]?) := by rw [h]; exact gg ho
  obtain ⟨i, _, hi⟩ := dA.1 this
  exact dQ hi
 refine ⟨hS.len, hS.old, fun o ho => hS.own o (hmem o ho), fun o ho => hS.new o (hmem o ho), ?_⟩
 have hpw := eI.1 hS.sep
 rw [eI]
 intro i j hi hj hij
 have hl : idx.length = os'.length := by simpa using congrArg List.length h
 have key : ∀ i (hi : i < os'.length), ∃ hk : idx[i]'(by omega) < os.length, os[idx[i]'(by omega)] = os'[i] := by
  intro i hi
  have h1 : (idx.map (os[·]?))[i]? = (os'.map some)[i]? := by rw [h]
  rw [eP, eP, dq (by omega), dq hi] at h1
  simp only [dO, dE] at h1
  exact dw.1 h1
 obtain ⟨h1, e1⟩ := key i hi
 obtain ⟨h2, e2⟩ := key j hj
 have hne : idx[i]'(by omega) ≠ idx[j]'(by omega) := by
  have := eI.1 hn i j (by omega) (by omega) hij
  exact this
 rcases fL hne with hh | hh
 ·have := hpw _ _ h1 h2 hh
  rw [e1, e2] at this
  exact this
 ·have := hpw _ _ h2 h1 hh
  rw [e1, e2] at this
  intro B hb hb'
  exact this B hb' hb
theorem St.frame {H1 : Heap} {H0 : Base} {ls rest ls' : List Ob} (hS : St P H0 H (ls ++ rest)) (h1 : St P ⟨H, rY ls⟩ H1 ls') : St P H0 H1 (ls' ++ rest) := by
 have hls : St P H0 H ls := hS.sub (List.sublist_append_left ..)
 have h2 := hls.bA h1
 have hsep := fc.1 hS.sep
 have hkeep : ∀ o ∈ rest, ∀ B, kJ o.v = some B → iR H1 B = iR H B := by
  intro o ho B hB
  have hlt := (hS.own o (gx _ ho)).lt hB
  exact h1.old B hlt fun ⟨x, hx, hxb⟩ => hsep.2.2 x hx o ho B hxb hB
 refine ⟨h2.len, h2.old, ?_, ?_, ?_⟩
 ·intro o ho
  rcases dD.1 ho with ho | ho
  ·exact h2.own o ho
  ·exact (hS.own o (gx _ ho)).ab (hkeep o ho)
 ·intro o ho B hB
  rcases dD.1 ho with ho | ho
  ·exact h2.new o ho B hB
  ·exact hS.new o (gx _ ho) B hB
 ·rw [fc]
  refine ⟨h2.sep, hsep.2.1, ?_⟩
  intro x hx y hy B hb hb'
  rcases h1.new x hx B hb with hh | ⟨z, hz, hzb⟩
  ·have := (hS.own y (gx _ hy)).lt hb'
   have hh : H.length ≤ B := hh
   omega
  ·exact hsep.2.2 z hz y hy B hzb hb'
theorem c1e (t : TypeId) (k : IntKind) (n : Int) : unV P .neg t (.int k n) = some (.int k (k.wrap (0 - n))) := rfl
theorem b4C (ops : Array Oper) (d : Option Tmp) (op : Op) (ty : TypeId) (pos : String) (af : Array Edge) (j : Nat) (b : Bool) (l : List Value) (H' : Heap) (v : Value) :
 rdW P ops (some ⟨d, op, ty, pos, af, some (j, b)⟩) (some (l, H', v)) H = vS (yD ops j) l b (mE P ⟨d, op, ty, pos, af, some (j, b)⟩ l H fun v' _ => v' = v) True := by
 rw [← uA ops l d op ty pos af]
 unfold rdW
 split
 ·rename_i h1 h2
  cases h1; cases h2
  split
  ·rename_i h; simp [h]
  ·rename_i h; simp [h]
 ·rename_i h
  exact (h _ _ _ _ rfl rfl).elim
theorem b2T (t t2 : TypeId) (cx cy : Bool) (k : IntKind) (a b : Int) (K : Value → Prop) : kX P .and t t2 cx cy (.int k a) (.int k b) K = jU (kU P .and t t2 cx cy (.int k a) (.int k b)) K := by
 have h : (if k = k then mR .and k a b else none) = none := by split <;> rfl
 unfold kX; dsimp only
 rw [h]
theorem b7z (t t2 : TypeId) (cx cy : Bool) (k : IntKind) (a b : Int) (K : Value → Prop) : kX P .or t t2 cx cy (.int k a) (.int k b) K = jU (kU P .or t t2 cx cy (.int k a) (.int k b)) K := by
 have h : (if k = k then mR .or k a b else none) = none := by split <;> rfl
 unfold kX; dsimp only
 rw [h]
theorem b2C (t t2 : TypeId) (cx cy : Bool) (k : IntKind) (a b : Int) (K : Value → Prop) : kX P .xor t t2 cx cy (.int k a) (.int k b) K = jU (kU P .xor t t2 cx cy (.int k a) (.int k b)) K := by
 have h : (if k = k then mR .xor k a b else none) = none := by split <;> rfl
 unfold kX; dsimp only
 rw [h]
theorem a5N (t t2 : TypeId) (cx cy : Bool) (k : IntKind) (a b : Int) (K : Value → Prop) : kX P .andNot t t2 cx cy (.int k a) (.int k b) K = jU (kU P .andNot t t2 cx cy (.int k a) (.int k b)) K := by
 have h : (if k = k then mR .andNot k a b else none) = none := by split <;> rfl
 unfold kX; dsimp only
 rw [h]
theorem b4B (t t2 : TypeId) (cx cy : Bool) (k k' : IntKind) (a b : Int) (K : Value → Prop) : kX P .shl t t2 cx cy (.int k a) (.int k' b) K = jU (kU P .shl t t2 cx cy (.int k a) (.int k' b)) K := by
 have h : (if k = k' then mR .shl k a b else none) = none := by split <;> rfl
 unfold kX; dsimp only
 rw [h]
theorem b3k (t t2 : TypeId) (cx cy : Bool) (k k' : IntKind) (a b : Int) (K : Value → Prop) : kX P .shr t t2 cx cy (.int k a) (.int k' b) K = jU (kU P .shr t t2 cx cy (.int k a) (.int k' b)) K := by
 have h : (if k = k' then mR .shr k a b else none) = none := by split <;> rfl
 unfold kX; dsimp only
 rw [h]
theorem b4e (op : BinOp) (t t2 : TypeId) (cx cy : Bool) (a b : ByteArray) (K : Value → Prop) : kX P op t t2 cx cy (.string a) (.string b) K = jU (kU P op t t2 cx cy (.string a) (.string b)) K := rfl
theorem b4g (op : BinOp) (t t2 : TypeId) (cx cy : Bool) (a b : Array Value) (K : Value → Prop) : kX P op t t2 cx cy (.agg a) (.agg b) K = jU (kU P op t t2 cx cy (.agg a) (.agg b)) K := rfl
theorem b2L (op : BinOp) (t t2 : TypeId) (cx cy : Bool) (a b : Bool) (K : Value → Prop) : kX P op t t2 cx cy (.bool a) (.bool b) K = jU (kU P op t t2 cx cy (.bool a) (.bool b)) K := rfl
theorem b5V (n : Int) (h1 : -9223372036854775808 ≤ n) (h2 : n < 9223372036854775808) : IntKind.wrap .i64 n = n := by
 show (if (true && decide (n % 18446744073709551616 ≥ 9223372036854775808)) = true then n % 18446744073709551616 - 18446744073709551616 else n % 18446744073709551616) = n
 simp only [gO, decide_eq_true_eq]
 omega
theorem b9c (n : Int) (h1 : -128 ≤ n) (h2 : n < 128) : IntKind.wrap .i8 n = n := by
 show (if (true && decide (n % 256 ≥ 128)) = true then n % 256 - 256 else n % 256) = n
 simp only [gO, decide_eq_true_eq]
 omega
theorem mY (n : Int) (h1 : 0 ≤ n) (h2 : n < 18446744073709551616) : IntKind.wrap .u64 n = n := by
 show (if (false && decide (n % 18446744073709551616 ≥ 9223372036854775808)) = true then n % 18446744073709551616 - 18446744073709551616 else n % 18446744073709551616) = n
 simp only [fy]
 rw [if_neg (by simp)]
 omega
theorem b5Y (n : Int) (h1 : 0 ≤ n) (h2 : n < 4294967296) : IntKind.wrap .u32 n = n := by
 show (if (false && decide (n % 4294967296 ≥ 2147483648)) = true then n % 4294967296 - 4294967296 else n % 4294967296) = n
 simp only [fy]
 rw [if_neg (by simp)]
 omega
theorem sJ (n : Int) (h1 : 0 ≤ n) (h2 : n < 65536) : IntKind.wrap .u16 n = n := by
 show (if (false && decide (n % 65536 ≥ 32768)) = true then n % 65536 - 65536 else n % 65536) = n
 simp only [fy]
 rw [if_neg (by simp)]
 omega
theorem c0T (n : Int) (h1 : 0 ≤ n) (h2 : n < 256) : IntKind.wrap .u8 n = n := by
 show (if (false && decide (n % 256 ≥ 128)) = true then n % 256 - 256 else n % 256) = n
 simp only [fy]
 rw [if_neg (by simp)]
 omega
end
end Go.Ds
namespace Go.Ds
noncomputable section
variable {P : Program}
def a0n (P : Program) (t : TypeId) : List Field := match P.underlying t with | some (.struct fs) => fs.toList | _ => []
def eqC : Value → Value → Bool
 | .int _ a, .int _ b => a == b
 | .bool a, .bool b => a == b
 | .string a, .string b => decide (a = b)
 | _, _ => false
def okC (P : Program) (t : TypeId) (x y : Value) : Bool := match P.underlying t with
 | some (.int _) => (match x, y with | .int k _, .int k' _ => decide (k = k') | _, _ => false)
 | some .bool => (match x, y with | .bool _, .bool _ => true | _, _ => false)
 | some .string => (match x, y with | .string _, .string _ => true | _, _ => false)
 | _ => false
theorem eq1 {t : TypeId} {x y : Value} (d : Nat) (h : okC P t x y = true) : iN P (Op.equalIn (d + 1) t x y) = some (eqC x y) := by
 unfold okC at h
 split at h
 ·rename_i k0 hu
  split at h
  ·rename_i k a k' b
   have hk : k = k' := by simpa using h
   subst hk
   rw [Op.equalIn, iK, jX hu, cX]
   simp only [if_true]
   rfl
  ·cases h
 ·rename_i hu
  split at h
  ·rw [Op.equalIn, iK, jX hu, cX]; rfl
  ·cases h
 ·rename_i hu
  split at h
  ·rename_i a b
   rw [Op.equalIn, iK, jX hu, cX]
   show some (a == b) = some (decide (a = b))
   rw [a2F]
   congr 1
   simp [eq_comm]
  ·cases h
 ·cases h
theorem c1v {t : TypeId} {x y v : Value} {cs : Array Value} {off : Nat} (h : okC P t x y = true) (hc : cs[off]? = some v) : iN P (part t cs off) = some v := by
 have ha : iN P (isAgg t) = some false := by
  unfold isAgg
  unfold okC at h
  split at h
  ·rename_i hu; rw [iK, jX hu, cX]; rfl
  ·rename_i hu; rw [iK, jX hu, cX]; rfl
  ·rename_i hu; rw [iK, jX hu, cX]; rfl
  ·cases h
 unfold part
 rw [iK, ha, cX]
 simp only [dZ, if_false, hc]
 rfl
theorem a2y {t : TypeId} {xs ys : List Value} (d : Nat) (hu : P.underlying t = some (.struct (a0n P t).toArray)) (hst : P.stoodInHeld t = false)
 (hf : ((a0n P t).map fun f => (f.name != "_", f.offset)) = (List.range xs.length).map fun j => (true, j)) (hy : ys.length = xs.length)
 (hok : ((a0n P t).all fun f => okC P f.type (xs.getD f.offset undef) (ys.getD f.offset undef)) = true) :
 iN P (Op.equalIn (d + 2) t (.agg xs.toArray) (.agg ys.toArray)) = some ((List.range xs.length).all fun j => eqC (xs.getD j undef) (ys.getD j undef)) := by
 rw [du] at hok
 have hmem : ∀ f ∈ a0n P t, (f.name != "_") = true ∧ f.offset < xs.length := fun f hf' => by
  have : (f.name != "_", f.offset) ∈ (List.range xs.length).map fun j => (true, j) := by rw [← hf]; exact gg hf'
  obtain ⟨j, hj, he⟩ := dA.1 this
  simp only [gr] at he
  exact ⟨he.1.symm, by rw [← he.2]; exact dz.1 hj⟩
 rw [b6R hu hst (fun f => eqC (xs.getD f.offset undef) (ys.getD f.offset undef)) ?_]
 ·congr 1
  have h1 : (a0n P t).all (fun f => eqC (xs.getD f.offset undef) (ys.getD f.offset undef)) = ((a0n P t).map fun f => (f.name != "_", f.offset)).all fun p => eqC (xs.getD p.2 undef) (ys.getD p.2 undef) := by
   rw [List.all_map]; rfl
  rw [h1, hf, List.all_map]
  rfl
 ·intro f hf'
  obtain ⟨h1, h2⟩ := hmem f hf'
  refine ⟨by simpa using h1, ?_⟩
  have hx : xs.toArray[f.offset]? = some (xs.getD f.offset undef) := by
   rw [fi, dc, dq h2]; rfl
  have hy' : ys.toArray[f.offset]? = some (ys.getD f.offset undef) := by
   rw [fi, dc, dq (by omega)]; rfl
  rw [iK, c1v (hok f hf') hx, cX, iK, c1v (hok f hf') hy', cX]
  exact eq1 d (hok f hf')
theorem zD {t t2 : TypeId} {cx cy : Bool} {xs ys : List Value} (hu : P.underlying t = some (.struct (a0n P t).toArray)) (hst : P.stoodInHeld t = false) (hg : P.eqGuardType P.depth t = false)
 (hf : ((a0n P t).map fun f => (f.name != "_", f.offset)) = (List.range xs.length).map fun j => (true, j)) (hy : ys.length = xs.length)
 (hok : ((a0n P t).all fun f => okC P f.type (xs.getD f.offset undef) (ys.getD f.offset undef)) = true) (hx : xs.all iZ = true) (hys : ys.all iZ = true) :
 kU P .eql t t2 cx cy (.agg xs.toArray) (.agg ys.toArray) = some (.bool ((List.range xs.length).all fun j => eqC (xs.getD j undef) (ys.getD j undef))) ∧
 kU P .neq t t2 cx cy (.agg xs.toArray) (.agg ys.toArray) = some (.bool (!((List.range xs.length).all fun j => eqC (xs.getD j undef) (ys.getD j undef)))) :=
 ⟨b7L _ hg hx hys (a2y 9998 hu hst hf hy hok), b6e _ hg hx hys (a2y 9998 hu hst hf hy hok)⟩
theorem c3t {t : TypeId} {k : IntKind} (hu : P.underlying t = some (.struct (a0n P t).toArray)) (hst : P.stoodInHeld t = false)
 (hf : ((a0n P t).map fun f => (f.name != "_", f.offset)) = (List.range 2).map fun j => (true, j))
 (hok : ∀ a b c d : Int, ((a0n P t).all fun f => okC P f.type ([Value.int k a, .int k b].getD f.offset undef) ([Value.int k c, .int k d].getD f.offset undef)) = true) (a b : Int × Int) :
 iN P (Op.equal t (.agg #[.int k a.1, .int k a.2]) (.agg #[.int k b.1, .int k b.2])) = some (decide (b = a)) := by
 have hmd : Op.maxDepth = 9998 + 2 := by decide
 unfold Op.equal
 rw [hmd, a2y (xs := [.int k a.1, .int k a.2]) (ys := [.int k b.1, .int k b.2]) 9998 hu hst hf rfl (hok _ _ _ _)]
 congr 1
 show ((a.1 == b.1) && ((a.2 == b.2) && true)) = _
 rw [eG]
 simp only [fu, cW, beq_iff_eq, decide_eq_true_eq, Prod.ext_iff]
 constructor
 ·rintro ⟨h1, h2⟩; exact ⟨h1.symm, h2.symm⟩
 ·rintro ⟨h1, h2⟩; exact ⟨h1.symm, h2.symm⟩
theorem c3G {k : IntKind} (a : Int × Int) : Instr.sameBits 10000 (.agg #[.int k a.1, .int k a.2]) (.agg #[.int k a.1, .int k a.2]) = true := by
 show ((2 : Nat) == 2 && ([(Value.int k a.1, Value.int k a.1), (Value.int k a.2, Value.int k a.2)]).all fun (x, y) => Instr.sameBits 9999 x y) = true
 have h : ∀ n, Instr.sameBits 9999 (.int k n) (.int k n) = true := fun n => by
  show (k == k && n == n) = true
  cases k <;> simp <;> rfl
 simp [h]
section
variable {H : Heap} {α : Type} {n : Nat} {cel : α → List Value} {v : Value} {xs : List α}
theorem Sl.aV (h : Sl n cel H v xs) (o : Oper) (l : List Value) (H' : Heap) (k : IntKind) (a : Int) (K : Value → Heap → Prop) (h0 : 0 < xs.length) (h1 : 0 ≤ a) (h2 : a ≤ xs.length) :
 pR P o l H' (some n) v none (some (.int k a)) K = oF (rE v n 0 a.toNat) fun v => K v H' := by
 obtain ⟨m, rfl⟩ : ∃ m, n = m + 1 := ⟨n - 1, by have := h.pos; omega⟩
 exact h.rd.aV (iM h.hc xs) o l H' k a K h0 h1 h2
theorem Sl.aU (h : Sl n cel H v xs) (o : Oper) (l : List Value) (H' : Heap) (k : IntKind) (a : Int) (K : Value → Heap → Prop) (h0 : 0 < xs.length) (h1 : 0 ≤ a) (h2 : a ≤ xs.length) :
 pR P o l H' (some n) v (some (.int k a)) none K = oF (rE v n a.toNat (xs.length - a).toNat) fun v => K v H' := by
 obtain ⟨m, rfl⟩ : ∃ m, n = m + 1 := ⟨n - 1, by have := h.pos; omega⟩
 rw [h.rd.aU (iM h.hc xs) o l H' k a K h0 h1 h2]
 congr 2
 omega
theorem Sl.sub (h : Sl n cel H v xs) (lo k : Nat) (hk : lo + k ≤ xs.length) (h0 : 0 < xs.length) : Sl n cel H (rE v n lo k) ((xs.drop lo).take k) := by
 refine ⟨?_, h.hc, h.pos⟩
 have hne : xs.flatMap cel ≠ [] := fun e => by
  have := iM h.hc xs
  rw [e, ew] at this
  have hp := ir h0 h.pos
  omega
 have := h.rd.sub lo k (by rw [iM h.hc, ← fp]; exact dK _ hk) hne
 rw [tM h.hc, a2c h.hc] at this
 exact this
theorem Sl.cD (h : Sl n cel H v xs) (k : Nat) (hk : k ≤ xs.length) (h0 : 0 < xs.length) : Sl n cel H (rE v n 0 k) (xs.take k) := by
 simpa using h.sub 0 k (by omega) h0
theorem Sl.cE (h : Sl n cel H v xs) (lo : Nat) (hk : lo ≤ xs.length) (h0 : 0 < xs.length) : Sl n cel H (rE v n lo (xs.length - lo)) (xs.drop lo) := by
 have := h.sub lo (xs.length - lo) (by omega) h0
 rwa [List.take_of_length_le (by simp)] at this
end
def b0S (P : Program) (ts : Array TypeId) (ty : TypeId) (cx cy : Bool) (x y : Value) : Option Value := (kT P ⟨none, .call { callee := .builtin .max, args := #[pA cx 0 x, pA cy 1 y], argTypes := ts }, ty, "", #[], none⟩ [x, y] .nil).map (·.1)
theorem c1g (d : Option Tmp) (ty : TypeId) (pos : String) (af : Array Edge) (g : Option (Nat × Bool)) (ts : Array TypeId) (x y : Operand) (l : List Value) (H : Heap) (K : Value → Heap → Prop) :
 mE P ⟨d, .call { callee := .builtin .max, args := #[x, y], argTypes := ts }, ty, pos, af, g⟩ l H K = jK x l fun x' => jK y l fun y' => jU (b0S P ts ty (lM x) (lM y) x' y') fun v => K v H := by
 have h : opD P ⟨d, .call { callee := .builtin .max, args := #[x, y], argTypes := ts }, ty, pos, af, g⟩ l H = (b0S P ts ty (lM x) (lM y) (ev l x) (ev l y)).map fun v => (v, H) :=
  nE (P := P) ⟨d, .call { callee := .builtin .max, args := #[x, y], argTypes := ts }, ty, pos, af, g⟩ ⟨none, .call { callee := .builtin .max, args := #[pA (lM x) 0 (ev l x), pA (lM y) 1 (ev l y)], argTypes := ts }, ty, "", #[], none⟩ l [ev l x, ev l y] H
   (by cases x <;> cases y <;> rfl) (by cases x <;> cases y <;> kernel_rfl)
 have h2 : kD ((b0S P ts ty (lM x) (lM y) (ev l x) (ev l y)).map fun v => (v, H)) K = jU (b0S P ts ty (lM x) (lM y) (ev l x) (ev l y)) fun v => K v H := by cases b0S P ts ty (lM x) (lM y) (ev l x) (ev l y) <;> rfl
 simp only [mE, h, jK, Op.operands, Call.operands, h2]
 simp [and_assoc]
theorem b7M (ts : Array TypeId) (ty : TypeId) (cx cy : Bool) (a b : Int) : b0S P ts ty cx cy (.int .i64 a) (.int .i64 b) = some (.int .i64 (max a b)) := by
 have h : b0S P ts ty cx cy (.int .i64 a) (.int .i64 b) = some (.int .i64 (if b > a then b else a)) := by cases cx <;> cases cy <;> kernel_rfl
 rw [h]
 congr 2
 split <;> omega
def a9v (P : Program) (ts : Array TypeId) (ty : TypeId) (cx cy : Bool) (x y : Value) : Option Value := (kT P ⟨none, .call { callee := .builtin .min, args := #[pA cx 0 x, pA cy 1 y], argTypes := ts }, ty, "", #[], none⟩ [x, y] .nil).map (·.1)
theorem c1c (d : Option Tmp) (ty : TypeId) (pos : String) (af : Array Edge) (g : Option (Nat × Bool)) (ts : Array TypeId) (x y : Operand) (l : List Value) (H : Heap) (K : Value → Heap → Prop) :
 mE P ⟨d, .call { callee := .builtin .min, args := #[x, y], argTypes := ts }, ty, pos, af, g⟩ l H K = jK x l fun x' => jK y l fun y' => jU (a9v P ts ty (lM x) (lM y) x' y') fun v => K v H := by
 have h : opD P ⟨d, .call { callee := .builtin .min, args := #[x, y], argTypes := ts }, ty, pos, af, g⟩ l H = (a9v P ts ty (lM x) (lM y) (ev l x) (ev l y)).map fun v => (v, H) :=
  nE (P := P) ⟨d, .call { callee := .builtin .min, args := #[x, y], argTypes := ts }, ty, pos, af, g⟩ ⟨none, .call { callee := .builtin .min, args := #[pA (lM x) 0 (ev l x), pA (lM y) 1 (ev l y)], argTypes := ts }, ty, "", #[], none⟩ l [ev l x, ev l y] H
   (by cases x <;> cases y <;> rfl) (by cases x <;> cases y <;> kernel_rfl)
 have h2 : kD ((a9v P ts ty (lM x) (lM y) (ev l x) (ev l y)).map fun v => (v, H)) K = jU (a9v P ts ty (lM x) (lM y) (ev l x) (ev l y)) fun v => K v H := by cases a9v P ts ty (lM x) (lM y) (ev l x) (ev l y) <;> rfl
 simp only [mE, h, jK, Op.operands, Call.operands, h2]
 simp [and_assoc]
theorem b5m (ts : Array TypeId) (ty : TypeId) (cx cy : Bool) (a b : Int) : a9v P ts ty cx cy (.int .i64 a) (.int .i64 b) = some (.int .i64 (min a b)) := by
 have h : a9v P ts ty cx cy (.int .i64 a) (.int .i64 b) = some (.int .i64 (if b < a then b else a)) := by cases cx <;> cases cy <;> kernel_rfl
 rw [h]
 congr 2
 split <;> omega
section
variable {H : Heap}
def Var (H : Heap) (A n : Nat) (cs : List Value) : Prop := n = cs.length ∧ ∃ ty rw lo ver, iR H A = some (.cells cs ty rw lo ver) ∧ lo ≤ cs.length
theorem Var.ab {H' : Heap} {A n : Nat} {cs : List Value} (h : Var H A n cs) (hk : ∀ B, B < H.length → iR H' B = iR H B) : Var H' A n cs := by
 obtain ⟨h1, ty, rw, lo, ver, h2, h3⟩ := h
 exact ⟨h1, ty, rw, lo, ver, by rw [hk A (jM h2), h2], h3⟩
theorem Var.ld {A n : Nat} {cs : List Value} (h : Var H A n cs) (s : Option Nat) (off : Nat) : oZ (some false) s H (ptr A off n) = cs[off]? := by
 obtain ⟨rfl, ty, rw, lo, ver, h1, h2⟩ := h
 simp only [oZ, jD, h1]
 by_cases h : off < cs.length
 ·rw [if_pos (by simp; omega)]
  simp only [cX]
  rw [dW (by omega), dI]
  simp
 ·rw [if_neg (by simp; omega), eo (by omega)]
  rfl
theorem Var.ae {A n : Nat} {cs : List Value} (h : Var H A n cs) (m off : Nat) : oZ (some true) (some m) H (ptr A off n) = if off + m ≤ cs.length then some (.agg ((cs.drop off).take m).toArray) else none := by
 obtain ⟨rfl, ty, rw, lo, ver, h1, h2⟩ := h
 simp only [oZ, jD, h1, cX]
 by_cases h : off + m ≤ cs.length
 ·rw [if_pos (by simp; omega), if_pos h]
  rfl
 ·rw [if_neg (by simp; omega), if_neg h]
  rfl
theorem St.var {P : Program} {H0 : Base} {os : List Ob} (hS : St P H0 H os) (i : Nat) {A n : Nat} {cs : List Value} (ho : os[i]? = some ⟨ptr A 0 n, 0, cs⟩) : Var H A n cs := by
 obtain ⟨h1, ty, lo, ver, h2, h3⟩ := hS.cell i ho
 exact ⟨h1, ty, true, lo, ver, h2, h3⟩
theorem St.va {H0 : Heap} {os : List Ob} (hS : St P H0 H os) {A n : Nat} {cs : List Value} (h : Var H0 A n cs) : Var H A n cs := h.ab hS.ab
end
theorem tU {P : Program} (t t2 : TypeId) (cx cy : Bool) (u x : UInt8) : kU P .add t t2 cx cy (.string ⟨#[u]⟩) (.string ⟨#[x]⟩) = some (.string ⟨#[u, x]⟩) := by
 rw [a6s _ _ _ _ _ _ (by show 1 + 1 < 9223372036854775808; decide)]
 rfl
theorem wJ {P : Program} {H : Heap} {s t : TypeId} {v : Value} {n : Int} (h : RdAt H v 1 [.int .u8 n]) (hs : lF P s = true) (ht : oH P t = true) (hbt : lF P t = false) (h0 : 0 ≤ n) (h1 : n < 256) (K : Value → Heap → Prop) :
 uF P s t H v K = K (.string ⟨#[UInt8.ofNat n.toNat]⟩) H := by
 obtain ⟨m, rfl⟩ : ∃ m : Nat, n = Int.ofNat m := ⟨n.toNat, by simp [fY h0]⟩
 have hm : m < 256 := by have : (m : Int) < 256 := h1; omega
 rcases h with ⟨_, h⟩ | ⟨A, i, e, row, ty, rw, lo, ver, k, g1, g2, g3, g4, g5, g6, rfl⟩
 ·cases h
 have hk : k = 1 := by simp at g6; omega
 subst hk
 have hc : jD H A i e 1 = some [.int .u8 (Int.ofNat m)] := by
  simp only [jD, g1]
  rw [if_pos (by simp at g4 ⊢; omega)]
  exact congrArg some g5
 have hb : nO [.int .u8 (Int.ofNat m)] = some ⟨#[UInt8.ofNat m]⟩ := by simp [nO, a2V, a1S, hm]
 have hd : opD P ⟨none, .convert s t (.const (.slice (some ⟨A, i, some e⟩) 1 1)), t, "", #[], none⟩ [] H = some (.string ⟨#[UInt8.ofNat m]⟩, H) := by
  have hf : flat (.slice (some ⟨A, i, some e⟩) 1 1) = false := rfl
  simp only [opD, ev, hf, hs, ht, hc, hb, fy, dZ, if_false, Bool.and_self, if_true, cX, dO]
 unfold uF
 rw [hd]
 apply propext
 constructor
 ·rintro ⟨v, H1, h2, h3⟩
  injection (cV h2) with e1 e2
  subst e1 e2
  exact h3
 ·intro h3
  exact ⟨_, _, rfl, h3⟩
theorem a5W {P : Program} {t : TypeId} {n : Nat} {elem : TypeId} {size : Nat} (ha : P.underlying t = some (.array n elem)) (hs : iE P elem = some size) (A i e : Nat) (k : IntKind) (j : Int) (h0 : 0 ≤ j) (h1 : j < n) :
 xJ (iT P t) P t (ptr A i e) (.int k j) = some (ptr A (i + j.toNat * size) e) := by
 have hn : iT P t = none := by simp [iT, iI, ha]
 rw [hn]
 simp only [xJ, a2E, ha, ptr, hs, cX]
 rw [if_pos (by simp [h0, h1])]
end
end Go.Ds
namespace Go.Ds
section
variable {P : Program}
def c3T (inv : List Nat) (e : Edge) : Edge := { e with on := inv.getD e.on 0 }
def zA (inv : List Nat) (o : Oper) : Oper := { o with after := o.after.map (c3T inv), guard := o.guard.map fun g => (inv.getD g.1 0, g.2) }
def kF (π inv : List Nat) (ops : Array Oper) : Array Oper := (π.map fun i => zA inv (ops.getD i default)).toArray
def a9V (π inv : List Nat) (ops : Array Oper) : Bool :=
 decide (π.length = ops.size) && decide (inv.length = ops.size) && (List.range ops.size).all (fun i => decide (π.getD i 0 < ops.size) && decide (inv.getD i 0 < ops.size) && decide (inv.getD (π.getD i 0) 0 = i) && decide (π.getD (inv.getD i 0) 0 = i)) &&
 ops.toList.all fun o => o.after.toList.all (fun e => decide (e.on < ops.size)) && (match o.guard with | some g => decide (g.1 < ops.size) | none => true)
structure Perm (π inv : List Nat) (ops : Array Oper) : Prop where
 len : π.length = ops.size
 pi : ∀ i, i < ops.size → π.getD i 0 < ops.size
 iv : ∀ i, i < ops.size → inv.getD i 0 < ops.size
 ip : ∀ i, i < ops.size → inv.getD (π.getD i 0) 0 = i
 pv : ∀ i, i < ops.size → π.getD (inv.getD i 0) 0 = i
 edge : ∀ (i : Nat) (o : Oper), ops[i]? = some o → ∀ e ∈ o.after, e.on < ops.size
 guard : ∀ (i : Nat) (o : Oper) (g : Nat × Bool), ops[i]? = some o → o.guard = some g → g.1 < ops.size
theorem b9W {π inv : List Nat} {ops : Array Oper} (h : a9V π inv ops = true) : Perm π inv ops := by
 unfold a9V at h
 simp only [cW, decide_eq_true_eq, du, dz] at h
 obtain ⟨⟨⟨h1, h2⟩, h3⟩, h4⟩ := h
 refine ⟨h1, fun i hi => (h3 i hi).1.1.1, fun i hi => (h3 i hi).1.1.2, fun i hi => (h3 i hi).1.2, fun i hi => (h3 i hi).2, fun i o ho e he => ?_, fun i o g ho hg => ?_⟩
 ·exact (h4 o (dQ (i := i) (by simpa using ho))).1 e (by simpa using he)
 ·have := (h4 o (dQ (i := i) (by simpa using ho))).2
  rw [hg] at this
  simpa using this
variable {π inv : List Nat} {ops : Array Oper}
theorem a6K (p : Nat) : (kF π inv ops)[p]? = (π[p]?).map fun i => zA inv (ops.getD i default) := by
 simp [kF]
theorem rH (D : Perm π inv ops) {p i : Nat} {o : Oper} (hp : p < ops.size) (hi : π.getD p 0 = i) (ho : ops[i]? = some o) : (kF π inv ops)[p]? = some (zA inv o) := by
 rw [a6K]
 have h1 : π[p]? = some i := by
  rw [dc] at hi
  rw [dq (by rw [D.len]; exact hp)] at hi ⊢
  simpa using hi
 rw [h1]
 simp only [dO]
 rw [ee, ho]
 rfl
theorem qJ (D : Perm π inv ops) : (kF π inv ops).size = ops.size := by simp [kF, D.len]
theorem a6a (D : Perm π inv ops) (tmps : Array Value) {j : Nat} (hj : j < ops.size) : yielded (kF π inv ops) tmps (inv.getD j 0) = yielded ops tmps j := by
 have ho : ops[j]? = some ops[j] := dg.2 ⟨hj, rfl⟩
 unfold yielded
 rw [rH D (D.iv j hj) (D.pv j hj) ho, ho]
 rfl
theorem a7d (D : Perm π inv ops) (tmps : Array Value) {i : Nat} {o : Oper} (ho : ops[i]? = some o) : Region.wanted (zA inv o) (yielded (kF π inv ops) tmps) = Region.wanted o (yielded ops tmps) := by
 unfold Region.wanted
 have e : (zA inv o).guard = o.guard.map fun g => (inv.getD g.1 0, g.2) := rfl
 rw [e]
 cases hg : o.guard with
 | none => rfl
 | some g =>
   simp only [dO]
   rw [a6a D tmps (D.guard i o g ho hg)]
theorem c0b (ro : Option Nat) (ρ : Operand → Value) (o : Oper) : (zA inv o).semAt ro ρ = o.semAt ro ρ := by
 obtain ⟨dst, op, type, pos, after, guard⟩ := o
 rfl
theorem b4y (w : World) (ρ : Operand → Value) (o : Oper) : (zA inv o).about P w ρ = o.about P w ρ := by
 obtain ⟨dst, op, type, pos, after, guard⟩ := o
 rfl
theorem b6i (F : Fence) (n : Nat) (o : Oper) (a : Act) (next : Act → World → Prop) (Q : Exit → Act → World → Prop) (r : Result Next) : (zA inv o).uponIn F n P a next Q r = o.uponIn F n P a next Q r := by
 obtain ⟨dst, op, type, pos, after, guard⟩ := o
 cases r with
 | ok x w => cases x <;> rfl
 | halt x w => cases x <;> rfl
theorem b3u (D : Perm π inv ops) (F : Fence) (n : Nat) (Q : Exit → Act → World → Prop) {i : Nat} (hi : i < ops.size) (K : Act → World → Prop) (a : Act) (w : World) :
 wpOpIn F n P (kF π inv ops) Q (inv.getD i 0) K a w = wpOpIn F n P ops Q i K a w := by
 have ho : ops[i]? = some ops[i] := dg.2 ⟨hi, rfl⟩
 unfold wpOpIn
 rw [rH D (D.iv i hi) (D.pv i hi) ho, ho]
 simp only [a7d D a.tmps ho, Oper.wpIn, b4y, b6i, c0b]
 rfl
def c2V (inv : List Nat) (n : Nat) (listed listed' : Array Bool) : Prop := listed.size = n ∧ listed'.size = n ∧ ∀ i, i < n → listed.getD i false = listed'.getD (inv.getD i 0) false
theorem xZ (D : Perm π inv ops) {listed listed' : Array Bool} (hc : c2V inv ops.size listed listed') {i : Nat} (hi : i < ops.size) :
 i ∈ Region.ready .any ops listed ↔ inv.getD i 0 ∈ Region.ready .any (kF π inv ops) listed' := by
 have ho : ops[i]? = some ops[i] := dg.2 ⟨hi, rfl⟩
 have ho' := rH D (D.iv i hi) (D.pv i hi) ho
 have hsz := qJ D
 obtain ⟨c1, c2, c3⟩ := hc
 constructor
 ·intro h
  obtain ⟨o, h1, h2, h3⟩ := pF c1 h
  rw [ho] at h1
  obtain rfl := cV h1
  refine a0K (by rw [hsz]; exact c2) ho' (by rw [← c3 i hi]; exact h2) ?_
  intro e he hb
  have he' : e ∈ (ops[i]).after.map (c3T inv) := he
  obtain ⟨e0, he0, rfl⟩ := Array.mem_map.1 he'
  have := h3 e0 he0 hb
  show listed'.getD (inv.getD e0.on 0) false = true
  rw [← c3 _ (D.edge i _ ho e0 he0)]
  exact this
 ·intro h
  obtain ⟨o, h1, h2, h3⟩ := pF (by rw [hsz]; exact c2) h
  rw [ho'] at h1
  obtain rfl := cV h1
  refine a0K c1 ho (by rw [c3 i hi]; exact h2) ?_
  intro e he hb
  have := h3 (c3T inv e) (Array.mem_map.2 ⟨e, he, rfl⟩) hb
  rw [c3 _ (D.edge i _ ho e he)]
  exact this
theorem b7Z (D : Perm π inv ops) (F : Fence) (k : Nat) {Q : Exit → Act → World → Prop} : ∀ (fuel : Nat) (listed listed' : Array Bool) (a : Act) (w : World), c2V inv ops.size listed listed' →
 wpAnyIn F k P .any (kF π inv ops) Q fuel listed' a w → wpAnyIn F k P .any ops Q fuel listed a w := by
 have hsz := qJ D
 have nil1 : ∀ {listed listed' : Array Bool}, c2V inv ops.size listed listed' → (Region.ready .any ops listed = [] ↔ Region.ready .any (kF π inv ops) listed' = []) := by
  intro listed listed' hc
  constructor
  ·intro h
   cases hr : Region.ready .any (kF π inv ops) listed' with
   | nil => rfl
   | cons p r =>
     exfalso
     have hp : p ∈ Region.ready .any (kF π inv ops) listed' := by rw [hr]; exact dJ ..
     obtain ⟨o, h1, _, _⟩ := pF (by rw [hsz]; exact hc.2.1) hp
     have hpn : p < ops.size := by rw [← hsz]; exact (dg.1 h1).1
     have := (xZ D hc (D.pi p hpn)).2 (by rw [D.ip p hpn]; exact hp)
     rw [h] at this
     cases this
  ·intro h
   cases hr : Region.ready .any ops listed with
   | nil => rfl
   | cons i r =>
     exfalso
     have hi : i ∈ Region.ready .any ops listed := by rw [hr]; exact dJ ..
     obtain ⟨o, h1, _, _⟩ := pF hc.1 hi
     have := (xZ D hc (dg.1 h1).1).1 hi
     rw [h] at this
     cases this
 intro fuel
 induction fuel with
 | zero =>
   intro listed listed' a w hc h
   exact ⟨(nil1 hc).2 h.1, h.2⟩
 | succ fuel ih =>
   intro listed listed' a w hc h
   refine ⟨fun hn => h.1 ((nil1 hc).1 hn), fun i hi => ?_⟩
   obtain ⟨o, h1, _, _⟩ := pF hc.1 hi
   have hin := (dg.1 h1).1
   have h2 := h.2 _ ((xZ D hc hin).1 hi)
   rw [b3u D F k Q hin] at h2
   refine wpOpIn_mono (fun a' w' h3 => ih _ _ a' w' ⟨by simpa using hc.1, by simpa using hc.2.1, fun j hj => ?_⟩ h3) h2
   have e1 := tL (listed := listed) (i := i) (by rw [hc.1]; exact hin) j
   have e2 := tL (listed := listed') (i := inv.getD i 0) (by rw [hc.2.1]; exact D.iv i hin) (inv.getD j 0)
   have e3 : (inv.getD j 0 = inv.getD i 0) ↔ j = i := ⟨fun h => by rw [← D.pv j hj, h, D.pv i hin], fun h => by rw [h]⟩
   rw [eG, e1, e2, e3, hc.2.2 j hj]
end
section
variable {P : Program} {H : Heap} {π inv : List Nat} {ops : Array Oper}
theorem Sim.cG (jY : P.follows .mixedOrders = true) {id : Nat} (Dp : Perm π inv ops) {fl : Fl} (D : Draw P fl (kF π inv ops)) {T : Nat → List Value × Heap} {val : Nat → Value} (X : Text P (kF π inv ops) T val)
 (hread : ∀ i m o, (i, m) ∈ mP fl (kF π inv ops) → (kF π inv ops)[i]? = some o → Region.wanted o (iU (kF π inv ops) (T i).1) = true → ∃ H2, opD P o (T i).1 (T m).2 = some (val i, H2)) :
 Sim P (.region id ops true) (T 0).1 (T 0).2 .normal (T ops.size).1 (T ops.size).2 := by
 intro ro k B ρ w a hr hE hl hM hB
 have hsz := qJ Dp
 have := a4S D X hread ro k B hr hE hM
 rw [hsz] at this
 exact wpIn_region_any jY (b7Z Dp (fe ro) k ops.size _ _ a _ ⟨by simp, by simp, fun i hi => by
  have := Dp.iv i hi
  simp only [ee, Array.getElem?_replicate, hi, this, if_true]⟩ this)
theorem a3H (D : Perm π inv ops) (l : List Value) {j : Nat} (hj : j < ops.size) : iU (kF π inv ops) l (inv.getD j 0) = iU ops l j := by
 have ho : ops[j]? = some ops[j] := dg.2 ⟨hj, rfl⟩
 unfold iU
 rw [rH D (D.iv j hj) (D.pv j hj) ho, ho]
 rfl
theorem yR (D : Perm π inv ops) (l : List Value) {i : Nat} {o : Oper} (ho : ops[i]? = some o) : Region.wanted (zA inv o) (iU (kF π inv ops) l) = Region.wanted o (iU ops l) := by
 unfold Region.wanted
 have e : (zA inv o).guard = o.guard.map fun g => (inv.getD g.1 0, g.2) := rfl
 rw [e]
 cases hg : o.guard with
 | none => rfl
 | some g =>
   simp only [dO]
   rw [a3H D l (D.guard i o g ho hg)]
theorem b2p (o : Oper) (l : List Value) (K : Value → Heap → Prop) : mE P (zA inv o) l H K = mE P o l H K := by
 obtain ⟨dst, op, type, pos, after, guard⟩ := o
 rfl
theorem a4F (D : Perm π inv ops) : ∀ (os : List Oper) (tr : List (List Value × Heap × Value)) (l : List Value) (H : Heap) (K : List (List Value × Heap × Value) → List Value → Heap → Prop), (∀ o ∈ os, ∃ i : Nat, ops[i]? = some o) →
 mO P (kF π inv ops) (os.map (zA inv)) tr l H K = mO P ops os tr l H K
 | [], _, _, _, _, _ => rfl
 | o :: os, tr, l, H, K, h => by
   obtain ⟨i, ho⟩ := h o (by simp)
   have ih := fun tr l H => a4F D os tr l H K fun o ho => h o (by simp [ho])
   rw [eE, mO, mO, yR D l ho]
   have e : (zA inv o).dst = o.dst := rfl
   simp only [b2p, e, ih]
def c2a (o : Option Oper) (os : List Oper) : List Oper := match o with | some o => o :: os | none => os
def sel (os : List Oper) : List Nat → List Oper
 | [] => []
 | i :: π => c2a os[i]? (sel os π)
theorem c1d (os : List Oper) : sel os [] = [] := rfl
theorem a8c (os : List Oper) (i : Nat) (π : List Nat) : sel os (i :: π) = c2a os[i]? (sel os π) := rfl
theorem a4L (o : Oper) (os : List Oper) : c2a (some o) os = o :: os := rfl
theorem b0X (os : List Oper) : ∀ (π : List Nat), (∀ i ∈ π, i < os.length) → sel os π = π.map fun i => os.toArray.getD i default
 | [], _ => rfl
 | i :: π, h => by
   have hi := h i (by simp)
   rw [a8c, b0X os π fun j hj => h j (by simp [hj]), dq hi, a4L, eE]
   congr 1
   simp [ee, hi]
def a0o (P : Program) (os : List Oper) (tr : List (List Value × Heap × Value)) (H1 : Heap) (π : List Nat) : List (Nat × Nat) → Prop
 | [] => True
 | (p, m) :: r => rdW P os.toArray (os[π.getD p 0]?) tr[p]? (trH tr[m]? H1) ∧ a0o P os tr H1 π r
theorem b1k (os : List Oper) (tr) (H1 : Heap) (π : List Nat) : a0o P os tr H1 π [] = True := rfl
theorem a8x (os : List Oper) (tr) (H1 : Heap) (π : List Nat) (p m : Nat) (r : List (Nat × Nat)) : a0o P os tr H1 π ((p, m) :: r) = (rdW P os.toArray (os[π.getD p 0]?) tr[p]? (trH tr[m]? H1) ∧ a0o P os tr H1 π r) := rfl
theorem a1X {os : List Oper} {tr} {H1 : Heap} {π : List Nat} : ∀ {tab : List (Nat × Nat)}, a0o P os tr H1 π tab → ∀ x ∈ tab, rdW P os.toArray (os[π.getD x.1 0]?) tr[x.1]? (trH tr[x.2]? H1)
 | [], _, x, hx => by cases hx
 | (i, m) :: r, h, x, hx => by
   rcases dV.1 hx with rfl | hx
   ·exact h.1
   ·exact a1X h.2 x hx
theorem Wp.cg (jY : P.follows .mixedOrders = true) {id : Nat} {os : List Oper} {l : List Value} {Q : nY} (π inv : List Nat) (fl : Fl) (tab : List (Nat × Nat)) (hp : a9V π inv os.toArray = true)
 (htab : a3d P fl (kF π inv os.toArray) = some tab) (hn : vG (kF π inv os.toArray) tab = true)
 (h : mO P os.toArray (sel os π) [] l H fun tr l1 H1 => Q .normal l1 H1 ∧ a0o P os tr H1 π tab) : Wp P (.region id os.toArray true) l H Q := by
 have Dp := b9W hp
 obtain ⟨D, htb⟩ := a3D htab
 have hsz := qJ Dp
 have hmem : ∀ i ∈ π, i < os.length := fun i hi => by
  obtain ⟨p, hpl, hpe⟩ := dL.1 hi
  have := Dp.pi p (by rw [← Dp.len]; exact hpl)
  rw [dc, dq hpl, fg, hpe] at this
  simpa using this
 have hsel : (sel os π).map (zA inv) = (kF π inv os.toArray).toList := by
  rw [b0X os π hmem]
  simp [kF]
 rw [← a4F Dp (sel os π) [] l H _ (fun o ho => by
  rw [b0X os π hmem, dA] at ho
  obtain ⟨i, hi, rfl⟩ := ho
  have := hmem i hi
  exact ⟨i, by simp [ee, this]⟩), hsel] at h
 obtain ⟨T, val, l', H', ext, h0, h1, h2, h3, h4, h5, h6⟩ := vH (kF π inv os.toArray).toList 0 rfl [] l H h
 have hlen : (kF π inv os.toArray).toList.length = os.toArray.size := by rw [fA, hsz]
 rw [hlen] at h1 h2 h3 h4
 have := Sim.cG jY (id := id) Dp D (T := T) (val := val) ⟨fun k hk => by rw [hsz] at hk; simpa using h4 k hk⟩ fun i m o hm ho hw => by
  rw [← htb] at hm
  have hr := a1X h6 (i, m) hm
  have hi : i < os.toArray.size := by rw [← hsz]; exact (dg.1 ho).1
  have hpi := Dp.pi i hi
  have hoo : os.toArray[π.getD i 0]? = some (os.toArray[π.getD i 0]) := dg.2 ⟨hpi, rfl⟩
  have hat := rH (inv := inv) Dp hi rfl hoo
  rw [ho] at hat
  have hat := cV hat
  have hoo' : os[π.getD i 0]? = some (os.toArray[π.getD i 0]) := by rw [← hoo]; simp
  simp only [fj] at hr
  rw [hoo', h3 i hi] at hr
  unfold rdW at hr
  rw [hat, yR Dp _ hoo] at hw
  have hr := hr hw
  have hno : zR o = true := by
   unfold vG at hn
   have := du.1 hn (i, m) hm
   simpa [ho] using this
  have hTm : trH ext[m]? H' = (T m).2 ∨ os.toArray.size < m := by
   unfold trH
   by_cases hm2 : m < os.toArray.size
   ·left; rw [h3 m hm2]
   ·by_cases hm3 : m = os.toArray.size
    ·left
     rw [eo (by omega), hm3, h1]
    ·right; omega
  rcases hTm with hTm | hTm
  ·rw [hTm, ← b2p (inv := inv), ← hat] at hr
   obtain ⟨v, H2, h7, h8⟩ := b2i hno hr
   exact ⟨H2, by rw [h7, h8]⟩
  ·exfalso
   rw [htb] at hm
   have := a3p hm
   rw [hsz] at this
   omega
 rw [h0, h1] at this
 exact ⟨_, _, _, this, h5⟩
end
def RA :=
 And.intro @b8S <| And.intro @b6Q <| And.intro @c0W <| And.intro @c3Q <| And.intro @c3y <| And.intro @b5v <| And.intro @c0F <| And.intro @c2F <| And.intro @c0U <| And.intro @c0N <| And.intro @b7i <| And.intro @a8t <| And.intro @b3U <| And.intro @b4V <| And.intro @b2M <| And.intro @a9H <| And.intro @b1r <| And.intro @a6r <| And.intro @b5I <| And.intro @a9O <| And.intro @b6K <| And.intro @b5e <| And.intro @b4k <| And.intro @b2y <| And.intro @b8Y <| And.intro @b3m <| And.intro @a2e <| And.intro @a3M <| And.intro @b0C <| And.intro @b8i <| And.intro @b3Y <| And.intro @b8Q <| And.intro @a3P <| And.intro @a3F <| And.intro @b5p <| And.intro @c4i <| And.intro @a7a <| And.intro @a7G <| And.intro @b3E <| And.intro @b7U <| And.intro @a6g <| And.intro @b0a <| And.intro @a9e <| And.intro @b0W <| And.intro @a9i <| And.intro @a7c <| And.intro @a3J <| And.intro @a6l <| And.intro @a3h <| And.intro @b2J <| And.intro @c1g <| And.intro @c1c <| And.intro @b5D <| And.intro @a9Y <| And.intro @b3X <| And.intro @b4A <| And.intro @a9g <| And.intro @b0V <| And.intro @a6M <| And.intro @a8I <| And.intro @b5X <| And.intro @b4I <| And.intro @a3y <| And.intro @a9z <| And.intro @a6Q <| And.intro @a3I <| And.intro @a7D <| And.intro @a9w <| And.intro @a6u <| @b5s
def RB :=
 And.intro @c0x <| And.intro @b1c <| And.intro @b0T <| And.intro @b3f <| And.intro @a9A <| And.intro @a6R <| And.intro @a7r <| And.intro @b7H <| And.intro @a6T <| And.intro @a6B <| And.intro @c0d <| And.intro @b2W <| And.intro @b0w <| And.intro @b8X <| And.intro @b9i <| And.intro @c0i <| And.intro @c0w <| And.intro @a9X <| And.intro @a7O <| And.intro @c0p <| And.intro @c3U <| And.intro @b5S <| And.intro @a8v <| And.intro @a8Y <| And.intro @b8H <| And.intro @b9j <| And.intro @b7n <| And.intro @b2U <| And.intro @b2Z <| And.intro @b3G <| And.intro @b3F <| And.intro @b3H <| And.intro @b2O <| And.intro @b3h <| And.intro @b2H <| And.intro @b3r <| And.intro @b4K <| And.intro @b2X <| And.intro @b2T <| And.intro @b7z <| And.intro @b2C <| And.intro @a5N <| And.intro @b4B <| And.intro @b3k <| And.intro @b4e <| And.intro @b4g <| And.intro @b2L <| And.intro @b7K <| And.intro @b5w <| And.intro @b6v <| And.intro @b9B <| And.intro @b8d <| And.intro @a7X <| And.intro @b0I <| And.intro @b1l <| And.intro @b8M <| And.intro @b4Z <| And.intro @a8p <| And.intro @b7V <| And.intro @b5a <| And.intro @b4r <| And.intro @b0N <| And.intro @b7m <| And.intro @b2A <| And.intro @a9c <| And.intro @b2Q <| And.intro @b7G <| And.intro @b0m <| And.intro @b3I <| And.intro @b3w <| And.intro @a9P <| And.intro @b4m <| And.intro @b1h <| And.intro @c1d <| And.intro @a8c <| And.intro @a4L <| And.intro @b1k <| And.intro @a8x <| And.intro @b8R <| And.intro @b6I <| And.intro @b4C <| And.intro @b6z <| And.intro @b6M <| And.intro @b3C <| And.intro @b5z <| And.intro @b3M <| And.intro @a5F <| And.intro @b0r <| And.intro @a8E <| And.intro @a9R <| And.intro @b0L <| And.intro @b6H <| And.intro @b5h <| And.intro @b3n <| And.intro @b8e <| And.intro @a8B <| And.intro @a5x <| And.intro @a8j <| And.intro @a6P <| And.intro @a6W <| And.intro @c5F <| And.intro @c6g <| And.intro @c0M <| And.intro @c0B <| And.intro @b7M <| And.intro @b5m <| And.intro @b5i <| And.intro @a9x <| And.intro @c1e <| And.intro @b5V <| And.intro @b9c <| And.intro @mY <| And.intro @b5Y <| And.intro @sJ <| @c0T
theorem RT :
 (∀ {α : Type} (l : List α), [] ++ l = l) ∧
 (∀ {α : Type} (l : List α), l ++ [] = l) ∧
 (∀ {α : Type} {a : α} {l m : List α}, a :: l ++ m = a :: (l ++ m)) ∧
 (∀ (cs : List Value) (i : Nat) (v : Value) (vs : List Value), iX cs i (v :: vs) = iX (cs.set i v) (i + 1) vs) ∧
 (∀ (cs : List Value) (i : Nat), iX cs i [] = cs) ∧
 (∀ {α : Type} {x : α} {xs : List α} {a : α}, (x :: xs).set 0 a = a :: xs) ∧
 (∀ {α : Type} {x : α} {xs : List α} {i : Nat} {a : α}, (x :: xs).set (i + 1) a = x :: xs.set i a) ∧
 (∀ (n : Nat), 0 + n = n) ∧
 (∀ (n : Nat), n * 1 = n) ∧
 (∀ (n : Nat), n + 0 = n) :=
 ⟨@List.nil_append, @List.append_nil, @List.cons_append, @lD, @pW, @List.set_cons_zero, @List.set_cons_succ, @Nat.zero_add, @Nat.mul_one, @Nat.add_zero⟩
end Go.Ds
namespace Go.Ds
open Go.Proofs Go.Proofs.Tryz
abbrev I (n : Int) : Value := .int .i64 n
theorem sR (H : Heap) : St prog H H [] := .refl ..
theorem jY : prog.follows .mixedOrders = true := by kernel_rfl
theorem tS3 : iE prog 3 = some 1 := by kernel_rfl
theorem b9b : iE prog 26 = some 3 := by kernel_rfl
theorem c2Y : iE prog 27 = some 5 := by kernel_rfl
theorem c4U : iE prog 29 = some 3 := by kernel_rfl
theorem c5b : iE prog 32 = some 1 := by kernel_rfl
theorem c6d : iE prog 33 = some 1 := by kernel_rfl
theorem b9w : iE prog 34 = some 1 := by kernel_rfl
theorem lU : iE prog 36 = some 4 := by kernel_rfl
theorem c6u : iE prog 38 = some 1 := by kernel_rfl
theorem c2E : iE prog 39 = some 1 := by kernel_rfl
theorem nW : iE prog 41 = some 3 := by kernel_rfl
theorem b3o : iE prog 49 = some 1 := by kernel_rfl
theorem qL : iE prog 55 = some 2 := by kernel_rfl
theorem a0D : iE prog 57 = some 2 := by kernel_rfl
theorem a1z : iE prog 59 = some 6 := by kernel_rfl
theorem lN : iE prog 64 = some 2 := by kernel_rfl
theorem zC : iE prog 69 = some 2 := by kernel_rfl
theorem c4u : iE prog 70 = some 1 := by kernel_rfl
theorem yQ : iE prog 72 = some 5 := by kernel_rfl
theorem b1d : iE prog 90 = some 1 := by kernel_rfl
theorem kK : iE prog 104 = some 2 := by kernel_rfl
theorem b1L : iE prog 109 = some 4 := by kernel_rfl
theorem b7f : iE prog 113 = some 9 := by kernel_rfl
theorem wV : iE prog 115 = some 1 := by kernel_rfl
theorem oE : iE prog 117 = some 4 := by kernel_rfl
theorem b5E : iE prog 120 = some 4 := by kernel_rfl
theorem b2c : iE prog 122 = some 4 := by kernel_rfl
theorem uN : iE prog 124 = some 5 := by kernel_rfl
theorem wU : iE prog 153 = some 2 := by kernel_rfl
theorem zK : iE prog 156 = some 3 := by kernel_rfl
theorem b2e : iE prog 192 = some 3 := by kernel_rfl
theorem b7t : iE prog 227 = some 1 := by kernel_rfl
theorem c2m : iT prog 49 = some 1 := by kernel_rfl
theorem nV : lF prog 114 = true ∧ oH prog 9 = true ∧ lF prog 9 = false := ⟨by kernel_rfl, by kernel_rfl, by kernel_rfl⟩
theorem c7W (A i e : Nat) (k : IntKind) (j : Int) (h0 : 0 ≤ j) (h1 : j < 5) : xJ (iT prog 27) prog 27 (ptr A i e) (.int k j) = some (ptr A (i + j.toNat * 1) e) := a5W (n := 5) (elem := 5) (size := 1) (by kernel_rfl) (by kernel_rfl) A i e k j h0 h1
theorem c7C (A i e : Nat) (k : IntKind) (j : Int) (h0 : 0 ≤ j) (h1 : j < 3) : xJ (iT prog 29) prog 29 (ptr A i e) (.int k j) = some (ptr A (i + j.toNat * 1) e) := a5W (n := 3) (elem := 28) (size := 1) (by kernel_rfl) (by kernel_rfl) A i e k j h0 h1
theorem c6t (A i e : Nat) (k : IntKind) (j : Int) (h0 : 0 ≤ j) (h1 : j < 64) : xJ (iT prog 241) prog 241 (ptr A i e) (.int k j) = some (ptr A (i + j.toNat * 1) e) := a5W (n := 64) (elem := 5) (size := 1) (by kernel_rfl) (by kernel_rfl) A i e k j h0 h1
theorem c2j : nK prog 32 = some (6, 80) := by kernel_rfl
theorem c4Y : ((iI prog 32).bind (jB prog)).any jC = true := by kernel_rfl
theorem c3p : nK prog 33 = some (5, 64) := by kernel_rfl
theorem c5u : ((iI prog 33).bind (jB prog)).any jC = true := by kernel_rfl
theorem a9Z : nK prog 34 = some (5, 48) := by kernel_rfl
theorem c0Z : ((iI prog 34).bind (jB prog)).any jC = true := by kernel_rfl
theorem c3h : nK prog 38 = some (1, 8) := by kernel_rfl
theorem c5H : ((iI prog 38).bind (jB prog)).any jC = true := by kernel_rfl
theorem a6q : nK prog 44 = some (2, 16) := by kernel_rfl
theorem c0k : ((iI prog 44).bind (jB prog)).any jC = true := by kernel_rfl
theorem xC : nK prog 49 = some (1, 8) := by kernel_rfl
theorem a1B : ((iI prog 49).bind (jB prog)).any jC = true := by kernel_rfl
theorem a7n : nK prog 52 = some (2, 16) := by kernel_rfl
theorem c4g : ((iI prog 52).bind (jB prog)).any jC = true := by kernel_rfl
theorem c3M : nK prog 70 = some (4, 56) := by kernel_rfl
theorem c6p : ((iI prog 70).bind (jB prog)).any jC = true := by kernel_rfl
theorem qK : nK prog 90 = some (2, 16) := by kernel_rfl
theorem a2Q : ((iI prog 90).bind (jB prog)).any jC = true := by kernel_rfl
theorem b1N : nK prog 114 = some (1, 1) := by kernel_rfl
theorem b1M : ((iI prog 114).bind (jB prog)).any jC = true := by kernel_rfl
theorem qH : nK prog 115 = some (3, 40) := by kernel_rfl
theorem wR : ((iI prog 115).bind (jB prog)).any jC = true := by kernel_rfl
theorem c4I : nK prog 144 = some (1, 16) := by kernel_rfl
theorem c6o : ((iI prog 144).bind (jB prog)).any jC = true := by kernel_rfl
theorem c1y : nK prog 145 = some (2, 16) := by kernel_rfl
theorem c6b : ((iI prog 145).bind (jB prog)).any jC = true := by kernel_rfl
theorem a4t : nK prog 154 = some (2, 16) := by kernel_rfl
theorem a3S : ((iI prog 154).bind (jB prog)).any jC = true := by kernel_rfl
theorem b6P : nK prog 164 = some (3, 40) := by kernel_rfl
theorem b7a : ((iI prog 164).bind (jB prog)).any jC = true := by kernel_rfl
theorem c1W : nK prog 195 = some (2, 16) := by kernel_rfl
theorem c1j : ((iI prog 195).bind (jB prog)).any jC = true := by kernel_rfl
theorem c4V : c3W prog 49 = some (8, .int .i64 0) := by kernel_rfl
theorem c5m (t2 : TypeId) (cx cy : Bool) (a0 : Int) (a1 : Int) (b0 : Int) (b1 : Int) : kU prog .eql 55 t2 cx cy (.agg #[.int .i64 a0, .int .i64 a1]) (.agg #[.int .i64 b0, .int .i64 b1]) = some (.bool (decide (a0 = b0 ∧ a1 = b1))) ∧ kU prog .neq 55 t2 cx cy (.agg #[.int .i64 a0, .int .i64 a1]) (.agg #[.int .i64 b0, .int .i64 b1]) = some (.bool (decide (¬ (a0 = b0 ∧ a1 = b1)))) := by
 have h := zD (P := prog) (t := 55) (t2 := t2) (cx := cx) (cy := cy) (xs := [.int .i64 a0, .int .i64 a1]) (ys := [.int .i64 b0, .int .i64 b1]) (by kernel_rfl) (by kernel_rfl) (by kernel_rfl) (by kernel_rfl) rfl (by kernel_rfl) rfl rfl
 have e : ((List.range [Value.int .i64 a0, .int .i64 a1].length).all fun j => eqC ([Value.int .i64 a0, .int .i64 a1].getD j undef) ([Value.int .i64 b0, .int .i64 b1].getD j undef)) = decide (a0 = b0 ∧ a1 = b1) := by
  show (eqC (Value.int .i64 a0) (.int .i64 b0) && (eqC (Value.int .i64 a1) (.int .i64 b1) && true)) = _
  rw [eG]
  simp [eqC]
 rw [e] at h
 exact ⟨h.1, by rw [h.2]; simp⟩
theorem c6K (t2 : TypeId) (cx cy : Bool) (a0 : Int) (a1 : Int) (b0 : Int) (b1 : Int) : kU prog .eql 55 t2 cx cy (.agg #[.int .i64 a0, .int .i64 a1]) (.agg #[.int .i64 b0, .int .i64 b1]) = some (.bool (decide (a0 = b0 ∧ a1 = b1))) := (c5m t2 cx cy a0 a1 b0 b1).1
theorem c6O (t2 : TypeId) (cx cy : Bool) (a0 : Int) (a1 : Int) (b0 : Int) (b1 : Int) : kU prog .neq 55 t2 cx cy (.agg #[.int .i64 a0, .int .i64 a1]) (.agg #[.int .i64 b0, .int .i64 b1]) = some (.bool (decide (¬ (a0 = b0 ∧ a1 = b1)))) := (c5m t2 cx cy a0 a1 b0 b1).2
theorem c6e (t2 : TypeId) (cx cy : Bool) (a0 : Int) (a1 : Int) (b0 : Int) (b1 : Int) : kU prog .eql 64 t2 cx cy (.agg #[.int .i64 a0, .int .i64 a1]) (.agg #[.int .i64 b0, .int .i64 b1]) = some (.bool (decide (a0 = b0 ∧ a1 = b1))) ∧ kU prog .neq 64 t2 cx cy (.agg #[.int .i64 a0, .int .i64 a1]) (.agg #[.int .i64 b0, .int .i64 b1]) = some (.bool (decide (¬ (a0 = b0 ∧ a1 = b1)))) := by
 have h := zD (P := prog) (t := 64) (t2 := t2) (cx := cx) (cy := cy) (xs := [.int .i64 a0, .int .i64 a1]) (ys := [.int .i64 b0, .int .i64 b1]) (by kernel_rfl) (by kernel_rfl) (by kernel_rfl) (by kernel_rfl) rfl (by kernel_rfl) rfl rfl
 have e : ((List.range [Value.int .i64 a0, .int .i64 a1].length).all fun j => eqC ([Value.int .i64 a0, .int .i64 a1].getD j undef) ([Value.int .i64 b0, .int .i64 b1].getD j undef)) = decide (a0 = b0 ∧ a1 = b1) := by
  show (eqC (Value.int .i64 a0) (.int .i64 b0) && (eqC (Value.int .i64 a1) (.int .i64 b1) && true)) = _
  rw [eG]
  simp [eqC]
 rw [e] at h
 exact ⟨h.1, by rw [h.2]; simp⟩
theorem c5U (t2 : TypeId) (cx cy : Bool) (a0 : Int) (a1 : Int) (b0 : Int) (b1 : Int) : kU prog .eql 64 t2 cx cy (.agg #[.int .i64 a0, .int .i64 a1]) (.agg #[.int .i64 b0, .int .i64 b1]) = some (.bool (decide (a0 = b0 ∧ a1 = b1))) := (c6e t2 cx cy a0 a1 b0 b1).1
theorem c4E (t2 : TypeId) (cx cy : Bool) (a0 : Int) (a1 : Int) (b0 : Int) (b1 : Int) : kU prog .neq 64 t2 cx cy (.agg #[.int .i64 a0, .int .i64 a1]) (.agg #[.int .i64 b0, .int .i64 b1]) = some (.bool (decide (¬ (a0 = b0 ∧ a1 = b1)))) := (c6e t2 cx cy a0 a1 b0 b1).2
theorem c1M (t2 : TypeId) (cx cy : Bool) (a0 : Int) (a1 : Int) (b0 : Int) (b1 : Int) : kU prog .eql 104 t2 cx cy (.agg #[.int .u64 a0, .int .u64 a1]) (.agg #[.int .u64 b0, .int .u64 b1]) = some (.bool (decide (a0 = b0 ∧ a1 = b1))) ∧ kU prog .neq 104 t2 cx cy (.agg #[.int .u64 a0, .int .u64 a1]) (.agg #[.int .u64 b0, .int .u64 b1]) = some (.bool (decide (¬ (a0 = b0 ∧ a1 = b1)))) := by
 have h := zD (P := prog) (t := 104) (t2 := t2) (cx := cx) (cy := cy) (xs := [.int .u64 a0, .int .u64 a1]) (ys := [.int .u64 b0, .int .u64 b1]) (by kernel_rfl) (by kernel_rfl) (by kernel_rfl) (by kernel_rfl) rfl (by kernel_rfl) rfl rfl
 have e : ((List.range [Value.int .u64 a0, .int .u64 a1].length).all fun j => eqC ([Value.int .u64 a0, .int .u64 a1].getD j undef) ([Value.int .u64 b0, .int .u64 b1].getD j undef)) = decide (a0 = b0 ∧ a1 = b1) := by
  show (eqC (Value.int .u64 a0) (.int .u64 b0) && (eqC (Value.int .u64 a1) (.int .u64 b1) && true)) = _
  rw [eG]
  simp [eqC]
 rw [e] at h
 exact ⟨h.1, by rw [h.2]; simp⟩
theorem c3B (t2 : TypeId) (cx cy : Bool) (a0 : Int) (a1 : Int) (b0 : Int) (b1 : Int) : kU prog .eql 104 t2 cx cy (.agg #[.int .u64 a0, .int .u64 a1]) (.agg #[.int .u64 b0, .int .u64 b1]) = some (.bool (decide (a0 = b0 ∧ a1 = b1))) := (c1M t2 cx cy a0 a1 b0 b1).1
theorem c3X (t2 : TypeId) (cx cy : Bool) (a0 : Int) (a1 : Int) (b0 : Int) (b1 : Int) : kU prog .neq 104 t2 cx cy (.agg #[.int .u64 a0, .int .u64 a1]) (.agg #[.int .u64 b0, .int .u64 b1]) = some (.bool (decide (¬ (a0 = b0 ∧ a1 = b1)))) := (c1M t2 cx cy a0 a1 b0 b1).2
theorem c1J (t2 : TypeId) (cx cy : Bool) (a0 : Int) (a1 : Int) (b0 : Int) (b1 : Int) : kU prog .eql 153 t2 cx cy (.agg #[.int .i64 a0, .int .i64 a1]) (.agg #[.int .i64 b0, .int .i64 b1]) = some (.bool (decide (a0 = b0 ∧ a1 = b1))) ∧ kU prog .neq 153 t2 cx cy (.agg #[.int .i64 a0, .int .i64 a1]) (.agg #[.int .i64 b0, .int .i64 b1]) = some (.bool (decide (¬ (a0 = b0 ∧ a1 = b1)))) := by
 have h := zD (P := prog) (t := 153) (t2 := t2) (cx := cx) (cy := cy) (xs := [.int .i64 a0, .int .i64 a1]) (ys := [.int .i64 b0, .int .i64 b1]) (by kernel_rfl) (by kernel_rfl) (by kernel_rfl) (by kernel_rfl) rfl (by kernel_rfl) rfl rfl
 have e : ((List.range [Value.int .i64 a0, .int .i64 a1].length).all fun j => eqC ([Value.int .i64 a0, .int .i64 a1].getD j undef) ([Value.int .i64 b0, .int .i64 b1].getD j undef)) = decide (a0 = b0 ∧ a1 = b1) := by
  show (eqC (Value.int .i64 a0) (.int .i64 b0) && (eqC (Value.int .i64 a1) (.int .i64 b1) && true)) = _
  rw [eG]
  simp [eqC]
 rw [e] at h
 exact ⟨h.1, by rw [h.2]; simp⟩
theorem c2l (t2 : TypeId) (cx cy : Bool) (a0 : Int) (a1 : Int) (b0 : Int) (b1 : Int) : kU prog .eql 153 t2 cx cy (.agg #[.int .i64 a0, .int .i64 a1]) (.agg #[.int .i64 b0, .int .i64 b1]) = some (.bool (decide (a0 = b0 ∧ a1 = b1))) := (c1J t2 cx cy a0 a1 b0 b1).1
theorem c3g (t2 : TypeId) (cx cy : Bool) (a0 : Int) (a1 : Int) (b0 : Int) (b1 : Int) : kU prog .neq 153 t2 cx cy (.agg #[.int .i64 a0, .int .i64 a1]) (.agg #[.int .i64 b0, .int .i64 b1]) = some (.bool (decide (¬ (a0 = b0 ∧ a1 = b1)))) := (c1J t2 cx cy a0 a1 b0 b1).2
theorem b0t {a1 : Int} {a2 : Int} {a3 : Int} : kL prog 29 [(0, .int .u16 a1), (1, .int .u16 a2), (2, .int .u16 a3)] = some (.agg #[.int .u16 a1, .int .u16 a2, .int .u16 a3]) := by kernel_rfl
theorem c3v {a1 : ByteArray} : kL prog 36 [(0, .string a1)] = some (.agg #[.string a1, .slice none 0 0, .slice none 0 0, .slice none 0 0]) := by kernel_rfl
theorem a6m {a1 : ByteArray} {a2 : Value} {a3 : Value} {a4 : Value} (h2 : a2.cells = #[a2] ∧ oneCell a2 = true ∧ qB a2 = true) (h3 : a3.cells = #[a3] ∧ oneCell a3 = true ∧ qB a3 = true) (h4 : a4.cells = #[a4] ∧ oneCell a4 = true ∧ qB a4 = true) : kL prog 36 [(0, .string a1), (1, a2), (2, a3), (3, a4)] = some (.agg #[.string a1, a2, a3, a4]) := by cases a2 <;> cases a3 <;> cases a4 <;> first | (exfalso; simp [oneCell] at h2; done) | (exfalso; simp [oneCell] at h3; done) | (exfalso; simp [oneCell] at h4; done) | kernel_rfl
theorem b7T {a1 : Value} {a2 : Int} (h1 : a1.cells = #[a1] ∧ oneCell a1 = true ∧ qB a1 = true) : kL prog 41 [(0, a1), (1, .int .u64 a2)] = some (.agg #[a1, .int .u64 a2, .int .u64 0]) := by cases a1 <;> first | (exfalso; simp [oneCell] at h1; done) | kernel_rfl
theorem b6S {a1 : Int} {a2 : Int} : kL prog 41 [(1, .int .u64 a1), (2, .int .u64 a2)] = some (.agg #[.slice none 0 0, .int .u64 a1, .int .u64 a2]) := by kernel_rfl
theorem c1S : kL prog 55 [] = some (.agg #[.int .i64 0, .int .i64 0]) := by kernel_rfl
theorem a6N {a1 : Int} {a2 : Int} : kL prog 55 [(0, .int .i64 a1), (1, .int .i64 a2)] = some (.agg #[.int .i64 a1, .int .i64 a2]) := by kernel_rfl
theorem a0b {a1 : Int} {a2 : Int} : kL prog 57 [(0, .int .i64 a1), (1, .int .i64 a2)] = some (.agg #[.int .i64 a1, .int .i64 a2]) := by kernel_rfl
theorem a5C {a1 : ByteArray} {a2 : ByteArray} {a3 : Int} {a4 : Int} {a5 : Int} : kL prog 59 [(0, .string a1), (1, .string a2), (2, .agg #[.int .i64 a3, .int .i64 a4]), (3, .int .i64 a5)] = some (.agg #[.string a1, .string a2, .int .i64 a3, .int .i64 a4, .int .i64 a5, .slice none 0 0]) := by kernel_rfl
theorem a2H {a1 : ByteArray} {a2 : ByteArray} {a3 : Int} {a4 : Int} {a5 : Int} {a6 : Value} (h6 : a6.cells = #[a6] ∧ oneCell a6 = true ∧ qB a6 = true) : kL prog 59 [(0, .string a1), (1, .string a2), (2, .agg #[.int .i64 a3, .int .i64 a4]), (3, .int .i64 a5), (4, a6)] = some (.agg #[.string a1, .string a2, .int .i64 a3, .int .i64 a4, .int .i64 a5, a6]) := by cases a6 <;> first | (exfalso; simp [oneCell] at h6; done) | kernel_rfl
theorem c4t : kL prog 64 [] = some (.agg #[.int .i64 0, .int .i64 0]) := by kernel_rfl
theorem qX {a1 : Int} {a2 : Int} : kL prog 64 [(0, .int .i64 a1), (1, .int .i64 a2)] = some (.agg #[.int .i64 a1, .int .i64 a2]) := by kernel_rfl
theorem c2t {a1 : Int} : kL prog 64 [(1, .int .i64 a1)] = some (.agg #[.int .i64 0, .int .i64 a1]) := by kernel_rfl
theorem a8J {a1 : Int} {a2 : Int} : kL prog 69 [(0, .int .i64 a1), (1, .int .i64 a2)] = some (.agg #[.int .i64 a1, .int .i64 a2]) := by kernel_rfl
theorem b0E {a1 : ByteArray} {a2 : Bool} {a3 : Int} {a4 : Int} : kL prog 72 [(0, .string a1), (1, .bool a2), (2, .agg #[.int .i64 a3, .int .i64 a4])] = some (.agg #[.string a1, .bool a2, .int .i64 a3, .int .i64 a4, .slice none 0 0]) := by kernel_rfl
theorem a2A {a1 : ByteArray} {a2 : Int} {a3 : Int} {a4 : Value} (h4 : a4.cells = #[a4] ∧ oneCell a4 = true ∧ qB a4 = true) : kL prog 72 [(0, .string a1), (2, .agg #[.int .i64 a2, .int .i64 a3]), (3, a4)] = some (.agg #[.string a1, .bool false, .int .i64 a2, .int .i64 a3, a4]) := by cases a4 <;> first | (exfalso; simp [oneCell] at h4; done) | kernel_rfl
theorem b0j : kL prog 104 [] = some (.agg #[.int .u64 0, .int .u64 0]) := by kernel_rfl
theorem b8C {a1 : Int} : kL prog 104 [(0, .int .u64 a1)] = some (.agg #[.int .u64 a1, .int .u64 0]) := by kernel_rfl
theorem a3V {a1 : Int} {a2 : Int} : kL prog 104 [(0, .int .u64 a1), (1, .int .u64 a2)] = some (.agg #[.int .u64 a1, .int .u64 a2]) := by kernel_rfl
theorem b9p {a1 : Int} : kL prog 104 [(1, .int .u64 a1)] = some (.agg #[.int .u64 0, .int .u64 a1]) := by kernel_rfl
theorem b3R {a1 : ByteArray} {a2 : Int} {a3 : Int} : kL prog 117 [(0, .string a1), (1, .agg #[.int .i64 a2, .int .i64 a3])] = some (.agg #[.string a1, .int .i64 a2, .int .i64 a3, .slice none 0 0]) := by kernel_rfl
theorem a7H {a1 : ByteArray} {a2 : Int} {a3 : Int} {a4 : Value} (h4 : a4.cells = #[a4] ∧ oneCell a4 = true ∧ qB a4 = true) : kL prog 117 [(0, .string a1), (1, .agg #[.int .i64 a2, .int .i64 a3]), (2, a4)] = some (.agg #[.string a1, .int .i64 a2, .int .i64 a3, a4]) := by cases a4 <;> first | (exfalso; simp [oneCell] at h4; done) | kernel_rfl
theorem a8k {a1 : ByteArray} {a2 : Int} {a3 : Int} : kL prog 124 [(0, .string a1), (1, .int .i64 a2), (2, .int .i64 a3)] = some (.agg #[.string a1, .int .i64 a2, .int .i64 a3, .int .i64 0, .bool false]) := by kernel_rfl
theorem a1G {a1 : ByteArray} {a2 : Int} {a3 : Int} {a4 : Int} {a5 : Bool} : kL prog 124 [(0, .string a1), (1, .int .i64 a2), (2, .int .i64 a3), (3, .int .i64 a4), (4, .bool a5)] = some (.agg #[.string a1, .int .i64 a2, .int .i64 a3, .int .i64 a4, .bool a5]) := by kernel_rfl
theorem qV {a1 : Int} {a2 : Int} : kL prog 153 [(0, .int .i64 a1), (1, .int .i64 a2)] = some (.agg #[.int .i64 a1, .int .i64 a2]) := by kernel_rfl
theorem c3V : kL prog 156 [] = some (.agg #[.int .i64 0, .int .i64 0, .slice none 0 0]) := by kernel_rfl
theorem lP {a1 : Int} {a2 : Int} {a3 : Value} (h3 : a3.cells = #[a3] ∧ oneCell a3 = true ∧ qB a3 = true) : kL prog 156 [(0, .int .i64 a1), (1, .int .i64 a2), (2, a3)] = some (.agg #[.int .i64 a1, .int .i64 a2, a3]) := by cases a3 <;> first | (exfalso; simp [oneCell] at h3; done) | kernel_rfl
theorem b3D {a1 : Value} {a2 : Int} {a3 : Int} (h1 : a1.cells = #[a1] ∧ oneCell a1 = true ∧ qB a1 = true) : kL prog 192 [(0, a1), (1, .agg #[.int .i64 a2, .int .i64 a3])] = some (.agg #[a1, .int .i64 a2, .int .i64 a3]) := by cases a1 <;> first | (exfalso; simp [oneCell] at h1; done) | kernel_rfl
theorem b3O {a1 : Int} {a2 : Int} : kL prog 215 [(0, .int .u64 a1), (1, .int .u64 a2)] = some (.agg #[.int .u64 a1, .int .u64 a2]) := by kernel_rfl
theorem tR6 (l : List Value) (H : Heap) : iC prog Tryz.f6 l H = some (get l 6) := rfl
theorem c7b (l : List Value) (H : Heap) : iC prog Tryz.f10 l H = some (get l 0) := rfl
theorem b1g (l : List Value) (H : Heap) : iC prog Tryz.f11 l H = some (get l 2) := rfl
theorem c7A (l : List Value) (H : Heap) : iC prog Tryz.f12 l H = oZ (jR prog 36) (iE prog 36) H (get l 2) := by
 show (Option.bind (Option.bind (lO prog H 36 (get l 2)) fun v => some [v]) fun vs => _) = _
 rw [kY]
 cases oZ _ _ H (get l 2) <;> rfl
theorem c8n (l : List Value) (H : Heap) : iC prog Tryz.f13 l H = oZ (jR prog 41) (iE prog 41) H (get l 4) := by
 show (Option.bind (Option.bind (lO prog H 41 (get l 4)) fun v => some [v]) fun vs => _) = _
 rw [kY]
 cases oZ _ _ H (get l 4) <;> rfl
theorem c7r (l : List Value) (H : Heap) : iC prog Tryz.f14 l H = some (get l 4) := rfl
theorem c6m (l : List Value) (H : Heap) : iC prog Tryz.f15 l H = if (jE (get l 6) && (jE (get l 7) && true)) = true then some (.tuple #[get l 6, get l 7]) else none := rfl
theorem c5p (l : List Value) (H : Heap) : iC prog Tryz.f16 l H = if (jE (get l 6) && (jE (get l 7) && true)) = true then some (.tuple #[get l 6, get l 7]) else none := rfl
theorem c7L (l : List Value) (H : Heap) : iC prog Tryz.f17 l H = some (get l 6) := rfl
theorem c8f (l : List Value) (H : Heap) : iC prog Tryz.f18 l H = some (get l 6) := rfl
theorem c2B (l : List Value) (H : Heap) : iC prog Tryz.f19 l H = some (get l 4) := rfl
theorem c8d (l : List Value) (H : Heap) : iC prog Tryz.f22 l H = some (get l 4) := rfl
theorem c7k (l : List Value) (H : Heap) : iC prog Tryz.f23 l H = some (get l 6) := rfl
theorem c4L (l : List Value) (H : Heap) : iC prog Tryz.f28 l H = if (jE (get l 6) && (jE (get l 7) && true)) = true then some (.tuple #[get l 6, get l 7]) else none := rfl
theorem c6j (l : List Value) (H : Heap) : iC prog Tryz.f29 l H = if (jE (get l 8) && (jE (get l 9) && true)) = true then some (.tuple #[get l 8, get l 9]) else none := rfl
theorem b9v (l : List Value) (H : Heap) : iC prog Tryz.f30 l H = some (get l 4) := rfl
theorem c7I (l : List Value) (H : Heap) : iC prog Tryz.f31 l H = if (jE (get l 6) && (jE (get l 7) && true)) = true then some (.tuple #[get l 6, get l 7]) else none := rfl
theorem b2G (l : List Value) (H : Heap) : iC prog Tryz.f33 l H = some (get l 4) := rfl
theorem c0s (l : List Value) (H : Heap) : iC prog Tryz.f34 l H = some (get l 4) := rfl
theorem a3G (l : List Value) (H : Heap) : iC prog Tryz.f36 l H = some (get l 2) := rfl
theorem c6Z (l : List Value) (H : Heap) : iC prog Tryz.f37 l H = oZ (jR prog 36) (iE prog 36) H (get l 0) := by
 show (Option.bind (Option.bind (lO prog H 36 (get l 0)) fun v => some [v]) fun vs => _) = _
 rw [kY]
 cases oZ _ _ H (get l 0) <;> rfl
theorem c7Q (l : List Value) (H : Heap) : iC prog Tryz.f38 l H = some (get l 4) := rfl
theorem c7p (l : List Value) (H : Heap) : iC prog Tryz.f39 l H = (oZ (jR prog 104) (iE prog 104) H (get l 2)).bind fun v => if (jE v && (jE (get l 3) && true)) = true then some (.tuple #[v, get l 3]) else none := by
 show (Option.bind (Option.bind (lO prog H 104 (get l 2)) fun v => some [v, get l 3]) fun vs => _) = _
 rw [kY]
 cases oZ _ _ H (get l 2) <;> rfl
theorem c7M (l : List Value) (H : Heap) : iC prog Tryz.f40 l H = oZ (jR prog 59) (iE prog 59) H (get l 4) := by
 show (Option.bind (Option.bind (lO prog H 59 (get l 4)) fun v => some [v]) fun vs => _) = _
 rw [kY]
 cases oZ _ _ H (get l 4) <;> rfl
theorem b1q (l : List Value) (H : Heap) : iC prog Tryz.f41 l H = oZ (jR prog 117) (iE prog 117) H (get l 8) := by
 show (Option.bind (Option.bind (lO prog H 117 (get l 8)) fun v => some [v]) fun vs => _) = _
 rw [kY]
 cases oZ _ _ H (get l 8) <;> rfl
theorem c5v (l : List Value) (H : Heap) : iC prog Tryz.f42 l H = if (jE (get l 6) && (jE (get l 7) && true)) = true then some (.tuple #[get l 6, get l 7]) else none := rfl
theorem c7l (l : List Value) (H : Heap) : iC prog Tryz.f43 l H = some (get l 4) := rfl
theorem c7Y (l : List Value) (H : Heap) : iC prog Tryz.f44 l H = some (get l 6) := rfl
theorem c7f (l : List Value) (H : Heap) : iC prog Tryz.f45 l H = some (get l 6) := rfl
theorem c6A (l : List Value) (H : Heap) : iC prog Tryz.f47 l H = some (get l 4) := rfl
theorem c3S (l : List Value) (H : Heap) : iC prog Tryz.f48 l H = some (get l 2) := rfl
theorem b6D (l : List Value) (H : Heap) : iC prog Tryz.f49 l H = some (get l 6) := rfl
theorem c7g (l : List Value) (H : Heap) : iC prog Tryz.f50 l H = (oZ (jR prog 104) (iE prog 104) H (get l 2)).bind fun v => if (jE v && (jE (get l 3) && true)) = true then some (.tuple #[v, get l 3]) else none := by
 show (Option.bind (Option.bind (lO prog H 104 (get l 2)) fun v => some [v, get l 3]) fun vs => _) = _
 rw [kY]
 cases oZ _ _ H (get l 2) <;> rfl
theorem c7c (l : List Value) (H : Heap) : iC prog Tryz.f51 l H = some (get l 4) := rfl
theorem c5r (l : List Value) (H : Heap) : iC prog Tryz.f53 l H = if (jE (get l 6) && (jE (get l 7) && true)) = true then some (.tuple #[get l 6, get l 7]) else none := rfl
theorem c4e (l : List Value) (H : Heap) : iC prog Tryz.f54 l H = if (jE (get l 8) && (jE (get l 9) && true)) = true then some (.tuple #[get l 8, get l 9]) else none := rfl
theorem c1b (l : List Value) (H : Heap) : iC prog Tryz.f55 l H = some (get l 4) := rfl
theorem c4O (l : List Value) (H : Heap) : iC prog Tryz.f56 l H = some (get l 2) := rfl
theorem c7v (l : List Value) (H : Heap) : iC prog Tryz.f57 l H = oZ (jR prog 104) (iE prog 104) H (get l 4) := by
 show (Option.bind (Option.bind (lO prog H 104 (get l 4)) fun v => some [v]) fun vs => _) = _
 rw [kY]
 cases oZ _ _ H (get l 4) <;> rfl
theorem c7o (l : List Value) (H : Heap) : iC prog Tryz.f58 l H = some (get l 2) := rfl
theorem c8g (l : List Value) (H : Heap) : iC prog Tryz.f59 l H = some (get l 4) := rfl
theorem b3x (l : List Value) (H : Heap) : iC prog Tryz.f60 l H = some (get l 2) := rfl
theorem a9K (l : List Value) (H : Heap) : iC prog Tryz.f61 l H = some (get l 2) := rfl
theorem c5o (l : List Value) (H : Heap) : iC prog Tryz.f62 l H = some (get l 4) := rfl
theorem b4Y (l : List Value) (H : Heap) : iC prog Tryz.f63 l H = some (get l 4) := rfl
theorem a0k (l : List Value) (H : Heap) : iC prog Tryz.f64 l H = some (get l 4) := rfl
theorem c8q (l : List Value) (H : Heap) : iC prog Tryz.f65 l H = some (get l 6) := rfl
theorem c7B (l : List Value) (H : Heap) : iC prog Tryz.f66 l H = oZ (jR prog 59) (iE prog 59) H (get l 2) := by
 show (Option.bind (Option.bind (lO prog H 59 (get l 2)) fun v => some [v]) fun vs => _) = _
 rw [kY]
 cases oZ _ _ H (get l 2) <;> rfl
theorem c8h (l : List Value) (H : Heap) : iC prog Tryz.f67 l H = some (get l 2) := rfl
theorem c4A (l : List Value) (H : Heap) : iC prog Tryz.f68 l H = oZ (jR prog 104) (iE prog 104) H (get l 4) := by
 show (Option.bind (Option.bind (lO prog H 104 (get l 4)) fun v => some [v]) fun vs => _) = _
 rw [kY]
 cases oZ _ _ H (get l 4) <;> rfl
theorem c8m (l : List Value) (H : Heap) : iC prog Tryz.f69 l H = oZ (jR prog 57) (iE prog 57) H (get l 2) := by
 show (Option.bind (Option.bind (lO prog H 57 (get l 2)) fun v => some [v]) fun vs => _) = _
 rw [kY]
 cases oZ _ _ H (get l 2) <;> rfl
theorem c8w (l : List Value) (H : Heap) : iC prog Tryz.f70 l H = oZ (jR prog 57) (iE prog 57) H (get l 2) := by
 show (Option.bind (Option.bind (lO prog H 57 (get l 2)) fun v => some [v]) fun vs => _) = _
 rw [kY]
 cases oZ _ _ H (get l 2) <;> rfl
theorem c7Z (l : List Value) (H : Heap) : iC prog Tryz.f71 l H = if (jE (get l 4) && (jE (get l 5) && true)) = true then some (.tuple #[get l 4, get l 5]) else none := rfl
theorem c6i (l : List Value) (H : Heap) : iC prog Tryz.f72 l H = some (get l 6) := rfl
theorem c8c (l : List Value) (H : Heap) : iC prog Tryz.f73 l H = some (get l 6) := rfl
theorem c8j (l : List Value) (H : Heap) : iC prog Tryz.f74 l H = some (get l 2) := rfl
theorem c7e (l : List Value) (H : Heap) : iC prog Tryz.f75 l H = some (get l 4) := rfl
theorem c7F (l : List Value) (H : Heap) : iC prog Tryz.f76 l H = some (get l 6) := rfl
theorem c7X (l : List Value) (H : Heap) : iC prog Tryz.f77 l H = some (get l 4) := rfl
theorem c5y (l : List Value) (H : Heap) : iC prog Tryz.f79 l H = some (get l 4) := rfl
theorem b9l (l : List Value) (H : Heap) : iC prog Tryz.f82 l H = some (get l 2) := rfl
theorem c6G (l : List Value) (H : Heap) : iC prog Tryz.f83 l H = oZ (jR prog 104) (iE prog 104) H (get l 2) := by
 show (Option.bind (Option.bind (lO prog H 104 (get l 2)) fun v => some [v]) fun vs => _) = _
 rw [kY]
 cases oZ _ _ H (get l 2) <;> rfl
theorem c6k (l : List Value) (H : Heap) : iC prog Tryz.f86 l H = some (get l 6) := rfl
theorem b5T (l : List Value) (H : Heap) : iC prog Tryz.f87 l H = some (get l 4) := rfl
theorem c7V (l : List Value) (H : Heap) : iC prog Tryz.f88 l H = some (get l 4) := rfl
theorem c6I (l : List Value) (H : Heap) : iC prog Tryz.f89 l H = some (get l 2) := rfl
theorem c7N (l : List Value) (H : Heap) : iC prog Tryz.f90 l H = some (get l 2) := rfl
theorem c7x (l : List Value) (H : Heap) : iC prog Tryz.f91 l H = some (get l 2) := rfl
theorem c8i (l : List Value) (H : Heap) : iC prog Tryz.f92 l H = oZ (jR prog 104) (iE prog 104) H (get l 4) := by
 show (Option.bind (Option.bind (lO prog H 104 (get l 4)) fun v => some [v]) fun vs => _) = _
 rw [kY]
 cases oZ _ _ H (get l 4) <;> rfl
theorem b7O (l : List Value) (H : Heap) : iC prog Tryz.f93 l H = some (get l 2) := rfl
theorem b7Q (l : List Value) (H : Heap) : iC prog Tryz.f94 l H = some (get l 2) := rfl
theorem c6D (l : List Value) (H : Heap) : iC prog Tryz.f95 l H = some (get l 2) := rfl
theorem c6l (l : List Value) (H : Heap) : iC prog Tryz.f96 l H = some (get l 2) := rfl
theorem a1I (l : List Value) (H : Heap) : iC prog Tryz.f97 l H = some (get l 4) := rfl
theorem c7J (l : List Value) (H : Heap) : iC prog Tryz.f98 l H = some (get l 4) := rfl
theorem c7t (l : List Value) (H : Heap) : iC prog Tryz.f99 l H = some (get l 3) := rfl
theorem c1K (l : List Value) (H : Heap) : iC prog Tryz.f100 l H = some (get l 4) := rfl
theorem c5Y (l : List Value) (H : Heap) : iC prog Tryz.f101 l H = some (get l 4) := rfl
theorem b5n (l : List Value) (H : Heap) : iC prog Tryz.f102 l H = some (get l 4) := rfl
theorem c6F (l : List Value) (H : Heap) : iC prog Tryz.f103 l H = some (get l 6) := rfl
theorem c4Z (l : List Value) (H : Heap) : iC prog Tryz.f104 l H = some (get l 6) := rfl
theorem c5Q (l : List Value) (H : Heap) : iC prog Tryz.f105 l H = some (.tuple #[]) := rfl
theorem c1m (l : List Value) (H : Heap) : iC prog Tryz.f106 l H = some (get l 4) := rfl
theorem c1n (l : List Value) (H : Heap) : iC prog Tryz.f118 l H = if (jE (get l 6) && (jE (get l 7) && true)) = true then some (.tuple #[get l 6, get l 7]) else none := rfl
theorem c4W (l : List Value) (H : Heap) : iC prog Tryz.f119 l H = some (get l 4) := rfl
theorem c4N (l : List Value) (H : Heap) : iC prog Tryz.f120 l H = some (get l 4) := rfl
theorem c6a (l : List Value) (H : Heap) : iC prog Tryz.f121 l H = some (.tuple #[]) := rfl
theorem c4H (l : List Value) (H : Heap) : iC prog Tryz.f122 l H = some (get l 2) := rfl
theorem a4K (l : List Value) (H : Heap) : iC prog Tryz.f123 l H = some (get l 2) := rfl
theorem c5j (l : List Value) (H : Heap) : iC prog Tryz.f124 l H = some (get l 4) := rfl
theorem c1P (l : List Value) (H : Heap) : iC prog Tryz.f125 l H = some (get l 2) := rfl
theorem b6F (l : List Value) (H : Heap) : iC prog Tryz.f126 l H = some (get l 2) := rfl
theorem a2p (l : List Value) (H : Heap) : iC prog Tryz.f127 l H = some (get l 4) := rfl
theorem c1h (l : List Value) (H : Heap) : iC prog Tryz.f128 l H = some (get l 4) := rfl
theorem c4K (l : List Value) (H : Heap) : iC prog Tryz.f133 l H = some (get l 6) := rfl
theorem c1H (l : List Value) (H : Heap) : iC prog Tryz.f134 l H = some (.tuple #[]) := rfl
theorem c6q (l : List Value) (H : Heap) : iC prog Tryz.f135 l H = some (get l 4) := rfl
theorem b6q (l : List Value) (H : Heap) : iC prog Tryz.f136 l H = some (get l 2) := rfl
theorem c1R (l : List Value) (H : Heap) : iC prog Tryz.f150 l H = some (get l 2) := rfl
theorem b8a (l : List Value) (H : Heap) : iC prog Tryz.f151 l H = some (get l 4) := rfl
theorem c6f (l : List Value) (H : Heap) : iC prog Tryz.f152 l H = some (get l 4) := rfl
theorem c1C (l : List Value) (H : Heap) : iC prog Tryz.f153 l H = some (get l 2) := rfl
theorem c1t (l : List Value) (H : Heap) : iC prog Tryz.f154 l H = some (get l 4) := rfl
theorem c5n (l : List Value) (H : Heap) : iC prog Tryz.f155 l H = some (get l 4) := rfl
theorem c1B (l : List Value) (H : Heap) : iC prog Tryz.f165 l H = oZ (jR prog 156) (iE prog 156) H (get l 4) := by
 show (Option.bind (Option.bind (lO prog H 156 (get l 4)) fun v => some [v]) fun vs => _) = _
 rw [kY]
 cases oZ _ _ H (get l 4) <;> rfl
theorem b2a (l : List Value) (H : Heap) : iC prog Tryz.f166 l H = (oZ (jR prog 55) (iE prog 55) H (get l 6)).bind fun v => if (jE v && (jE (get l 7) && true)) = true then some (.tuple #[v, get l 7]) else none := by
 show (Option.bind (Option.bind (lO prog H 55 (get l 6)) fun v => some [v, get l 7]) fun vs => _) = _
 rw [kY]
 cases oZ _ _ H (get l 6) <;> rfl
theorem c6s (l : List Value) (H : Heap) : iC prog Tryz.f167 l H = some (get l 2) := rfl
theorem c5k (l : List Value) (H : Heap) : iC prog Tryz.f172 l H = some (get l 2) := rfl
theorem c1I (l : List Value) (H : Heap) : iC prog Tryz.f173 l H = some (get l 4) := rfl
theorem c1N (l : List Value) (H : Heap) : iC prog Tryz.f185 l H = some (get l 4) := rfl
theorem c1G (l : List Value) (H : Heap) : iC prog Tryz.f186 l H = some (get l 3) := rfl
theorem c4Q (l : List Value) (H : Heap) : iC prog Tryz.f187 l H = some (get l 4) := rfl
theorem a7e : MapK prog 147 Value.string (.bool false) := MapK.str (kt := 9) (et := 4) (by kernel_rfl) (by kernel_rfl) (by kernel_rfl) rfl
theorem a7w : MapK prog 227 (fun p : Int × Int => .agg #[I p.1, I p.2]) (.bool false) := MapK.struct (kt := 64) (et := 4) (fs := (a0n prog 64).toArray) (by kernel_rfl) (by kernel_rfl) (by kernel_rfl) rfl (fun b k => by cases b <;> kernel_rfl) (fun a b => c3t (by kernel_rfl) (by kernel_rfl) (by kernel_rfl) (fun _ _ _ _ => by kernel_rfl) a b) (fun k => c3G k)
theorem tt0 : jR prog 3 = some false ∧ jR prog 4 = some false ∧ iE prog 4 = some 1 ∧ jR prog 5 = some false ∧ iE prog 5 = some 1 ∧ jR prog 9 = some false ∧ iE prog 9 = some 1 ∧ jR prog 22 = some false ∧ iE prog 22 = some 1 ∧ jR prog 23 = some false ∧ iE prog 23 = some 1 ∧ jR prog 24 = some false ∧ iE prog 24 = some 1 ∧ jR prog 26 = some true ∧ jR prog 27 = some true ∧ jR prog 28 = some false ∧ iE prog 28 = some 1 ∧ jR prog 29 = some true ∧ jR prog 32 = some false ∧ jR prog 33 = some false ∧ jR prog 34 = some false ∧ jR prog 36 = some true ∧ jR prog 38 = some false ∧ jR prog 39 = some false ∧ jR prog 41 = some true ∧ jR prog 44 = some false ∧ iE prog 44 = some 1 ∧ jR prog 49 = some false ∧ jR prog 55 = some true ∧ jR prog 57 = some true ∧ jR prog 59 = some true ∧ jR prog 64 = some true ∧ jR prog 69 = some true ∧ jR prog 70 = some false ∧ jR prog 72 = some true ∧ jR prog 90 = some false ∧ jR prog 104 = some true ∧ jR prog 107 = some false ∧ iE prog 107 = some 1 ∧ jR prog 109 = some true := by and_intros <;> kernel_rfl
theorem tt1 : jR prog 111 = some false ∧ iE prog 111 = some 1 ∧ jR prog 113 = some true ∧ jR prog 115 = some false ∧ jR prog 117 = some true ∧ jR prog 120 = some true ∧ jR prog 122 = some true ∧ jR prog 124 = some true ∧ jR prog 153 = some true ∧ jR prog 154 = some false ∧ iE prog 154 = some 1 ∧ jR prog 156 = some true ∧ jR prog 192 = some true ∧ jR prog 227 = some false ∧ iT prog 22 = some 9 ∧ iT prog 23 = some 4 ∧ iT prog 24 = some 4 ∧ iT prog 32 = some 6 ∧ iT prog 33 = some 5 ∧ iT prog 34 = some 5 ∧ iT prog 38 = some 1 ∧ iT prog 44 = some 2 ∧ iT prog 52 = some 2 ∧ iT prog 70 = some 4 ∧ iT prog 78 = some 1 ∧ iT prog 90 = some 2 ∧ iT prog 107 = some 4 ∧ iT prog 114 = some 1 ∧ iT prog 115 = some 3 ∧ iT prog 144 = some 1 ∧ iT prog 145 = some 2 ∧ iT prog 154 = some 2 ∧ iT prog 164 = some 3 ∧ iT prog 195 = some 2 ∧ lV prog 32 = true ∧ lV prog 33 = true ∧ lV prog 34 = true ∧ lV prog 38 = true ∧ lV prog 44 = true ∧ lV prog 49 = true := by and_intros <;> kernel_rfl
theorem tt2 : lV prog 52 = true ∧ lV prog 70 = true ∧ lV prog 90 = true ∧ lV prog 114 = true ∧ lV prog 115 = true ∧ lV prog 144 = true ∧ lV prog 145 = true ∧ lV prog 154 = true ∧ lV prog 164 = true ∧ lV prog 195 = true ∧ iT prog 9 = none ∧ oH prog 9 = true ∧ iW prog 26 0 = some 0 ∧ iW prog 26 1 = some 1 ∧ iW prog 26 2 = some 2 ∧ iW prog 36 0 = some 0 ∧ iW prog 36 1 = some 1 ∧ iW prog 36 2 = some 2 ∧ iW prog 36 3 = some 3 ∧ iW prog 41 0 = some 0 ∧ iW prog 41 1 = some 1 ∧ iW prog 41 2 = some 2 ∧ iW prog 55 0 = some 0 ∧ iW prog 55 1 = some 1 ∧ iW prog 57 0 = some 0 ∧ iW prog 57 1 = some 1 ∧ iW prog 59 0 = some 0 ∧ iW prog 59 1 = some 1 ∧ iW prog 59 2 = some 2 ∧ iW prog 59 3 = some 4 ∧ iW prog 59 4 = some 5 ∧ iW prog 64 0 = some 0 ∧ iW prog 64 1 = some 1 ∧ iW prog 69 0 = some 0 ∧ iW prog 69 1 = some 1 ∧ iW prog 72 0 = some 0 ∧ iW prog 72 2 = some 2 ∧ iW prog 72 3 = some 4 ∧ iW prog 104 0 = some 0 ∧ iW prog 104 1 = some 1 := by and_intros <;> kernel_rfl
theorem tt3 : iW prog 109 0 = some 0 ∧ iW prog 109 1 = some 1 ∧ iW prog 109 2 = some 2 ∧ iW prog 109 3 = some 3 ∧ iW prog 113 0 = some 0 ∧ iW prog 113 1 = some 1 ∧ iW prog 113 2 = some 2 ∧ iW prog 113 3 = some 3 ∧ iW prog 113 4 = some 4 ∧ iW prog 117 0 = some 0 ∧ iW prog 117 1 = some 1 ∧ iW prog 117 2 = some 3 ∧ iW prog 120 0 = some 0 ∧ iW prog 120 1 = some 1 ∧ iW prog 120 2 = some 2 ∧ iW prog 120 3 = some 3 ∧ iW prog 122 0 = some 0 ∧ iW prog 122 1 = some 1 ∧ iW prog 122 2 = some 2 ∧ iW prog 122 3 = some 3 ∧ iW prog 124 0 = some 0 ∧ iW prog 124 1 = some 1 ∧ iW prog 124 2 = some 2 ∧ iW prog 124 3 = some 3 ∧ iW prog 124 4 = some 4 ∧ iW prog 153 0 = some 0 ∧ iW prog 153 1 = some 1 ∧ iW prog 156 0 = some 0 ∧ iW prog 156 1 = some 1 ∧ iW prog 156 2 = some 2 ∧ iW prog 192 0 = some 0 ∧ iW prog 192 1 = some 1 ∧ jB prog 36 = some (.agg #[.string ⟨#[]⟩, .slice none 0 0, .slice none 0 0, .slice none 0 0]) ∧ jT prog 36 = none ∧ jB prog 41 = some (.agg #[.slice none 0 0, .int .u64 0, .int .u64 0]) ∧ jT prog 41 = none ∧ jB prog 55 = some (.agg #[.int .i64 0, .int .i64 0]) ∧ jT prog 55 = none ∧ jB prog 57 = some (.agg #[.int .i64 0, .int .i64 0]) ∧ jT prog 57 = none := by and_intros <;> kernel_rfl
theorem tt4 : jB prog 59 = some (.agg #[.string ⟨#[]⟩, .string ⟨#[]⟩, .int .i64 0, .int .i64 0, .int .i64 0, .slice none 0 0]) ∧ jT prog 59 = none ∧ jB prog 64 = some (.agg #[.int .i64 0, .int .i64 0]) ∧ jT prog 64 = none ∧ jB prog 69 = some (.agg #[.int .i64 0, .int .i64 0]) ∧ jT prog 69 = none ∧ jB prog 72 = some (.agg #[.string ⟨#[]⟩, .bool false, .int .i64 0, .int .i64 0, .slice none 0 0]) ∧ jT prog 72 = none ∧ jB prog 90 = some (.slice none 0 0) ∧ jT prog 90 = none ∧ jB prog 104 = some (.agg #[.int .u64 0, .int .u64 0]) ∧ jT prog 104 = none ∧ jB prog 109 = some (.agg #[.int .u8 0, .int .u8 0, .bool false, .slice none 0 0]) ∧ jT prog 109 = none ∧ jB prog 117 = some (.agg #[.string ⟨#[]⟩, .int .i64 0, .int .i64 0, .slice none 0 0]) ∧ jT prog 117 = none ∧ jB prog 122 = some (.agg #[.int .u8 0, .int .u8 0, .int .i8 0, .bool false]) ∧ jT prog 122 = none ∧ jB prog 124 = some (.agg #[.string ⟨#[]⟩, .int .i64 0, .int .i64 0, .int .i64 0, .bool false]) ∧ jT prog 124 = none ∧ jB prog 153 = some (.agg #[.int .i64 0, .int .i64 0]) ∧ jT prog 153 = none ∧ jB prog 156 = some (.agg #[.int .i64 0, .int .i64 0, .slice none 0 0]) ∧ jT prog 156 = none ∧ jB prog 227 = some (.map none) ∧ jT prog 227 = none ∧ a0Q prog 3 = some .i64 ∧ a0Q prog 5 = some .u8 ∧ a0Q prog 28 = some .u16 ∧ a0Q prog 39 = some .u64 ∧ a0Q prog 111 = some .i8 ∧ a0Q prog 125 = some .u64 := by and_intros <;> kernel_rfl
def TS := (And.intro (And.intro (And.intro (And.intro (And.intro @tt0 (And.intro @tt1 @tt2)) (And.intro @tt3 (And.intro @tt4 @tS3))) (And.intro (And.intro @b9b (And.intro @c2Y @c4U)) (And.intro @c5b (And.intro @c6d @b9w)))) (And.intro (And.intro (And.intro @lU (And.intro @c6u @c2E)) (And.intro @nW (And.intro @b3o @qL))) (And.intro (And.intro @a0D (And.intro @a1z @lN)) (And.intro @zC (And.intro @c4u @yQ))))) (And.intro (And.intro (And.intro (And.intro @b1d (And.intro @kK @b1L)) (And.intro @b7f (And.intro @wV @oE))) (And.intro (And.intro @b5E (And.intro @b2c @uN)) (And.intro @wU (And.intro @zK @b2e)))) (And.intro (And.intro (And.intro @b7t (And.intro @c2m @c7W)) (And.intro @c7C (And.intro @c6t @c6K))) (And.intro (And.intro @c6O (And.intro @c5U @c4E)) (And.intro (And.intro @c3B @c3X) (And.intro @c2l @c3g))))))
def RZ := And.intro @RB (And.intro @RC @TS)
end Go.Ds
