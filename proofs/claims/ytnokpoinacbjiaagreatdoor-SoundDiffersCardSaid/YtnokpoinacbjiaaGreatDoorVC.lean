/-
  A part of the proof of SoundDiffers.
-/
import Derived.Test.YtnokpoinacbjiaaGreatDoorVA
import Derived.Test.YtnokpoinacbjiaaGreatDoorVB
import Derived.Test.YtnokpoinacbjiaaGreatDoorProg
import Derived.KernelRfl
import Derived.Lib.LaidTab
import Derived.Stop.LaidErr
import Derived.Laws.Strings
set_option linter.unusedVariables false
set_option linter.unusedSimpArgs false
set_option linter.defProp false
set_option linter.unusedSectionVars false
namespace Go.Ds
noncomputable section
inductive Pth where
 | z
 | l (p : Pth)
 | r (p : Pth)
inductive Fr where
 | e
 | n (v : Value) (l r : Fr)
def a4U : Nat → Nat → Pth := fun f => Nat.rec (motive := fun _ => Nat → Pth) (fun _ => .z) (fun _ ih k => Nat.rec (motive := fun _ => Pth) .z (fun k _ => Bool.rec (motive := fun _ => Pth) (.r (ih (Nat.div k 2))) (.l (ih (Nat.div k 2))) (Nat.beq (Nat.mod k 2) 0)) k) f
def kQ (k : Nat) : Pth := a4U k k
def nS (p : Pth) : Fr → Value := Pth.rec (motive := fun _ => Fr → Value)
 (fun f => Fr.rec (motive := fun _ => Value) undef (fun v _ _ _ _ => v) f)
 (fun _ ih f => Fr.rec (motive := fun _ => Value) undef (fun _ l _ _ _ => ih l) f)
 (fun _ ih f => Fr.rec (motive := fun _ => Value) undef (fun _ _ r _ _ => ih r) f) p
def pO {α : Type} (v : Value) (p : Pth) : Fr → (Fr → α) → α := Pth.rec (motive := fun _ => Fr → (Fr → α) → α)
 (fun f K => Fr.rec (motive := fun _ => α) (K (.n v .e .e)) (fun _ l r _ _ => K (.n v l r)) f)
 (fun _ ih f K => Fr.rec (motive := fun _ => α) (ih .e fun l => K (.n undef l .e)) (fun w l r _ _ => ih l fun l => K (.n w l r)) f)
 (fun _ ih f K => Fr.rec (motive := fun _ => α) (ih .e fun r => K (.n undef .e r)) (fun w l r _ _ => ih r fun r => K (.n w l r)) f) p
def lM {α : Type} (p : Pth) : (Pth → α) → α := Pth.rec (motive := fun _ => (Pth → α) → α) (fun K => K .z) (fun _ ih K => ih fun p => K (.l p)) (fun _ ih K => ih fun p => K (.r p)) p
inductive LArg where
 | t (p : Pth)
 | c (v : Value)
def mH (f : Fr) (x : LArg) : Value := LArg.rec (motive := fun _ => Value) (fun p => nS p f) (fun v => v) x
inductive Rs where
 | no
 | ok (v : Value) (H : Heap)
 | th (v : Value) (H : Heap)
def oG {α : Type} (v : Value) (K : Value → α) : α :=
 match v with
 | .bool b => K (.bool b)
 | .int k n => K (.int k n)
 | .string s => K (.string s)
 | .pointer a => K (.pointer a)
 | .slice a n c => K (.slice a n c)
 | .map r => K (.map r)
 | .func fn a b => K (.func fn a b)
 | .agg cs => K (.agg cs)
 | .tuple vs => K (.tuple vs)
 | v => K v
inductive LOp where
 | bad
 | mv (x : LArg)
 | pick (c a b : LArg)
 | bin (g : IntKind → Int → Int → Option Value) (x y : LArg)
 | not (x : LArg)
 | ld1 (x : LArg)
 | ldn (n : Nat) (x : LArg)
 | st (n : Nat) (x y : LArg)
 | fa (off : Nat) (x : LArg)
 | ixs (size : Nat) (x i : LArg)
 | ixa (n size : Nat) (x i : LArg)
 | ext (i : Nat) (x : LArg)
 | f1 (off : Nat) (x : LArg)
 | fn (off n : Nat) (x : LArg)
 | len (x : LArg)
 | slen (x : LArg)
 | app (elem size bytes : Nat) (x y : LArg)
 | alloc (t : TypeId) (cs : List Value)
 | callF (f : FuncId) (p : Pth) (args : List LArg)
 | callV (g : LArg) (args : List LArg)
 | gen (o : Oper)
inductive LOps where
 | nil
 | cons (d : Option Pth) (o : LOp) (rest : LOps)
 | gcons (p : Pth) (w : Bool) (d : Option Pth) (o : LOp) (rest : LOps)
inductive LCode where
 | bad
 | skip
 | reg (ops : LOps)
 | drw (ops : LOps) (tab : List (Nat × Option Nat × Option (Pth × Bool) × LOp))
 | seq (a b : LCode)
 | cond (c : LArg) (x y : LCode)
 | block (id : Nat) (b : LCode)
 | loop (b : LCode)
 | exit (id : Nat)
 | ret
 | range (g : LArg) (ps : List Pth) (pp : List Pth) (params : Array Tmp) (assign body : Code) (a b : LCode)
inductive LRes where
 | t (p : Pth)
 | c1 (p : Pth)
 | cn (n : Nat) (p : Pth)
structure LFunc where
 ps : List Pth
 body : LCode
 res : List LRes
inductive LT where
 | e
 | n (g : Option LFunc) (l r : LT)
def a2B (p : Pth) : LT → Option LFunc := Pth.rec (motive := fun _ => LT → Option LFunc)
 (fun f => LT.rec (motive := fun _ => Option LFunc) none (fun v _ _ _ _ => v) f)
 (fun _ ih f => LT.rec (motive := fun _ => Option LFunc) none (fun _ l _ _ _ => ih l) f)
 (fun _ ih f => LT.rec (motive := fun _ => Option LFunc) none (fun _ _ r _ _ => ih r) f) p
def rP {α : Type} (v : LFunc) (p : Pth) : LT → (LT → α) → α := Pth.rec (motive := fun _ => LT → (LT → α) → α)
 (fun f K => LT.rec (motive := fun _ => α) (K (.n (some v) .e .e)) (fun _ l r _ _ => K (.n (some v) l r)) f)
 (fun _ ih f K => LT.rec (motive := fun _ => α) (ih .e fun l => K (.n none l .e)) (fun w l r _ _ => ih l fun l => K (.n w l r)) f)
 (fun _ ih f K => LT.rec (motive := fun _ => α) (ih .e fun r => K (.n none .e r)) (fun w l r _ _ => ih r fun r => K (.n w l r)) f) p
structure LEnv where
 L : Nat
 ps : List Pth
 pp : List Pth
 a : LCode
 b : LCode
def b7G (P : Program) (o : Oper) (ρ : Operand → Value) (H : Heap) : Option (Value × Heap) :=
 if o.op.operands.toList.all (fun x => flat (ρ x)) then
  match iK P (execOp ρ o) with
  | some (.value v) => if flat v then some (v, H) else none
  | _ => none
 else none
def c2j (P : Program) (o : Oper) (ρ : Operand → Value) (H : Heap) : Option (Value × Heap) :=
 let keep (v : Option Value) : Option (Value × Heap) := v.map fun v => (v, H)
 let plain : Option (Value × Heap) := b7G P o ρ H
 match o.op with
 | .move x | .assign x => some (ρ x, H)
 | .pick c a b => match ρ c with | .bool t => some (if t then ρ a else ρ b, H) | _ => none
 | .alloc t => (iZ P t).bind fun z => if jA z then qS P H t z else none
 | .box t x => wQ P H t (ρ x)
 | .build t parts =>
   let ps := parts.toList.map fun (i, x) => (i, ρ x)
   if (iZ P t).any jA && ps.all (fun x => x.2.cells.toList.all oneCell) then
    (P.built t ps).map fun cs => (.agg cs, H)
   else none
 | .buildSlice t len parts =>
   (iJ P t).bind fun elem => (iD P elem).bind fun size => (iZ P elem).bind fun z =>
   let ps := parts.toList.map fun (i, x) => (i, ρ x)
   if len == 0 && ps.isEmpty && size != 0 then some (.slice (some ⟨H.length, 0, some 0⟩) 0 size, rJ H elem []) else
   if jA z && ps.all (fun x => x.2.cells.toList.all oneCell) && len * size ≤ 2 ^ 24 && len * size != 0 && z.cells.size == size then
    (Instr.fill (fun i => some (i * size, size)) ((Array.range (len * size)).map (z.cells[· % z.cells.size]!)) ps).map fun cs =>
      (.slice (some ⟨H.length, 0, some cs.toList.length⟩) len size, rJ H elem cs.toList)
   else none
 | .makeSlice t n c =>
   (iJ P t).bind fun elem => (iD P elem).bind fun size => (nJ P elem).bind fun bytes => (iZ P elem).bind fun z =>
   match ρ n, ρ c with
   | .int .i64 a, .int .i64 b =>
     if jA z && decide (a ≤ b) && 0 ≤ a && b * (bytes + 1) ≤ (oN : Int) && size != 0 && z.cells.size == size then
      let cs := if size = 1 then List.replicate b.toNat (z.cells[0]!) else (madeCells z.cells (b.toNat * size)).toList
      some (.slice (some ⟨H.length, 0, some cs.length⟩) a.toNat size, rJ H elem cs)
     else none
   | _, _ => none
 | .load t a => keep (lO P H t (ρ a))
 | .store t a x => (qR P H t (ρ a) (ρ x)).map fun H => (undef, H)
 | .nilCheck x => match ρ x with
   | .pointer (some a) => some (.pointer (some a), H)
   | .func (.func f) a b => some (.func (.func f) a b, H)
   | _ => none
 | .fieldAddr s x f => match ρ x with
   | .pointer (some ⟨A, i, some e⟩) => (oA P s f).bind fun fd => (iD P fd.type).bind fun n => if n == 0 then none else some (.pointer (some ⟨A, i + fd.offset, some e⟩), H)
   | _ => none
 | .indexAddr t x ix => match P.underlying t, ρ x, ρ ix with
   | some (.slice elem), .slice (some ⟨A, i, some e⟩) n _, .int _ j => (iD P elem).bind fun size =>
     if 0 ≤ j && j < n then some (.pointer (some ⟨A, i + j.toNat * size, some e⟩), H) else none
   | some (.array n elem), .pointer (some ⟨A, i, some e⟩), .int _ j => (iD P elem).bind fun size =>
     if 0 ≤ j && j < n then some (.pointer (some ⟨A, i + j.toNat * size, some e⟩), H) else none
   | some (.array n elem), .pointer (some ⟨A, i, none⟩), .int _ j => (iD P elem).bind fun size =>
     if 0 ≤ j && j < n then some (.pointer (some ⟨A, i + j.toNat * size, none⟩), H) else none
   | _, _, _ => none
 | .slice t x lo hi none => if flat (ρ x) then plain else match jR P t with
   | some (n, elem) => keep (a5k P H n elem (ρ x) (lo.map ρ) (hi.map ρ))
   | none => keep (xC P t (ρ x) (lo.map ρ) (hi.map ρ))
 | .field t x f => if flat (ρ x) then plain else
   match ρ x with
   | .agg cs => (oA P t f).bind fun fd => match jQ P fd.type with
     | some true => (iD P fd.type).map fun n => (.agg (cs.extract fd.offset (fd.offset + n)), H)
     | some false => (cs[fd.offset]?).map fun v => (v, H)
     | none => none
   | _ => none
 | .extract t i => match ρ t with
   | .tuple vs => (vs[i]?).map fun v => (v, H)
   | _ => none
 | .makeFunc fn first captured => match fn with
   | .func f => if (first ++ captured).toList.all (fun x => pC (ρ x)) then some (.func (.func f) (first.map ρ) (captured.map ρ), H) else none
   | _ => none
 | .binOp op t x y _ => match op, ρ x, ρ y with
   | .eql, .slice (some _) _ _, .slice none 0 0 => if ((P.underlying t).map vH) == some true then some (.bool false, H) else none
   | .neq, .slice (some _) _ _, .slice none 0 0 => if ((P.underlying t).map vH) == some true then some (.bool true, H) else none
   | op, .int k a, .int k' b => if k = k' then (match mG op k a b with | some v => some (v, H) | none => plain) else plain
   | .eql, .pointer (some _), .pointer none => if tJ P t then some (.bool false, H) else none
   | .neq, .pointer (some _), .pointer none => if tJ P t then some (.bool true, H) else none
   | .eql, .pointer (some ⟨A, i, some e⟩), .pointer (some ⟨A', i', some e'⟩) => if tJ P t && A == A' && i == i' && e == e' then some (.bool true, H) else none
   | .neq, .pointer (some ⟨A, i, some e⟩), .pointer (some ⟨A', i', some e'⟩) => if tJ P t && A == A' && i == i' && e == e' then some (.bool false, H) else none
   | _, _, _ => plain
 | .call c => match c.callee with
   | .builtin .len => if c.args.size == 1 && c.argTypes.size == 1 then
      match (P.underlying (c.argTypes.getD 0 0)), ρ (c.args.getD 0 (.tmp 0)) with
      | some (.slice _), .slice a n k => keep (wT H (.slice a n k))
      | some .string, .string s => keep (wT H (.string s))
      | some (.map _ _), .map r => keep (wT H (.map r))
      | _, _ => none
     else none
   | .builtin .append => if c.args.size == 2 && c.argTypes.size == 2 && ((P.underlying (c.argTypes.getD 1 0)).map pM) == some true then
      nD P H (c.argTypes.getD 0 0) (ρ (c.args.getD 0 (.tmp 0))) (ρ (c.args.getD 1 (.tmp 0)))
     else none
   | .builtin .copy => if c.args.size == 2 && c.argTypes.size == 2 then a0v P H (c.argTypes.getD 0 0) (ρ (c.args.getD 0 (.tmp 0))) (ρ (c.args.getD 1 (.tmp 0))) else none
   | .builtin .clear => if c.args.size == 1 && c.argTypes.size == 1 then sT P H (c.argTypes.getD 0 0) (ρ (c.args.getD 0 (.tmp 0))) else none
   | .builtin .cap => plain
   | .builtin .unsafeSliceData => if c.args.size == 1 && c.argTypes.size == 1 then match ρ (c.args.getD 0 (.tmp 0)) with
      | .slice (some a) n _ => if n == 0 then none else some (.pointer (some a), H)
      | _ => none
     else none
   | .builtin .unsafeString => if c.args.size == 2 && c.argTypes.size == 2 then vL P H (c.argTypes.getD 0 0) (ρ (c.args.getD 0 (.tmp 0))) (ρ (c.args.getD 1 (.tmp 0))) else none
   | .builtin .max => plain
   | .builtin .min => plain
   | _ => none
 | .unOp op _ x => match op, ρ x with
   | .not, .bool b => some (.bool (!b), H)
   | _, _ => plain
 | .makeMap t r => pI P H t (r.map ρ)
 | .lookup t x k c => keep (pA P H t (ρ x) (ρ k) c)
 | .mapUpdate t m k v => (a0Q P H t (ρ m) (ρ k) (ρ v)).map fun H => (undef, H)
 | .mapEntry t m k => sL P H t (ρ m) (ρ k)
 | .entryStore _ m b v => (rG H (ρ m) (ρ b) (ρ v)).map fun H => (undef, H)
 | .convert s t x => if flat (ρ x) && !(lA P t) then plain else match ρ x with
   | .slice (some ⟨A, i, some e⟩) n _ => if lA P s && oI P t then keep ((jB H A i e n).bind fun l => (mY l).map .string) else none
   | .string b => if lA P t && oI P s && b.size ≤ 2 ^ 40 then (iJ P t).bind fun elem => some (.slice (some ⟨H.length, 0, some b.size⟩) b.size 1, b5t H elem (b.data.toList.map fun c => .int .u8 c.toNat)) else none
   | .pointer (some ⟨A, 0, some e⟩) => if a3K P H s t A e then some (.pointer (some ⟨A, 0, some e⟩), H) else none
   | _ => none
 | .index _ _ _ => plain
 | .makeInterface _ _ => plain
 | _ => none
def nP {α : Type} (b : Bool) (no : α) (x : α) : α := Bool.rec (motive := fun _ => α) no x b
def a7I {α : Type} (cs : List α) : Nat → Bool := List.rec (motive := fun _ => Nat → Bool) (fun e => Nat.beq e 0) (fun _ _ ih e => Nat.rec (motive := fun _ => Bool) true (fun m _ => ih m) e) cs
def a3h {α : Type} (cs : List α) : Nat → Bool := List.rec (motive := fun _ => Nat → Bool) (fun e => Nat.beq e 0) (fun _ _ ih e => Nat.rec (motive := fun _ => Bool) false (fun m _ => ih m) e) cs
def a0R {α : Type} (cs : List α) : Nat → Option α := List.rec (motive := fun _ => Nat → Option α) (fun _ => none) (fun v _ ih e => Nat.rec (motive := fun _ => Option α) (some v) (fun m _ => ih m) e) cs
def a1Z {α : Type} (cs : List α) : Nat → (List α → Rs) → Rs := List.rec (motive := fun _ => Nat → (List α → Rs) → Rs) (fun n K => Nat.rec (motive := fun _ => Rs) (K []) (fun _ _ => .no) n) (fun v _ ih n K => Nat.rec (motive := fun _ => Rs) (K []) (fun m _ => ih m fun l => K (v :: l)) n) cs
def b0Y {α : Type} (cs : List α) : Nat → List α := List.rec (motive := fun _ => Nat → List α) (fun _ => []) (fun v t ih n => Nat.rec (motive := fun _ => List α) (v :: t) (fun m _ => ih m) n) cs
def kIx (k : IntKind) : Nat := IntKind.rec (motive := fun _ => Nat) 0 1 2 3 4 5 6 7 k
def hMv (x : LArg) (f : Fr) (H : Heap) : Rs := oG (mH f x) fun v => .ok v H
def b6e (c a b : LArg) (f : Fr) (H : Heap) : Rs := match mH f c with
 | .bool t => oG (mH f (Bool.rec (motive := fun _ => LArg) b a t)) fun v => .ok v H
 | _ => .no
def oV (v : Option Value) (H : Heap) : Rs := Option.rec (motive := fun _ => Rs) .no (fun v => .th v H) v
def b9x (g : IntKind → Int → Int → Option Value) (k : IntKind) (a : Int) (H : Heap) (y : Value) : Rs := match y with
 | .int k' b => nP (Nat.beq (kIx k) (kIx k')) .no (oV (g k a b) H)
 | _ => .no
def c2b (g : IntKind → Int → Int → Option Value) (x y : LArg) (f : Fr) (H : Heap) : Rs := match mH f x with
 | .int k a => b9x g k a H (mH f y)
 | _ => .no
def c6m (x : LArg) (f : Fr) (H : Heap) : Rs := match mH f x with
 | .bool b => .ok (.bool (Bool.rec (motive := fun _ => Bool) true false b)) H
 | _ => .no
def b8Z (b : Option Blk) (i e : Nat) (H : Heap) : Rs := match b with
 | some (.cells cs _ _ lo _) => nP (Nat.ble lo e) .no (nP (a7I cs e) .no (nP (Nat.ble (Nat.succ i) e) .no (Option.rec (motive := fun _ => Rs) .no (fun v => oG v fun v => .ok v H) (a0R cs i))))
 | _ => .no
def c1c (b : Option Blk) (i : Nat) (H : Heap) : Rs := match b with
 | some (.cells cs _ false lo 1) => nP (a7I cs lo) .no (Option.rec (motive := fun _ => Rs) .no (fun v => oG v fun v => .ok v H) (a0R cs i))
 | _ => .no
def b2x (x : LArg) (f : Fr) (H : Heap) : Rs := match mH f x with
 | .pointer (some ⟨A, i, some e⟩) => b8Z (iP H A) i e H
 | .pointer (some ⟨A, i, none⟩) => c1c (iP H A) i H
 | _ => .no
def b8O (b : Option Blk) (n i e : Nat) (H : Heap) : Rs := match b with
 | some (.cells cs _ _ lo _) => nP (Nat.ble lo e) .no (nP (a7I cs e) .no (nP (Nat.ble (Nat.add i n) e) .no (a1Z (b0Y cs i) n fun l => .ok (.agg ⟨l⟩) H)))
 | _ => .no
def b1p (n : Nat) (x : LArg) (f : Fr) (H : Heap) : Rs := match mH f x with
 | .pointer (some ⟨A, i, some e⟩) => b8O (iP H A) n i e H
 | _ => .no
def stB (b : Option Blk) (n A i e : Nat) (vs : List Value) (H : Heap) : Rs := match b with
 | some (.cells cs ty true lo ver) => nP (a3h vs n) .no (nP (vs.all oneCell) .no (nP (a3h cs e) .no (nP (Nat.ble (Nat.add i n) e) .no (nP (Nat.ble lo e) .no
    (.th undef (hset H A (.cells (iW cs i vs) ty true e ver)))))))
 | _ => .no
def hSt (n : Nat) (x y : LArg) (f : Fr) (H : Heap) : Rs := match mH f x with
 | .pointer (some ⟨A, i, some e⟩) => stB (iP H A) n A i e (mH f y).cells.toList H
 | _ => .no
def hFa (off : Nat) (x : LArg) (f : Fr) (H : Heap) : Rs := match mH f x with
 | .pointer (some ⟨A, i, some e⟩) => kE (Nat.add i off) fun i => .ok (.pointer (some ⟨A, i, some e⟩)) H
 | _ => .no
def ixP (A i e size n : Nat) (H : Heap) (j : Value) : Rs := match j with
 | .int _ (.ofNat j) => nP (Nat.blt j n) .no (kE (Nat.add i (Nat.mul j size)) fun i => .ok (.pointer (some ⟨A, i, some e⟩)) H)
 | _ => .no
def c1M (size : Nat) (x i : LArg) (f : Fr) (H : Heap) : Rs := match mH f x with
 | .slice (some ⟨A, a, some e⟩) n _ => ixP A a e size n H (mH f i)
 | _ => .no
def ixG (A i size n : Nat) (H : Heap) (j : Value) : Rs := match j with
 | .int _ (.ofNat j) => nP (Nat.blt j n) .no (kE (Nat.add i (Nat.mul j size)) fun i => .ok (.pointer (some ⟨A, i, none⟩)) H)
 | _ => .no
def c1Z (n size : Nat) (x i : LArg) (f : Fr) (H : Heap) : Rs := match mH f x with
 | .pointer (some ⟨A, a, some e⟩) => ixP A a e size n H (mH f i)
 | .pointer (some ⟨A, a, none⟩) => ixG A a size n H (mH f i)
 | _ => .no
def okV (v : Option Value) (H : Heap) : Rs := Option.rec (motive := fun _ => Rs) .no (fun v => oG v fun v => .ok v H) v
def c2e (i : Nat) (x : LArg) (f : Fr) (H : Heap) : Rs := match mH f x with
 | .tuple ⟨vs⟩ => okV (a0R vs i) H
 | _ => .no
def hF1 (off : Nat) (x : LArg) (f : Fr) (H : Heap) : Rs := match mH f x with
 | .agg ⟨cs⟩ => okV (a0R cs off) H
 | _ => .no
def hFn (off n : Nat) (x : LArg) (f : Fr) (H : Heap) : Rs := match mH f x with
 | .agg ⟨cs⟩ => a1Z (b0Y cs off) n fun l => .ok (.agg ⟨l⟩) H
 | _ => .no
def c1l (x : LArg) (f : Fr) (H : Heap) : Rs := match mH f x with
 | .slice _ n _ => .th (goInt n) H
 | _ => .no
def b5A (x : LArg) (f : Fr) (H : Heap) : Rs := match mH f x with
 | .string s => .th (goInt s.size) H
 | _ => .no
def c4R (b : Option Blk) (elem size bytes A i e k : Nat) (n : Nat) (l : List Value) (P : Program) (H : Heap) : Rs := match b with
 | some (.cells cs ty true lo ver) => nP (Bool.rec (motive := fun _ => Bool) (iD P ty == some size) true (Nat.beq ty elem)) .no (nP (a3h cs e) .no (nP (Nat.ble lo e) .no
    (nP (Nat.beq (Nat.add i (Nat.mul k size)) e)
      (nP (Nat.beq n 0) (nP (Nat.ble (Nat.add i (Nat.mul (Nat.add k n) size)) e) .no (.th (.slice (some ⟨A, i, some e⟩) (k + n) size) (hset H A (.cells (iW cs (i + k * size) l) ty true e ver)))) .no)
      (nP (Nat.ble (Nat.mul (Nat.add k n) (Nat.succ bytes)) oN) .no (.th (.slice (some ⟨A, i, some (e + l.length)⟩) (k + n) size) (hset H A (.cells (a4R cs l) ty true lo (Bool.rec (motive := fun _ => Nat) 2 ver (Nat.beq ty elem)))))))))
 | _ => .no
def c4S (P : Program) (elem size bytes : Nat) (s : Value) (H : Heap) (n : Nat) (l : List Value) : Rs := match s with
 | .slice none k c => nP (Nat.beq k 0) .no (nP (Nat.beq c 0) .no (nP (Nat.ble (Nat.mul n (Nat.succ bytes)) oN) .no (nP (Nat.beq n 0) (.th (.slice (some ⟨H.length, 0, some l.length⟩) n size) (rJ H elem l)) (.ok (.slice none 0 0) H))))
 | .slice (some ⟨A, i, some e⟩) k _ => c4R (iP H A) elem size bytes A i e k n l P H
 | _ => .no
def c1x (P : Program) (elem size bytes : Nat) (x y : LArg) (f : Fr) (H : Heap) : Rs := match zR H size (mH f y) with
 | some (n, l) => c4S P elem size bytes (mH f x) H n l
 | none => .no
def c1X (t : TypeId) (cs : List Value) (_ : Fr) (H : Heap) : Rs := .th (.pointer (some ⟨H.length, 0, some cs.length⟩)) (rJ H t cs)
def evF (f : Fr) : Operand → Value
 | .tmp t => nS (kQ t) f
 | .const v => v
 | .global g => .pointer (some ⟨g, 0, none⟩)
 | .func k => .func (.func k) #[] #[]
def c5r (P : Program) (o : Oper) (f : Fr) (H : Heap) : Rs := match c2j P o (evF f) H with
 | some (v, H1) => .th v H1
 | none => .no
def a3T {α : Type} (f : Fr) (l : List LArg) : (List Value → α) → α := List.rec (motive := fun _ => (List Value → α) → α) (fun K => K []) (fun x _ ih K => oG (mH f x) fun v => ih fun l => K (v :: l)) l
structure Calls' where
 fn : Pth → FuncId → List Value → Heap → Rs
 rd : Nat → List Value → Heap → Rs
def c1D (C : Calls') (k : FuncId) (p : Pth) (args : List LArg) (f : Fr) (H : Heap) : Rs := a3T f args fun l => C.fn p k l H
def a9l (C : Calls') (l : List Value) (H : Heap) (g : Value) : Rs := match g with
 | .func (.func k) ⟨a⟩ ⟨b⟩ => kE k fun k => lM (kQ k) fun p => C.fn p k (a4R a (a4R l b)) H
 | .func (.yield L) _ _ => C.rd L l H
 | _ => .no
def c0Z (C : Calls') (g : LArg) (args : List LArg) (f : Fr) (H : Heap) : Rs := a3T f args fun l => a9l C l H (mH f g)
def c6j (_ : Fr) (_ : Heap) : Rs := .no
def opF (P : Program) (C : Calls') (o : LOp) : Fr → Heap → Rs :=
 LOp.rec (motive := fun _ => Fr → Heap → Rs) c6j hMv b6e c2b c6m b2x b1p hSt hFa c1M c1Z c2e hF1 hFn c1l b5A (c1x P) c1X (c1D C) (c0Z C) (c5r P) o
inductive Rf where
 | no
 | ok (f : Fr) (H : Heap)
def uG {α : Type} (d : Option Pth) (v : Value) (f : Fr) (K : Fr → α) : α := Option.rec (motive := fun _ => α) (K f) (fun p => pO v p f K) d
def b0H {α : Type} (no : α) (d : Option Pth) (f : Fr) (K : Fr → Heap → α) (r : Rs) : α :=
 Rs.rec (motive := fun _ => α) no (fun v H => uG d v f fun f => K f H) (fun v H => xY v fun v => nG H fun H => uG d v f fun f => K f H) r
def isB (v : Value) (w : Bool) : Bool := match v with
 | .bool b => Bool.rec (motive := fun _ => Bool) (Bool.rec (motive := fun _ => Bool) true false w) w b
 | _ => false
def xP (P : Program) (C : Calls') (ops : LOps) : Fr → Heap → Rf := LOps.rec (motive := fun _ => Fr → Heap → Rf)
 (fun f H => .ok f H)
 (fun d o _ ih f H => b0H .no d f ih (opF P C o f H))
 (fun p w d o _ ih f H => nP (isB (nS p f) w) (uG d undef f fun f => ih f H) (b0H .no d f ih (opF P C o f H))) ops
inductive Rt where
 | no
 | ok (tr : List (Fr × Heap × Value)) (f : Fr) (H : Heap)
def b0p (tr : List (Fr × Heap × Value)) (f0 : Fr) (H0 : Heap) (d : Option Pth) (K : List (Fr × Heap × Value) → Fr → Heap → Rt) (r : Rs) : Rt :=
 Rs.rec (motive := fun _ => Rt) .no (fun v H => uG d v f0 fun f => K ((f0, H0, v) :: tr) f H) (fun v H => xY v fun v => nG H fun H => uG d v f0 fun f => K ((f0, H0, v) :: tr) f H) r
def rA (P : Program) (C : Calls') (ops : LOps) : List (Fr × Heap × Value) → Fr → Heap → Rt := LOps.rec (motive := fun _ => List (Fr × Heap × Value) → Fr → Heap → Rt)
 (fun tr f H => .ok tr f H)
 (fun d o _ ih tr f H => b0p tr f H d ih (opF P C o f H))
 (fun p w d o _ ih tr f H => nP (isB (nS p f) w) (uG d undef f fun f1 => ih ((f, H, undef) :: tr) f1 H) (b0p tr f H d ih (opF P C o f H))) ops
def b7N (v : Value) (r : Rs) : Bool := Rs.rec (motive := fun _ => Bool) false (fun w _ => veq w v) (fun w _ => veq w v) r
def b4E (f : Fr) (g : Option (Pth × Bool)) : Bool := match g with
 | none => true
 | some (p, w) => isB (nS p f) w
def b5k (P : Program) (C : Calls') (tr : List (Fr × Heap × Value)) (H1 : Heap) (x : Nat × Option Nat × Option (Pth × Bool) × LOp) : Bool :=
 match a0R tr x.1 with
 | some (f, _, v) => nP (b4E f x.2.2.1) true (match x.2.1 with
   | none => b7N v (opF P C x.2.2.2 f H1)
   | some m => match a0R tr m with
     | some (_, H, _) => b7N v (opF P C x.2.2.2 f H)
     | none => false)
 | none => false
def b3C {α : Type} (p : α → Bool) (l : List α) : Bool := List.rec (motive := fun _ => Bool) true (fun x _ ih => nP (p x) false ih) l
inductive Rc where
 | no
 | ok (e : Ex) (f : Fr) (H : Heap)
def c4G (r : Rf) : Rc := Rf.rec (motive := fun _ => Rc) .no (fun f H => .ok .normal f H) r
def b9E (P : Program) (C : Calls') (tab : List (Nat × Option Nat × Option (Pth × Bool) × LOp)) (r : Rt) : Rc := Rt.rec (motive := fun _ => Rc) .no (fun tr f H => nP (b3C (b5k P C tr H) tab) .no (.ok .normal f H)) r
def oR {α : Type} (no : α) (l : List Value) : List Pth → Fr → (Fr → α) → α := List.rec (motive := fun _ => List Pth → Fr → (Fr → α) → α) (fun _ f K => K f)
 (fun v _ ih ps f K => List.rec (motive := fun _ => α) no (fun p ps _ => pO v p f fun f => ih ps f K) ps) l
def a4j (H : Heap) (f : Fr) (r : LRes) : Rs := LRes.rec (motive := fun _ => Rs) (fun p => oG (nS p f) fun v => .ok v H) (fun p => b2x (.t p) f H) (fun n p => b1p n (.t p) f H) r
def b4s (H : Heap) (f : Fr) (l : List LRes) : (List Value → Rs) → Rs := List.rec (motive := fun _ => (List Value → Rs) → Rs) (fun K => K []) (fun r _ ih K => Rs.rec (motive := fun _ => Rs) .no (fun v _ => ih fun l => K (v :: l)) (fun _ _ => .no) (a4j H f r)) l
def noT (v : Value) : Bool := match v with | .tuple _ => false | _ => true
def a5Q (l : List LRes) (f : Fr) (H : Heap) : Rs := match l with
 | [r] => a4j H f r
 | l => b4s H f l fun vs => nP (b3C noT vs) .no (.ok (.tuple ⟨vs⟩) H)
def c0B (l : List LRes) (r : Rc) : Rs := match r with
 | .ok .normal f H => a5Q l f H
 | .ok .ret f H => a5Q l f H
 | _ => .no
abbrev pU := List LEnv → LCode → Fr → Heap → Rc
def c1y (P : Program) (k : FuncId) (args : List Value) (H : Heap) : Rs := match pS P k args H with
 | some (v, H1) => .th v H1
 | none => .no
def mN (T : LT) (ih : pU) (E : List LEnv) (p : Pth) (args : List Value) (H : Heap) : Rs := match a2B p T with
 | some g => oR .no args g.ps .e fun f => c0B g.res (ih E g.body f H)
 | none => .no
def b6b (P : Program) (T : LT) (ih : pU) (E : List LEnv) (p : Pth) (k : FuncId) (args : List Value) (H : Heap) : Rs := match a2B p T with
 | some g => oR .no args g.ps .e fun f => c0B g.res (ih E g.body f H)
 | none => c1y P k args H
def b4O (E : List LEnv) (L : Nat) : Option LEnv := List.rec (motive := fun _ => Option LEnv) none (fun e _ ih => nP (Nat.beq e.L L) ih (some e)) E
def c0g (e : Ex) : Option Code := match e with | .normal => none | .ret => some .ret | .exit id => some (.exit id)
def a1E (L : Nat) (e : Ex) (H : Heap) : Rs := match iP H L with
 | some (.loop ⟨_, _, fn, tmps, ps, a, b, d⟩) => match c0g e with
   | none => .th (.bool true) (hset H L (.loop ⟨.ready, none, fn, tmps, ps, a, b, d⟩))
   | some c => .th (.bool false) (hset H L (.loop ⟨.done, some c, fn, tmps, ps, a, b, d⟩))
 | _ => .no
def b2C (L : Nat) (r : Rc) : Rs := match r with
 | .ok e _ H => a1E L e H
 | .no => .no
def zO (ih : pU) (E : List LEnv) (en : LEnv) (f : Fr) (H : Heap) : Rs := match iP H en.L with
 | some (.loop ⟨.ready, p, fn, tmps, ps, a, b, d⟩) => nG (hset H en.L (.loop ⟨.busy, p, fn, tmps, ps, a, b, d⟩)) fun H => b2C en.L (ih E en.b f H)
 | _ => .no
def sF (ih : pU) (E : List LEnv) (en : LEnv) (r : Rc) : Rs := match r with
 | .ok .normal f H => zO ih E en f H
 | _ => .no
def b0i (ih : pU) (E : List LEnv) (L : Nat) (args : List Value) (H : Heap) : Rs := match b4O E L with
 | some en => match iP H L with
   | some (.loop ⟨.ready, _, _, ⟨tmps⟩, ps, _, _, _⟩) => nP (a3h args ps.size) .no (oR .no tmps en.ps .e fun f => oR .no args en.pp f fun f => sF ih E en (ih E en.a f H))
   | _ => .no
 | none => .no
def zM (P : Program) (T : LT) (ih : pU) (E : List LEnv) : Calls' := ⟨b6b P T ih E, b0i ih E⟩
def c6a (_ : Fr) (_ : Heap) : Rc := .no
def c3U (f : Fr) (H : Heap) : Rc := .ok .normal f H
def c5c (P : Program) (T : LT) (ih : pU) (E : List LEnv) (ops : LOps) (f : Fr) (H : Heap) : Rc := c4G (xP P (zM P T ih E) ops f H)
def c5L (P : Program) (T : LT) (ih : pU) (E : List LEnv) (ops : LOps) (tab : List (Nat × Option Nat × Option (Pth × Bool) × LOp)) (f : Fr) (H : Heap) : Rc := b9E P (zM P T ih E) tab (rA P (zM P T ih E) ops [] f H)
def b8X (ih : pU) (E : List LEnv) (b : LCode) (r : Rc) : Rc := match r with
 | .ok .normal f H => ih E b f H
 | r => r
def c5q (ih : pU) (E : List LEnv) (a b : LCode) (_ _ : Fr → Heap → Rc) (f : Fr) (H : Heap) : Rc := b8X ih E b (ih E a f H)
def b6n (ih : pU) (E : List LEnv) (c : LArg) (x y : LCode) (_ _ : Fr → Heap → Rc) (f : Fr) (H : Heap) : Rc := match mH f c with
 | .bool t => ih E (Bool.rec (motive := fun _ => LCode) y x t) f H
 | _ => .no
def c3d (id : Nat) (r : Rc) : Rc := match r with
 | .ok (.exit i) f H => .ok (Bool.rec (motive := fun _ => Ex) (.exit i) .normal (Nat.beq i id)) f H
 | r => r
def c2i (ih : pU) (E : List LEnv) (id : Nat) (b : LCode) (_ : Fr → Heap → Rc) (f : Fr) (H : Heap) : Rc := c3d id (ih E b f H)
def c4F (ih : pU) (E : List LEnv) (b : LCode) (_ : Fr → Heap → Rc) (f : Fr) (H : Heap) : Rc := b8X ih E (.loop b) (ih E b f H)
def c4f (id : Nat) (f : Fr) (H : Heap) : Rc := .ok (.exit id) f H
def c6i (f : Fr) (H : Heap) : Rc := .ok .ret f H
def frL {α : Type} (f : Fr) (ps : List Pth) : (List Value → α) → α := List.rec (motive := fun _ => (List Value → α) → α) (fun K => K []) (fun p _ ih K => oG (nS p f) fun v => ih fun l => K (v :: l)) ps
def uM (L : Nat) (f : Fr) (H : Heap) : Rc := match iP H L with
 | some (.loop ⟨.ready, none, fn, tmps, ps, a, b, d⟩) => nG (hset H L (.loop ⟨.exhausted, none, fn, tmps, ps, a, b, d⟩)) fun H => .ok .normal f H
 | some (.loop ⟨.done, none, fn, tmps, ps, a, b, d⟩) => nG (hset H L (.loop ⟨.exhausted, none, fn, tmps, ps, a, b, d⟩)) fun H => .ok .normal f H
 | some (.loop ⟨.done, some .ret, fn, tmps, ps, a, b, d⟩) => nG (hset H L (.loop ⟨.exhausted, some .ret, fn, tmps, ps, a, b, d⟩)) fun H => .ok .ret f H
 | some (.loop ⟨.done, some (.exit id), fn, tmps, ps, a, b, d⟩) => nG (hset H L (.loop ⟨.exhausted, some (.exit id), fn, tmps, ps, a, b, d⟩)) fun H => .ok (.exit id) f H
 | _ => .no
def b1r (L : Nat) (f : Fr) (r : Rs) : Rc := match r with
 | .no => .no
 | .ok _ H => uM L f H
 | .th _ H => nG H fun H => uM L f H
def b0I (T : LT) (ih : pU) (E : List LEnv) (f : Fr) (L : Nat) (k : FuncId) (args : List Value) (H : Heap) : Rc := lM (kQ k) fun p => b1r L f (mN T ih E p args H)
def a8i (T : LT) (ih : pU) (E : List LEnv) (g : LArg) (ps pp : List Pth) (params : Array Tmp) (assign body : Code) (a b : LCode) (_ _ : Fr → Heap → Rc) (f : Fr) (H : Heap) : Rc := match mH f g with
 | .func (.func k) ⟨x⟩ ⟨y⟩ => kE H.length fun L => frL f ps fun l => nG (H.cons (.loop ⟨.ready, none, 0, ⟨l⟩, params, assign, body, 0⟩)) fun H1 =>
    kE k fun k => b0I T ih (⟨L, ps, pp, a, b⟩ :: E) f L k (a4R x (.func (.yield L) #[] #[] :: y)) H1
 | _ => .no
def b1d (P : Program) (T : LT) (ih : pU) (E : List LEnv) (c : LCode) : Fr → Heap → Rc :=
 LCode.rec (motive := fun _ => Fr → Heap → Rc) c6a c3U (c5c P T ih E) (c5L P T ih E) (c5q ih E) (b6n ih E) (c2i ih E) (c4F ih E) c4f c6i (a8i T ih E) c
def exF (P : Program) (T : LT) (n : Nat) : pU := Nat.rec (motive := fun _ => pU) (fun _ _ _ _ => .no) (fun _ ih => b1d P T ih) n
section
variable {α : Type}
def lN (x : Operand) (K : LArg → α) : α := match x with
 | .tmp t => lM (kQ t) fun p => K (.t p)
 | .const v => K (.c v)
 | .global g => K (.c (.pointer (some ⟨g, 0, none⟩)))
 | .func k => K (.c (.func (.func k) #[] #[]))
def a5d (l : List Operand) : (List LArg → α) → α := List.rec (motive := fun _ => (List LArg → α) → α) (fun K => K []) (fun x _ ih K => lN x fun x => ih fun l => K (x :: l)) l
def a3a (o : Option Nat) (d : α) (K : Nat → α) : α := match o with
 | some n => kE n K
 | none => d
def c5S (k : IntKind) (a b : Int) : Option Value := some (.int k (vZ k (b8b a b)))
def c6q (k : IntKind) (a b : Int) : Option Value := some (.int k (vZ k (b8k a b)))
def c4N (a b : Int) : Int := match a, b with
 | .ofNat a, .ofNat b => .ofNat (Nat.mul a b)
 | a, b => a * b
def c2H (k : IntKind) (a b : Int) : Option Value := some (.int k (vZ k (c4N a b)))
def c4x (a b : Int) : Int := match a, b with
 | .ofNat a, .ofNat b => .ofNat (Nat.div a b)
 | a, b => a.tdiv b
def c4P (a b : Int) : Int := match a, b with
 | .ofNat a, .ofNat b => .ofNat (Nat.mod a b)
 | a, b => a.tmod b
def b8i (k : IntKind) (a b : Int) : Option Value := match eqI b 0 with | true => none | false => some (.int k (vZ k (c4x a b)))
def b8a (k : IntKind) (a b : Int) : Option Value := match eqI b 0 with | true => none | false => some (.int k (c4P a b))
def c5U (_ : IntKind) (a b : Int) : Option Value := some (.bool (eqI a b))
def c5V (_ : IntKind) (a b : Int) : Option Value := some (.bool (!eqI a b))
def c5o (_ : IntKind) (a b : Int) : Option Value := some (.bool (ltI a b))
def c5z (_ : IntKind) (a b : Int) : Option Value := some (.bool (!ltI b a))
def c6d (_ : IntKind) (a b : Int) : Option Value := some (.bool (ltI b a))
def c4Z (_ : IntKind) (a b : Int) : Option Value := some (.bool (!ltI a b))
def b9j (op : BinOp) : Option (IntKind → Int → Int → Option Value) := match op with
 | .add => some c5S
 | .sub => some c6q
 | .mul => some c2H
 | .quo => some b8i
 | .rem => some b8a
 | .eql => some c5U
 | .neq => some c5V
 | .lss => some c5o
 | .leq => some c5z
 | .gtr => some c6d
 | .geq => some c4Z
 | _ => none
def c1C (d : Option TypeDesc) : Bool := match d with | some (.int _) => true | _ => false
def c6A (P : Program) (s : TypeId) (f : Nat) (d : α) (K1 : Nat → α) (Kn : Nat → Nat → α) : α := match oA P s f with
 | some fd => kE fd.offset fun off => match jQ P fd.type with
   | some true => a3a (iD P fd.type) d fun n => Kn off n
   | some false => K1 off
   | none => d
 | none => d
def b5h (P : Program) (o : Oper) (c : Call) (K : LOp → α) : α := match c.callee with
 | .value (.func k) => lM (kQ k) fun p => a5d c.args.toList fun l => K (.callF k p l)
 | .value g => lN g fun g => a5d c.args.toList fun l => K (.callV g l)
 | .builtin .len => nP (c.args.size == 1 && c.argTypes.size == 1) (K (.gen o)) (match P.underlying (c.argTypes.getD 0 0) with
    | some (.slice _) => lN (c.args.getD 0 (.tmp 0)) fun x => K (.len x)
    | some .string => lN (c.args.getD 0 (.tmp 0)) fun x => K (.slen x)
    | _ => K (.gen o))
 | .builtin .append => nP (c.args.size == 2 && c.argTypes.size == 2 && ((P.underlying (c.argTypes.getD 1 0)).map pM) == some true) (K (.gen o))
    (match iJ P (c.argTypes.getD 0 0) with
     | some elem => a3a (iD P elem) (K (.gen o)) fun size => a3a (nJ P elem) (K (.gen o)) fun bytes => match iZ P elem with
       | some z => nP (z.cells.size == size && size != 0) (K (.gen o)) (kE elem fun elem => lN (c.args.getD 0 (.tmp 0)) fun x => lN (c.args.getD 1 (.tmp 0)) fun y => K (.app elem size bytes x y))
       | none => K (.gen o)
     | none => K (.gen o))
 | _ => K (.gen o)
def c4q (P : Program) (o : Oper) (K : LOp → α) : α := match o.op with
 | .move x => lN x fun x => K (.mv x)
 | .assign x => lN x fun x => K (.mv x)
 | .pick c a b => lN c fun c => lN a fun a => lN b fun b => K (.pick c a b)
 | .binOp op t x y _ => nP (c1C (P.underlying t)) (K (.gen o)) (match b9j op with
   | some g => lN x fun x => lN y fun y => K (.bin g x y)
   | none => K (.gen o))
 | .load t x => match jQ P t with
   | some true => a3a (iD P t) (K (.gen o)) fun n => lN x fun x => K (.ldn n x)
   | some false => lN x fun x => K (.ld1 x)
   | none => K (.gen o)
 | .store t x y => a3a (iD P t) (K (.gen o)) fun n => lN x fun x => lN y fun y => K (.st n x y)
 | .fieldAddr s x f => match oA P s f with
   | some fd => match iD P fd.type with
     | some 0 => K (.gen o)
     | some _ => kE fd.offset fun off => lN x fun x => K (.fa off x)
     | none => K (.gen o)
   | none => K (.gen o)
 | .indexAddr t x i => match P.underlying t with
   | some (.slice elem) => a3a (iD P elem) (K (.gen o)) fun size => lN x fun x => lN i fun i => K (.ixs size x i)
   | some (.array n elem) => a3a (iD P elem) (K (.gen o)) fun size => lN x fun x => lN i fun i => K (.ixa n size x i)
   | _ => K (.gen o)
 | .extract t i => kE i fun i => lN t fun t => K (.ext i t)
 | .call c => b5h P o c K
 | _ => K (.gen o)
def xF (P : Program) (o : Oper) (K : LOp → α) : α := nP (o.op.operands.toList.all iN) (K .bad) (c4q P o K)
def a7b (k : Nat) (d : Option Tmp) (no : α) (K : Option Pth → α) : α := match d with
 | none => K none
 | some t => nP (Nat.blt t k) no (lM (kQ t) fun p => K (some p))
def uA (P : Program) (k : Nat) (ops : Array Oper) (l : List Oper) : (LOps → α) → α → α := List.rec (motive := fun _ => (LOps → α) → α → α) (fun K _ => K .nil)
 (fun o _ ih K no => a7b k o.dst no fun d => xF P o fun o' => match o.guard with
   | none => ih (fun r => K (.cons d o' r)) no
   | some (j, w) => match (ops[j]?).bind (·.dst) with
     | some t => nP (Nat.blt t k) no (lM (kQ t) fun p => a0s w fun w => ih (fun r => K (.gcons p w d o' r)) no)
     | none => no) l
def loG (k : Nat) (ops : Array Oper) (g : Option (Nat × Bool)) (no : α) (K : Option (Pth × Bool) → α) : α := match g with
 | none => K none
 | some (j, w) => match (ops[j]?).bind (·.dst) with
   | some t => nP (Nat.blt t k) no (lM (kQ t) fun p => a0s w fun w => K (some (p, w)))
   | none => no
def tH (P : Program) (k : Nat) (ops : Array Oper) (N : Nat) (tab : List (Nat × Nat)) : (List (Nat × Option Nat × Option (Pth × Bool) × LOp) → α) → α → α := List.rec (motive := fun _ => (List (Nat × Option Nat × Option (Pth × Bool) × LOp) → α) → α → α) (fun K _ => K [])
 (fun x _ ih K no => match ops[x.1]? with
   | some o => loG k ops o.guard no fun g => xF P o fun o' => kE (N - 1 - x.1) fun i => nP (Nat.blt x.2 N) (ih (fun l => K ((i, none, g, o') :: l)) no) (kE (N - 1 - x.2) fun m => ih (fun l => K ((i, some m, g, o') :: l)) no)
   | none => no) tab
def b3B (k : Nat) : (List Pth → α) → α := Nat.rec (motive := fun _ => (List Pth → α) → α) (fun K => K []) (fun n ih K => lM (kQ n) fun p => ih fun l => K (p :: l)) k
def c1R {β : Type} (l : List β) : List β → (List β → α) → α := List.rec (motive := fun _ => List β → (List β → α) → α) (fun a K => K a) (fun x _ ih a K => ih (x :: a) K) l
def b2R (k : Nat) (K : List Pth → α) : α := b3B k fun l => c1R l [] K
def wV (k : Nat) (l : List Tmp) : (List Pth → α) → α → α := List.rec (motive := fun _ => (List Pth → α) → α → α) (fun K _ => K []) (fun t _ ih K no => nP (Nat.blt t k) no (lM (kQ t) fun p => ih (fun l => K (p :: l)) no)) l
def mW (P : Program) (k : Nat) (c : Code) : (LCode → α) → α := Code.rec (motive := fun _ => (LCode → α) → α)
 (fun K => K .skip)
 (fun _ ops d K => Bool.rec (motive := fun _ => α) (uA P k ops ops.toList (fun l => K (.reg l)) (K .bad))
   (match mT P ops with
     | some [] => uA P k ops ops.toList (fun l => K (.reg l)) (K .bad)
     | some tab => uA P k ops ops.toList (fun l => tH P k ops ops.size tab (fun t => K (.drw l t)) (K .bad)) (K .bad)
     | none => K .bad) d)
 (fun _ _ iha ihb K => iha fun a => ihb fun b => K (.seq a b))
 (fun c _ _ ihx ihy K => nP (iN c) (K .bad) (lN c fun c => ihx fun x => ihy fun y => K (.cond c x y)))
 (fun id _ ih K => kE id fun id => ih fun b => K (.block id b))
 (fun _ ih K => ih fun b => K (.loop b))
 (fun g ps assign body iha ihb K => nP (iN g) (K .bad) (lN g fun g' => b2R k fun pp => wV k ps.toList (fun q => iha fun a => ihb fun b => K (.range g' pp q ps assign body a b)) (K .bad)))
 (fun id K => kE id fun id => K (.exit id))
 (fun _ _ K => K .bad)
 (fun _ K => K .skip)
 (fun _ K => K .bad)
 (fun K => K .ret)
 (fun _ K => K .bad) c
def a0M (P : Program) (l : List ResultVar) : (List LRes → α) → α → α := List.rec (motive := fun _ => (List LRes → α) → α → α) (fun K _ => K [])
 (fun r _ ih K no => match r with
   | .tmp t => lM (kQ t) fun p => ih (fun l => K (.t p :: l)) no
   | .cell a t => match jQ P t with
     | some true => a3a (iD P t) no fun n => lM (kQ a) fun p => ih (fun l => K (.cn n p :: l)) no
     | some false => lM (kQ a) fun p => ih (fun l => K (.c1 p :: l)) no
     | none => no) l
def a2t (P : Program) (f : FuncId) (no : α) (K : LFunc → α) : α := match P.funcs[f]? with
 | some fn => match fn.body with
   | some c => nP (fn.name == "runtime.NumGoroutine") (a0M P fn.results.toList (fun res => b2R fn.ntmps fun ps => mW P fn.ntmps c fun b => K ⟨ps, b, res⟩) no) no
   | none => no
 | none => no
def tK (P : Program) (fs : List FuncId) : LT → (LT → α) → α := List.rec (motive := fun _ => LT → (LT → α) → α) (fun T K => K T)
 (fun f _ ih T K => a2t P f (ih T K) fun g => lM (kQ f) fun p => rP g p T fun T => ih T K) fs
end
end
end Go.Ds
namespace Go.Ds
section
variable {α : Type}
theorem vD (f k : Nat) : a4U (f + 1) (k + 1) = if k % 2 = 0 then .l (a4U f (k / 2)) else .r (a4U f (k / 2)) := by
 show Bool.rec (motive := fun _ => Pth) (.r (a4U f (k / 2))) (.l (a4U f (k / 2))) (Nat.beq (k % 2) 0) = _
 by_cases h : k % 2 = 0
 ·rw [if_pos h, h]; rfl
 ·rw [if_neg h]
  have : Nat.beq (k % 2) 0 = false := fP.2 fun e => h (dP e)
  rw [this]
theorem a3S (f : Nat) : a4U f 0 = .z := by cases f <;> rfl
theorem a2n : ∀ (f g a b : Nat), a ≤ f → b ≤ g → a4U f a = a4U g b → a = b
 | _, _, 0, 0, _, _, _ => rfl
 | 0, _, a + 1, _, h, _, _ => by omega
 | _, 0, _, b + 1, _, h, _ => by omega
 | f, g + 1, 0, b + 1, _, _, h => by
   rw [a3S, vD] at h
   split at h <;> cases h
 | f + 1, g, a + 1, 0, _, _, h => by
   rw [a3S, vD] at h
   split at h <;> cases h
 | f + 1, g + 1, a + 1, b + 1, ha, hb, h => by
   rw [vD, vD] at h
   by_cases h1 : a % 2 = 0
   ·rw [if_pos h1] at h
    by_cases h2 : b % 2 = 0
    ·rw [if_pos h2] at h
     injection h with h
     have := a2n f g (a / 2) (b / 2) (by omega) (by omega) h
     omega
    ·rw [if_neg h2] at h; cases h
   ·rw [if_neg h1] at h
    by_cases h2 : b % 2 = 0
    ·rw [if_pos h2] at h; cases h
    ·rw [if_neg h2] at h
     injection h with h
     have := a2n f g (a / 2) (b / 2) (by omega) (by omega) h
     omega
theorem b0v {a b : Nat} (h : kQ a = kQ b) : a = b := a2n _ _ _ _ (de _) (de _) h
theorem lH (p : Pth) (K : Pth → α) : lM p K = K p := by
 induction p generalizing K with
 | z => rfl
 | l p ih => exact ih _
 | r p ih => exact ih _
theorem mO (v : Value) (K : Value → α) : oG v K = K v := by cases v <;> rfl
theorem sK (v : Value) (p : Pth) (f : Fr) (K : Fr → α) : pO v p f K = K (pO v p f fun f => f) := by
 induction p generalizing f α with
 | z => cases f <;> rfl
 | l p ih =>
   cases f with
   | e =>
     show pO v p .e (fun l => K (.n undef l .e)) = K (pO v p .e fun l => .n undef l .e)
     rw [ih, ih (K := fun l => Fr.n undef l .e)]
   | n w l r =>
     show pO v p l (fun l => K (.n w l r)) = K (pO v p l fun l => .n w l r)
     rw [ih, ih (K := fun l => Fr.n w l r)]
 | r p ih =>
   cases f with
   | e =>
     show pO v p .e (fun l => K (.n undef .e l)) = K (pO v p .e fun l => .n undef .e l)
     rw [ih, ih (K := fun l => Fr.n undef .e l)]
   | n w l r =>
     show pO v p r (fun r => K (.n w l r)) = K (pO v p r fun r => .n w l r)
     rw [ih, ih (K := fun r => Fr.n w l r)]
theorem uO (p : Pth) : nS p .e = undef := by
 cases p <;> rfl
theorem b3g (v : Value) (p q : Pth) (f : Fr) : (q = p → nS q (pO v p f fun f => f) = v) ∧ (q ≠ p → nS q (pO v p f fun f => f) = nS q f) := by
 induction p generalizing f q with
 | z =>
   refine ⟨fun h => ?_, fun h => ?_⟩
   ·subst h; cases f <;> rfl
   ·cases q with
    | z => exact absurd rfl h
    | l q =>
      cases f with
      | e => show nS q .e = undef; exact uO q
      | n => rfl
    | r q =>
      cases f with
      | e => show nS q .e = undef; exact uO q
      | n => rfl
 | l p ih =>
   have h1 : ∀ f, pO v (.l p) f (fun f => f) = match f with | .e => .n undef (pO v p .e fun f => f) .e | .n w l r => .n w (pO v p l fun f => f) r := fun f => by
    cases f with
    | e => exact sK v p .e fun l => Fr.n undef l .e
    | n w l r => exact sK v p l fun l => Fr.n w l r
   rw [h1]
   cases q with
   | z => exact ⟨fun h => (nomatch h), fun _ => by cases f <;> rfl⟩
   | r q =>
     refine ⟨fun h => (nomatch h), fun _ => ?_⟩
     cases f with
     | e => show nS q .e = undef; exact uO q
     | n => rfl
   | l q =>
     refine ⟨fun h => ?_, fun h => ?_⟩
     ·injection h with h
      cases f with
      | e => exact (ih q .e).1 h
      | n w l r => exact (ih q l).1 h
     ·have h : q ≠ p := fun e => h (by rw [e])
      cases f with
      | e => show nS q (pO v p .e fun f => f) = undef; rw [(ih q .e).2 h, uO]
      | n w l r => exact (ih q l).2 h
 | r p ih =>
   have h1 : ∀ f, pO v (.r p) f (fun f => f) = match f with | .e => .n undef .e (pO v p .e fun f => f) | .n w l r => .n w l (pO v p r fun f => f) := fun f => by
    cases f with
    | e => exact sK v p .e fun l => Fr.n undef .e l
    | n w l r => exact sK v p r fun r => Fr.n w l r
   rw [h1]
   cases q with
   | z => exact ⟨fun h => (nomatch h), fun _ => by cases f <;> rfl⟩
   | l q =>
     refine ⟨fun h => (nomatch h), fun _ => ?_⟩
     cases f with
     | e => show nS q .e = undef; exact uO q
     | n => rfl
   | r q =>
     refine ⟨fun h => ?_, fun h => ?_⟩
     ·injection h with h
      cases f with
      | e => exact (ih q .e).1 h
      | n w l r => exact (ih q r).1 h
     ·have h : q ≠ p := fun e => h (by rw [e])
      cases f with
      | e => show nS q (pO v p .e fun f => f) = undef; rw [(ih q .e).2 h, uO]
      | n w l r => exact (ih q r).2 h
def FAg (f : Fr) (l : List Value) : Prop := ∀ t, nS (kQ t) f = get l t
def FRel (k : Nat) (f : Fr) (l : List Value) : Prop := l.length = k ∧ FAg f l
noncomputable def b5H (f : Fr) (t : Tmp) (v : Value) : Fr := pO v (kQ t) f fun f => f
theorem a4c (f : Fr) (t u : Tmp) (v : Value) : nS (kQ u) (b5H f t v) = if u = t then v else nS (kQ u) f := by
 have h := b3g v (kQ t) (kQ u) f
 by_cases he : u = t
 ·rw [if_pos he]; exact h.1 (by rw [he])
 ·rw [if_neg he]; exact h.2 (fun e => he (b0v e))
theorem FRel.put {k : Nat} {f : Fr} {l : List Value} (h : FRel k f l) {t : Tmp} (ht : t < k) (v : Value) : FRel k (b5H f t v) (Go.Ds.put l (some t) v) := by
 refine ⟨by simp [Go.Ds.put, mQ, h.1], fun u => ?_⟩
 rw [a4c, b1n]
 by_cases he : u = t
 ·subst he; rw [if_pos rfl, if_pos ⟨rfl, by rw [h.1]; exact ht⟩]
 ·rw [if_neg he, if_neg (fun hh => he (cU hh.1).symm)]; exact h.2 u
theorem FRel.set {k : Nat} {f : Fr} {l : List Value} (h : FRel k f l) {t : Tmp} (ht : t < k) (v : Value) : FRel k (b5H f t v) (l.set t v) := by
 have := h.put ht v
 simpa [Go.Ds.put, mQ] using this
def Rs.Is (r : Rs) (v : Value) (H : Heap) : Prop := r = .ok v H ∨ r = .th v H
theorem Rs.ar {v : Value} {H : Heap} : ¬ Rs.no.Is v H := by rintro (h | h) <;> cases h
theorem Rs.aM {v w : Value} {H H1 : Heap} (h : (Rs.ok v H).Is w H1) : w = v ∧ H1 = H := by
 rcases h with h | h
 ·injection h with a b; exact ⟨a.symm, b.symm⟩
 ·cases h
theorem Rs.aQ {v w : Value} {H H1 : Heap} (h : (Rs.th v H).Is w H1) : w = v ∧ H1 = H := by
 rcases h with h | h
 ·cases h
 ·injection h with a b; exact ⟨a.symm, b.symm⟩
theorem kP (b : Bool) (no x : α) : nP b no x = if b = true then x else no := by cases b <;> rfl
theorem lB {b : Bool} {x : Rs} {v : Value} {H : Heap} (h : (nP b Rs.no x).Is v H) : b = true ∧ x.Is v H := by
 cases b with
 | false => exact absurd h Rs.ar
 | true => exact ⟨rfl, h⟩
theorem yG {β : Type} : ∀ (cs : List β) (e : Nat), a7I cs e = decide (e ≤ cs.length)
 | [], 0 => rfl
 | [], e + 1 => by simp; rfl
 | _ :: _, 0 => rfl
 | _ :: cs, e + 1 => by show a7I cs e = _; rw [yG cs e]; simp
theorem xH {β : Type} : ∀ (cs : List β) (e : Nat), a3h cs e = decide (e = cs.length)
 | [], 0 => rfl
 | [], e + 1 => by simp; rfl
 | _ :: _, 0 => by simp; rfl
 | _ :: cs, e + 1 => by show a3h cs e = _; rw [xH cs e]; simp
theorem xV {β : Type} : ∀ (cs : List β) (e : Nat), a0R cs e = cs[e]?
 | [], _ => rfl
 | _ :: _, 0 => rfl
 | _ :: cs, e + 1 => by show a0R cs e = _; rw [xV cs e]; simp
theorem a7H {β : Type} : ∀ (cs : List β) (e : Nat), b0Y cs e = cs.drop e
 | [], e => by cases e <;> rfl
 | _ :: _, 0 => rfl
 | _ :: cs, e + 1 => by show b0Y cs e = _; rw [a7H cs e]; rfl
theorem a6i {β : Type} : ∀ {cs : List β} {n : Nat} {K : List β → Rs} {v : Value} {H : Heap}, (a1Z cs n K).Is v H → n ≤ cs.length ∧ (K (cs.take n)).Is v H
 | [], 0, K, v, H, h => ⟨de _, h⟩
 | [], n + 1, K, v, H, h => absurd h Rs.ar
 | _ :: _, 0, K, v, H, h => ⟨eQ _, h⟩
 | c :: cs, n + 1, K, v, H, h => by
   have h' : (a1Z cs n fun l => K (c :: l)).Is v H := h
   obtain ⟨h1, h2⟩ := a6i h'
   exact ⟨by simp; omega, h2⟩
theorem b8q {a b : IntKind} (h : Nat.beq (kIx a) (kIx b) = true) : a = b := by
 cases a <;> cases b <;> first | rfl | (exact absurd h (by decide))
theorem b5d (k : Nat) (K : List Pth → α) : b3B k K = K ((List.range k).map kQ).reverse := by
 induction k generalizing K with
 | zero => rfl
 | succ n ih =>
   show lM (kQ n) (fun p => b3B n fun l => K (p :: l)) = _
   rw [lH, ih, dW]
   simp
theorem b8G {β : Type} (l : List β) : ∀ (a : List β) (K : List β → α), c1R l a K = K (l.reverse ++ a) := by
 induction l with
 | nil => intro a K; rfl
 | cons x l ih => intro a K; show c1R l (x :: a) K = _; rw [ih]; simp
theorem b0T (k : Nat) (K : List Pth → α) : b2R k K = K ((List.range k).map kQ) := by
 unfold b2R; rw [b5d, b8G]; simp
theorem oQ (n : Nat) (d : α) (K : Nat → α) : a3a (some n) d K = K n := jZ n K
def LK (H H' : Heap) : Prop := H.length ≤ H'.length ∧ ∀ A r', A < H.length → iP H' A = some (.loop r') →
 ∃ r, iP H A = some (.loop r) ∧ r'.assign = r.assign ∧ r'.body = r.body ∧ r'.params = r.params ∧ r'.tmps = r.tmps
theorem LK.refl (H : Heap) : LK H H := ⟨de _, fun _ r _ h => ⟨r, h, rfl, rfl, rfl, rfl⟩⟩
theorem LK.trans {H H1 H2 : Heap} (h : LK H H1) (k : LK H1 H2) : LK H H2 := ⟨dw h.1 k.1, fun A r' hA hr => by
 obtain ⟨r1, h1, a1, b1, c1, d1⟩ := k.2 A r' (dI hA h.1) hr
 obtain ⟨r, h2, a2, b2, c2, d2⟩ := h.2 A r1 hA h1
 exact ⟨r, h2, a1.trans a2, b1.trans b2, c1.trans c2, d1.trans d2⟩⟩
def Blk.cb : Blk → Bool
 | .loop _ => true
 | _ => false
theorem LK.hset (H : Heap) (A : Nat) {b : Blk} (hb : b.cb = false) : LK H (hset H A b) := by
 refine ⟨by rw [jO]; exact de _, fun B r' hB h => ?_⟩
 by_cases he : A = B
 ·subst he; rw [iQ _ hB] at h; injection h with h; subst h; cases hb
 ·rw [iY _ he] at h; exact ⟨r', h, rfl, rfl, rfl, rfl⟩
theorem LK.cons (H : Heap) (b : Blk) : LK H (H.cons b) := by
 refine ⟨by rw [length_cons]; omega, fun B r' hB h => ?_⟩
 rw [jP b hB] at h; exact ⟨r', h, rfl, rfl, rfl, rfl⟩
theorem LK.row (H : Heap) (ty : TypeId) (cs : List Value) : LK H (rJ H ty cs) := by rw [lE]; exact .cons _ _
theorem LK.loop {H : Heap} {L : Nat} {r r' : Loop} (h : iP H L = some (.loop r)) (e : r'.assign = r.assign ∧ r'.body = r.body ∧ r'.params = r.params ∧ r'.tmps = r.tmps) : LK H (Go.Ds.hset H L (.loop r')) := by
 refine ⟨by rw [jO]; exact de _, fun B r2 hB hg => ?_⟩
 by_cases he : L = B
 ·subst he; rw [iQ _ hB] at hg; injection hg with hg; injection hg with hg; subst hg; exact ⟨r, h, e⟩
 ·rw [iY _ he] at hg; exact ⟨r2, hg, rfl, rfl, rfl, rfl⟩
variable {P : Program}
theorem a7h {H H' : Heap} {t : TypeId} {p v : Value} (h : qR P H t p v = some H') : LK H H' := by
 unfold qR at h
 split at h
 ·split at h
  ·dsimp only at h
   split at h
   ·injection h with h; subst h; exact .hset _ _ rfl
   ·cases h
  ·cases h
 ·cases h
theorem a3w {H H' : Heap} {t : TypeId} {v r : Value} (h : wQ P H t v = some (r, H')) : LK H H' := by
 unfold wQ at h
 dsimp only at h
 split at h
 ·injection h with h; injection h with _ h; subst h; exact .row _ _ _
 ·cases h
theorem a4z {H H' : Heap} {t : TypeId} {s x r : Value} (h : nD P H t s x = some (r, H')) : LK H H' := by
 unfold nD at h
 simp only [cX] at h
 obtain ⟨elem, _, size, _, bytes, _, z, _, ⟨n, l⟩, _, h⟩ := h
 try dsimp only at h
 split at h
 ·split at h
  ·split at h
   ·injection h with h; injection h with _ h; subst h; exact .refl _
   ·injection h with h; injection h with _ h; subst h; exact .row _ _ _
  ·cases h
 ·split at h
  ·split at h
   ·injection h with h; injection h with _ h; subst h; exact .hset _ _ rfl
   ·split at h
    ·injection h with h; injection h with _ h; subst h; exact .hset _ _ rfl
    ·cases h
  ·cases h
 ·cases h
theorem a5G {H H' : Heap} {t : TypeId} {v r : Value} (h : qS P H t v = some (r, H')) : LK H H' := by
 unfold qS at h
 split at h
 ·dsimp only at h
  rename_i n elem _
  have key : ∀ (b : Bool), (if b = true then some (Value.pointer (some ⟨H.length, 0, some v.cells.toList.length⟩), b5l H elem v.cells.toList) else none) = some (r, H') → LK H H' := by
   intro b h
   cases b
   ·cases h
   ·injection h with h; injection h with _ h; subst h; rw [a0Z]; exact .cons _ _
  exact key _ h
 ·exact a3w h
theorem a5f {H H' : Heap} {t : TypeId} {x y r : Value} (h : vL P H t x y = some (r, H')) : LK H H' := by
 unfold vL at h
 split at h
 ·split at h
  ·split at h
   ·simp only [dc] at h
    obtain ⟨_, _, h⟩ := h
    injection h with _ h; subst h; exact .hset _ _ rfl
   ·cases h
  ·cases h
 ·cases h
theorem a4v {H H' : Heap} {k : FuncId} {args : List Value} {r : Value} (h : pS P k args H = some (r, H')) : LK H H' := by
 unfold pS at h
 simp only [cX] at h
 obtain ⟨fn, _, h⟩ := h
 split at h
 case isFalse => cases h
 split at h
 ·split at h
  ·injection h with h; injection h with _ h; subst h; exact .refl _
  ·cases h
 split at h
 ·split at h
  ·split at h
   ·simp only [cX] at h
    obtain ⟨_, _, h⟩ := h
    split at h
    ·injection h with h; injection h with _ h; subst h; exact .row _ _ _
    ·cases h
   ·cases h
  ·cases h
 split at h
 ·split at h
  ·split at h
   ·split at h
    ·injection h with h; injection h with _ h; subst h; exact .refl _
    ·cases h
   ·cases h
  ·cases h
 ·cases h
theorem a9d {H H' : Heap} {t : TypeId} {s x r : Value} (h : a0v P H t s x = some (r, H')) : LK H H' := by
 unfold a0v at h
 simp only [cX] at h
 obtain ⟨elem, _, size, _, m, _, h⟩ := h
 try dsimp only at h
 split at h
 ·split at h
  ·injection h with h; injection h with _ h; subst h; exact .refl _
  ·cases h
 ·split at h
  ·injection h with h; injection h with _ h; subst h; exact .refl _
  ·simp only [cX] at h
   obtain ⟨l, _, h⟩ := h
   split at h
   ·split at h
    ·injection h with h; injection h with _ h; subst h; exact .hset _ _ rfl
    ·cases h
   ·cases h
 ·cases h
theorem a6P {H H' : Heap} {t : TypeId} {x r : Value} (h : sT P H t x = some (r, H')) : LK H H' := by
 unfold sT at h
 simp only [cX] at h
 obtain ⟨elem, _, z, _, h⟩ := h
 split at h
 ·injection h with h; injection h with _ h; subst h; exact .refl _
 ·split at h
  ·injection h with h; injection h with _ h; subst h; exact .refl _
  ·try dsimp only at h
   split at h
   ·split at h
    ·injection h with h; injection h with _ h; subst h; exact .hset _ _ rfl
    ·cases h
   ·cases h
 ·cases h
theorem b1U {H H' : Heap} {t : TypeId} {m k v : Value} (h : a0Q P H t m k v = some H') : LK H H' := by
 unfold a0Q at h
 simp only [cX] at h
 obtain ⟨⟨kt, et⟩, _, h⟩ := h
 dsimp only at h
 split at h
 ·split at h
  ·split at h
   ·simp only [cX] at h
    obtain ⟨r, _, h⟩ := h
    split at h
    ·simp only [cX] at h
     obtain ⟨e, _, h⟩ := h
     split at h
     ·injection h with h; subst h; exact .hset _ _ rfl
     ·cases h
    ·injection h with h; subst h; exact .hset _ _ rfl
   ·cases h
  ·cases h
 ·cases h
theorem a7i {H H' : Heap} {t : TypeId} {m k r : Value} (h : sL P H t m k = some (r, H')) : LK H H' := by
 unfold sL at h
 simp only [cX] at h
 obtain ⟨⟨kt, et⟩, _, h⟩ := h
 dsimp only at h
 split at h
 ·split at h
  ·split at h
   ·simp only [cX] at h
    obtain ⟨r, _, h⟩ := h
    split at h
    ·simp only [cX] at h
     obtain ⟨e, _, h⟩ := h
     split at h
     ·injection h with h; injection h with _ h; subst h; exact .hset _ _ rfl
     ·cases h
    ·simp only [cX] at h
     obtain ⟨z, _, h⟩ := h
     split at h
     ·injection h with h; injection h with _ h; subst h; exact .hset _ _ rfl
     ·cases h
   ·cases h
  ·cases h
 ·cases h
theorem a7s {H H' : Heap} {m b v : Value} (h : rG H m b v = some H') : LK H H' := by
 unfold rG at h
 split at h
 ·split at h
  ·split at h
   ·simp only [cX] at h
    obtain ⟨e, _, h⟩ := h
    injection h with h; subst h; exact .hset _ _ rfl
   ·cases h
  ·cases h
 ·cases h
theorem a2T {H H' : Heap} {t : TypeId} {o : Option Value} {r : Value} (h : pI P H t o = some (r, H')) : LK H H' := by
 unfold pI at h
 simp only [cX] at h
 obtain ⟨_, _, h⟩ := h
 split at h
 ·injection h with h; injection h with _ h; subst h; exact .cons _ _
 ·injection h with h; injection h with _ h; subst h; exact .cons _ _
 ·cases h
theorem a6a {H H' : Heap} {o : Oper} {l : List Value} {r : Value} (h : kO P o l H = some (r, H')) : H' = H := by
 unfold kO at h
 split at h
 ·split at h
  ·split at h
   ·injection h with h; injection h with _ h; exact h.symm
   ·cases h
  ·cases h
 ·cases h
theorem vK {H H' : Heap} {v r : Value} (h : some (v, H) = some (r, H')) : LK H H' := by injection h with h; injection h with _ h; subst h; exact .refl _
theorem tU {H H' : Heap} {v : Option Value} {r : Value} (h : v.map (fun v => (v, H)) = some (r, H')) : LK H H' := by
 cases v with
 | none => cases h
 | some v => exact vK h
set_option maxHeartbeats 1000000 in
theorem b4g {H H' : Heap} {o : Oper} {l : List Value} {r : Value} (h : opD P o l H = some (r, H')) : LK H H' := by
 obtain ⟨dst, op, type, pos, after, guard⟩ := o
 have pl : ∀ {o : Oper}, kO P o l H = some (r, H') → LK H H' := fun h => by rw [a6a h]; exact .refl _
 cases op with
 | alloc t =>
   simp only [opD, cX] at h
   obtain ⟨z, _, h⟩ := h
   split at h
   ·exact a5G h
   ·cases h
 | box t x => simp only [opD] at h; exact a3w h
 | store t x y =>
   simp only [opD, dc] at h
   obtain ⟨H1, h, e⟩ := h
   injection e with _ e; subst e
   exact a7h h
 | mapUpdate t m x y =>
   simp only [opD, dc] at h
   obtain ⟨H1, h, e⟩ := h
   injection e with _ e; subst e
   exact b1U h
 | mapEntry t m x => simp only [opD] at h; exact a7i h
 | entryStore t m x y =>
   simp only [opD, dc] at h
   obtain ⟨H1, h, e⟩ := h
   injection e with _ e; subst e
   exact a7s h
 | makeMap t x => simp only [opD] at h; exact a2T h
 | buildSlice t len parts =>
   simp only [opD, cX] at h
   obtain ⟨elem, _, size, _, z, _, h⟩ := h
   split at h
   ·injection h with h; injection h with _ h; subst h; exact .row _ _ _
   split at h
   ·simp only [dc] at h
    obtain ⟨cs, _, e⟩ := h
    injection e with _ e; subst e
    exact .row _ _ _
   ·cases h
 | makeSlice t n c =>
   simp only [opD, cX] at h
   obtain ⟨elem, _, size, _, bytes, _, z, _, h⟩ := h
   split at h
   ·split at h
    ·injection h with h; injection h with _ h; subst h; exact .row _ _ _
    ·cases h
   ·cases h
 | call c =>
   simp only [opD] at h
   split at h
   ·split at h
    ·split at h
     all_goals first | exact tU h | cases h
    ·cases h
   ·split at h
    ·exact a4z h
    ·cases h
   ·split at h
    ·exact a9d h
    ·cases h
   ·split at h
    ·exact a6P h
    ·cases h
   ·exact pl h
   ·split at h
    ·split at h
     ·split at h
      ·cases h
      ·exact vK h
     ·cases h
    ·cases h
   ·split at h
    ·exact a5f h
    ·cases h
   ·exact pl h
   ·exact pl h
   ·cases h
 | convert s t x =>
   simp only [opD] at h
   split at h
   ·exact pl h
   ·split at h
    ·split at h
     ·exact tU h
     ·cases h
    ·split at h
     ·simp only [cX] at h
      obtain ⟨_, _, h⟩ := h
      injection h with h; injection h with _ h; subst h
      rw [b0t]; exact .cons _ _
     ·cases h
    ·split at h
     ·exact vK h
     ·cases h
    ·cases h
 | slice t x lo hi mx =>
   cases mx with
   | some _ => simp only [opD] at h; cases h
   | none =>
     simp only [opD] at h
     split at h
     ·exact pl h
     ·split at h
      ·exact tU h
      ·exact tU h
 | _ =>
   simp only [opD] at h
   repeat' first
    | exact LK.refl _
    | exact vK h
    | exact tU h
    | exact pl h
    | (cases h; done)
    | split at h
    | (simp only [cX, dc] at h; obtain ⟨_, _, h⟩ := h)
    | (obtain ⟨_, _, h⟩ := h)
    | (injection h with h; injection h with _ h; subst h; exact LK.refl _)
    | (injection h with _ h; subst h; exact LK.refl _)
    | (cases h; exact LK.refl _)
end
end Go.Ds
namespace Go.Ds
variable {P : Program}
structure CallsOk (P : Program) (C : Calls') (H0 : Heap) : Prop where
 fn : ∀ p f args H v H1, LK H0 H → (C.fn p f args H).Is v H1 → p = kQ f → (FnS P f args H (fun v' H' => v' = v ∧ H' = H1) ∨ pS P f args H = some (v, H1)) ∧ LK H H1
 rd : ∀ L args H v H1, LK H0 H → (C.rd L args H).Is v H1 → xX P L args H v H1 ∧ LK H H1
noncomputable def iU (x : Operand) : LArg := match x with
 | .tmp t => .t (kQ t)
 | .const v => .c v
 | .global g => .c (.pointer (some ⟨g, 0, none⟩))
 | .func k => .c (.func (.func k) #[] #[])
theorem kX {α : Type} (x : Operand) (K : LArg → α) : lN x K = K (iU x) := by
 cases x with
 | tmp t => exact lH _ _
 | _ => rfl
theorem jS {f : Fr} {l : List Value} (h : FAg f l) (x : Operand) : mH f (iU x) = ev l x := by
 cases x with
 | tmp t => exact h t
 | _ => rfl
theorem a3z {α : Type} (l : List Operand) (K : List LArg → α) : a5d l K = K (l.map iU) := by
 induction l generalizing K with
 | nil => rfl
 | cons x l ih =>
   show lN x (fun x => a5d l fun l => K (x :: l)) = _
   rw [kX, ih]; rfl
theorem a5T {α : Type} {f : Fr} {l : List Value} (h : FAg f l) (xs : List Operand) (K : List Value → α) : a3T f (xs.map iU) K = K (xs.map (ev l)) := by
 induction xs generalizing K with
 | nil => rfl
 | cons x xs ih =>
   show oG (mH f (iU x)) (fun v => a3T f (xs.map iU) fun l => K (v :: l)) = _
   rw [mO, ih, jS h]; rfl
theorem c1O {f : Fr} {l : List Value} (h : FAg f l) : evF f = ev l := by
 funext x
 cases x with
 | tmp t => exact h t
 | _ => rfl
def vS (P : Program) (o : Oper) (lo : LOp) : Prop := ∀ C H0 f l H v H1, CallsOk P C H0 → LK H0 H → FAg f l → (opF P C lo f H).Is v H1 → StepR P o l H v H1 ∧ LK H H1
def LowPl (P : Program) (o : Oper) (lo : LOp) : Prop := ∀ C f l H v H1, FAg f l → (opF P C lo f H).Is v H1 → opD P o l H = some (v, H1)
theorem LowPl.low {o : Oper} {lo : LOp} (hok : o.op.operands.toList.all iN = true) (h : LowPl P o lo) : vS P o lo :=
 fun C _ f l H v H1 _ _ hf hr => by have := h C f l H v H1 hf hr; exact ⟨.op hok this, b4g this⟩
theorem b8y (o : Oper) : vS P o .bad := fun _ _ _ _ _ _ _ _ _ _ h => absurd h Rs.ar
theorem b9h (o : Oper) : LowPl P o (.gen o) := fun C f l H v H1 hf hr => by
 have hr : (match c2j P o (evF f) H with | some (v, H1) => Rs.th v H1 | none => .no).Is v H1 := hr
 rw [c1O hf] at hr
 have e : c2j P o (ev l) H = opD P o l H := rfl
 rw [e] at hr
 split at hr
 ·rename_i v2 H2 h2
  obtain ⟨rfl, rfl⟩ := Rs.aQ hr
  exact h2
 ·exact absurd hr Rs.ar
section
variable {dst : Option Tmp} {type : TypeId} {pos : String} {after : Array Edge} {guard : Option (Nat × Bool)}
theorem c0G (x : Operand) : LowPl P ⟨dst, .move x, type, pos, after, guard⟩ (.mv (iU x)) := fun C f l H v H1 hf hr => by
 have hr : (oG (mH f (iU x)) fun v => Rs.ok v H).Is v H1 := hr
 rw [mO, jS hf] at hr
 obtain ⟨rfl, rfl⟩ := Rs.aM hr
 rfl
theorem c0C (x : Operand) : LowPl P ⟨dst, .assign x, type, pos, after, guard⟩ (.mv (iU x)) := fun C f l H v H1 hf hr => by
 have hr : (oG (mH f (iU x)) fun v => Rs.ok v H).Is v H1 := hr
 rw [mO, jS hf] at hr
 obtain ⟨rfl, rfl⟩ := Rs.aM hr
 rfl
theorem b5O (c a b : Operand) : LowPl P ⟨dst, .pick c a b, type, pos, after, guard⟩ (.pick (iU c) (iU a) (iU b)) := fun C f l H v H1 hf hr => by
 have hr : (b6e (iU c) (iU a) (iU b) f H).Is v H1 := hr
 unfold b6e at hr
 rw [jS hf] at hr
 split at hr
 ·rename_i t ht
  rw [mO] at hr
  simp only [opD, ht]
  cases t
  ·have hr : (Rs.ok (mH f (iU b)) H).Is v H1 := hr
   rw [jS hf] at hr
   obtain ⟨rfl, rfl⟩ := Rs.aM hr; rfl
  ·have hr : (Rs.ok (mH f (iU a)) H).Is v H1 := hr
   rw [jS hf] at hr
   obtain ⟨rfl, rfl⟩ := Rs.aM hr; rfl
 ·exact absurd hr Rs.ar
theorem b7M (a b : Int) : c4N a b = a * b := by cases a <;> cases b <;> rfl
theorem a4n (a b : Int) : c4x a b = a.tdiv b := by cases a <;> cases b <;> rfl
theorem a4Q (a b : Int) : c4P a b = a.tmod b := by cases a <;> cases b <;> rfl
theorem b8E {op : BinOp} {g : IntKind → Int → Int → Option Value} (h : b9j op = some g) (k : IntKind) (a b : Int) : mG op k a b = g k a b := by
 cases op <;> simp only [b9j] at h <;> first | (cases h; done) | (injection h with h; subst h)
 all_goals first
  | rfl
  | (simp only [mG, c2H, b7M]; done)
  | (simp only [mG, b8i, a4n]; done)
  | (simp only [mG, b8a, a4Q]; done)
  | (simp only [mG, b8i, a4n]; rfl)
  | (simp only [mG, b8a, a4Q]; rfl)
  | (simp only [mG, b8i, a4n]; cases eqI b 0 <;> rfl)
  | (simp only [mG, b8a, a4Q]; cases eqI b 0 <;> rfl)
theorem c3h {o : Option Value} {H H1 : Heap} {v : Value} (h : (oV o H).Is v H1) : o = some v ∧ H1 = H := by
 cases o with
 | none => exact absurd h Rs.ar
 | some w => obtain ⟨rfl, rfl⟩ := Rs.aQ h; exact ⟨rfl, rfl⟩
theorem b5g {o : Option Value} {H H1 : Heap} {v : Value} (h : (okV o H).Is v H1) : o = some v ∧ H1 = H := by
 cases o with
 | none => exact absurd h Rs.ar
 | some w =>
   have h : (oG w fun v => Rs.ok v H).Is v H1 := h
   rw [mO] at h
   obtain ⟨rfl, rfl⟩ := Rs.aM h; exact ⟨rfl, rfl⟩
theorem b7k {op : BinOp} {g : IntKind → Int → Int → Option Value} (hg : b9j op = some g) (t yt : TypeId) (x y : Operand) : LowPl P ⟨dst, .binOp op t x y yt, type, pos, after, guard⟩ (.bin g (iU x) (iU y)) := fun C f l H v H1 hf hr => by
 have hr : (c2b g (iU x) (iU y) f H).Is v H1 := hr
 unfold c2b at hr
 rw [jS hf] at hr
 split at hr
 ·rename_i k a hx
  unfold b9x at hr
  rw [jS hf] at hr
  split at hr
  ·rename_i k' b hy
   obtain ⟨hk, hq⟩ := lB hr
   obtain rfl := b8q hk
   obtain ⟨hv, rfl⟩ := c3h hq
   rw [← b8E hg] at hv
   have : opD P ⟨dst, .binOp op t x y yt, type, pos, after, guard ⟩ l H1 = if k = k then (match mG op k a b with | some v => some (v, H1) | none => kO P ⟨dst, .binOp op t x y yt, type, pos, after, guard ⟩ l H1) else kO P ⟨dst, .binOp op t x y yt, type, pos, after, guard ⟩ l H1 := by
    simp only [opD, hx, hy]
    cases op <;> rfl
   rw [this, if_pos rfl, hv]
  ·exact absurd hr Rs.ar
 ·exact absurd hr Rs.ar
theorem b9b {b : Option Blk} {i e : Nat} {H H1 : Heap} {v : Value} (h : (b8Z b i e H).Is v H1) : H1 = H ∧ ∃ cs ty rw lo ver, b = some (.cells cs ty rw lo ver) ∧ lo ≤ e ∧ e ≤ cs.length ∧ i + 1 ≤ e ∧ cs[i]? = some v := by
 unfold b8Z at h
 split at h
 ·rename_i cs ty rw lo ver
  obtain ⟨h1, h⟩ := lB h
  obtain ⟨h2, h⟩ := lB h
  obtain ⟨h3, h⟩ := lB h
  have h : (okV (a0R cs i) H).Is v H1 := h
  obtain ⟨h4, h5⟩ := b5g h
  rw [yG] at h2
  rw [xV] at h4
  exact ⟨h5, cs, ty, rw, lo, ver, rfl, eu h1, by simpa using h2, eu h3, h4⟩
 ·exact absurd h Rs.ar
theorem b8d {b : Option Blk} {n i e : Nat} {H H1 : Heap} {v : Value} (h : (b8O b n i e H).Is v H1) : H1 = H ∧ ∃ cs ty rw lo ver, b = some (.cells cs ty rw lo ver) ∧ lo ≤ e ∧ e ≤ cs.length ∧ i + n ≤ e ∧ v = .agg ((cs.drop i).take n).toArray := by
 unfold b8O at h
 split at h
 ·rename_i cs ty rw lo ver
  obtain ⟨h1, h⟩ := lB h
  obtain ⟨h2, h⟩ := lB h
  obtain ⟨h3, h⟩ := lB h
  obtain ⟨h4, h⟩ := a6i h
  obtain ⟨rfl, rfl⟩ := Rs.aM h
  rw [yG] at h2
  exact ⟨rfl, cs, ty, rw, lo, ver, rfl, eu h1, by simpa using h2, eu h3, by rw [a7H]⟩
 ·exact absurd h Rs.ar
theorem b0R {X : LArg} {f : Fr} {H H1 : Heap} {v w : Value} {t : TypeId} (ht : jQ P t = some false) (hw : mH f X = w) (h : (b2x X f H).Is v H1) : H1 = H ∧ lO P H t w = some v := by
 unfold b2x at h
 rw [hw] at h
 split at h
 ·rename_i A i e
  obtain ⟨h1, cs, ty, rw', lo, ver, h2, h3, h4, h5, h6⟩ := b9b h
  refine ⟨h1, ?_⟩
  simp only [lO, ht, jB, h2]
  rw [if_pos (by simp; omega)]
  simp [h6]
 ·rename_i A i
  unfold c1c at h
  split at h
  ·rename_i cs ty lo hg
   obtain ⟨h1, h⟩ := lB h
   rw [yG] at h1
   have h1 : lo ≤ cs.length := by simpa using h1
   cases hn : a0R cs i with
   | none => rw [hn] at h; exact absurd h Rs.ar
   | some c =>
     rw [hn] at h
     have h : (oG c fun v => Rs.ok v H).Is v H1 := h
     rw [mO] at h
     obtain ⟨rfl, rfl⟩ := Rs.aM h
     rw [xV] at hn
     have hi := (dq.1 hn).1
     refine ⟨rfl, ?_⟩
     simp only [lO, ht, jB, hg]
     rw [if_pos (by simp; omega)]
     simp [hn]
  ·exact absurd h Rs.ar
 ·exact absurd h Rs.ar
theorem b0W {X : LArg} {f : Fr} {H H1 : Heap} {v w : Value} {t : TypeId} {n : Nat} (ht : jQ P t = some true) (hn : iD P t = some n) (hw : mH f X = w) (h : (b1p n X f H).Is v H1) : H1 = H ∧ lO P H t w = some v := by
 unfold b1p at h
 rw [hw] at h
 split at h
 ·rename_i A i e
  obtain ⟨h1, cs, ty, rw', lo, ver, h2, h3, h4, h5, h6⟩ := b8d h
  refine ⟨h1, ?_⟩
  simp only [lO, ht, hn, cV, jB, h2]
  rw [if_pos (by simp; omega), h6]
  rfl
 ·exact absurd h Rs.ar
theorem b9k {t : TypeId} (ht : jQ P t = some false) (x : Operand) : LowPl P ⟨dst, .load t x, type, pos, after, guard⟩ (.ld1 (iU x)) := fun C f l H v H1 hf hr => by
 obtain ⟨rfl, h⟩ := b0R (P := P) ht (jS hf x) hr
 simp only [opD, h, dK]
theorem b6X {t : TypeId} {n : Nat} (ht : jQ P t = some true) (hn : iD P t = some n) (x : Operand) : LowPl P ⟨dst, .load t x, type, pos, after, guard⟩ (.ldn n (iU x)) := fun C f l H v H1 hf hr => by
 obtain ⟨rfl, h⟩ := b0W (P := P) ht hn (jS hf x) hr
 simp only [opD, h, dK]
theorem c2d {t : TypeId} {n : Nat} (hn : iD P t = some n) (x y : Operand) : LowPl P ⟨dst, .store t x y, type, pos, after, guard⟩ (.st n (iU x) (iU y)) := fun C f l H v H1 hf hr => by
 have hr : (hSt n (iU x) (iU y) f H).Is v H1 := hr
 unfold hSt at hr
 rw [jS hf, jS hf] at hr
 split at hr
 ·rename_i A i e hx
  unfold stB at hr
  split at hr
  ·rename_i cs ty lo ver hg
   obtain ⟨h1, hr⟩ := lB hr
   obtain ⟨h2, hr⟩ := lB hr
   obtain ⟨h3, hr⟩ := lB hr
   obtain ⟨h4, hr⟩ := lB hr
   obtain ⟨h5, hr⟩ := lB hr
   obtain ⟨rfl, rfl⟩ := Rs.aQ hr
   rw [xH] at h1 h3
   have h1 : n = (ev l y).cells.toList.length := by simpa only [decide_eq_true_eq] using h1
   have h3 : e = cs.length := by simpa only [decide_eq_true_eq] using h3
   have h4 : i + n ≤ e := eu h4
   have h5 : lo ≤ e := eu h5
   simp only [opD, qR, hx, hg]
   rw [if_pos ⟨by rw [hn, h1], h2, h3, by omega, h5⟩]
   simp only [dK]
   rw [h3]
  ·exact absurd hr Rs.ar
 ·exact absurd hr Rs.ar
theorem c0L {s : TypeId} {k n : Nat} {fd : Field} (hf' : oA P s k = some fd) (hn : iD P fd.type = some n) (hn0 : n ≠ 0) (x : Operand) : LowPl P ⟨dst, .fieldAddr s x k, type, pos, after, guard⟩ (.fa fd.offset (iU x)) := fun C f l H v H1 hf hr => by
 have hr : (hFa fd.offset (iU x) f H).Is v H1 := hr
 unfold hFa at hr
 rw [jS hf] at hr
 split at hr
 ·rename_i A i e hx
  rw [jZ] at hr
  obtain ⟨rfl, rfl⟩ := Rs.aM hr
  simp only [opD, hx, hf', cV, hn]
  rw [if_neg (by simpa using hn0)]; rfl
 ·exact absurd hr Rs.ar
theorem b4W {A i e size n : Nat} {H H1 : Heap} {j v : Value} (h : (ixP A i e size n H j).Is v H1) : H1 = H ∧ ∃ k m, j = .int k (.ofNat m) ∧ m < n ∧ v = .pointer (some ⟨A, i + m * size, some e⟩) := by
 unfold ixP at h
 split at h
 ·rename_i k m
  obtain ⟨h1, h⟩ := lB h
  rw [jZ] at h
  obtain ⟨rfl, rfl⟩ := Rs.aM h
  rw [blt_eq] at h1
  exact ⟨rfl, k, m, rfl, by simpa using h1, rfl⟩
 ·exact absurd h Rs.ar
theorem b8H {t elem : TypeId} {size : Nat} (ht : P.underlying t = some (.slice elem)) (hs : iD P elem = some size) (x i : Operand) : LowPl P ⟨dst, .indexAddr t x i, type, pos, after, guard⟩ (.ixs size (iU x) (iU i)) := fun C f l H v H1 hf hr => by
 have hr : (c1M size (iU x) (iU i) f H).Is v H1 := hr
 unfold c1M at hr
 rw [jS hf, jS hf] at hr
 split at hr
 ·rename_i A a e n c hx
  obtain ⟨rfl, k, m, hj, hm, rfl⟩ := b4W hr
  simp only [opD, ht, hx, hj, hs, cV]
  rw [if_pos (by simp; omega)]
  rfl
 ·exact absurd hr Rs.ar
theorem c3a (a b : Nat) : Nat.beq a b = (a == b) := by
 cases h : Nat.beq a b with
 | true => rw [dP h]; simp
 | false => have := Nat.ne_of_beq_eq_false h; simp [this]
theorem c0s {A i size n : Nat} {H H1 : Heap} {j v : Value} (h : (ixG A i size n H j).Is v H1) : H1 = H ∧ ∃ k m, j = .int k (.ofNat m) ∧ m < n ∧ v = .pointer (some ⟨A, i + m * size, none⟩) := by
 unfold ixG at h
 split at h
 ·rename_i k m
  obtain ⟨h1, h⟩ := lB h
  rw [jZ] at h
  obtain ⟨rfl, rfl⟩ := Rs.aM h
  exact ⟨rfl, k, m, rfl, by simpa [gU] using h1, rfl⟩
 ·exact absurd h Rs.ar
theorem b6U {t elem : TypeId} {n size : Nat} (ht : P.underlying t = some (.array n elem)) (hs : iD P elem = some size) (x i : Operand) : LowPl P ⟨dst, .indexAddr t x i, type, pos, after, guard⟩ (.ixa n size (iU x) (iU i)) := fun C f l H v H1 hf hr => by
 have hr : (c1Z n size (iU x) (iU i) f H).Is v H1 := hr
 unfold c1Z at hr
 rw [jS hf, jS hf] at hr
 split at hr
 ·rename_i A a e hx
  obtain ⟨rfl, k, m, hj, hm, rfl⟩ := b4W hr
  simp only [opD, ht, hx, hj, hs, cV]
  rw [if_pos (by simp; omega)]
  rfl
 ·rename_i A a hx
  obtain ⟨rfl, k, m, hj, hm, rfl⟩ := c0s hr
  simp only [opD, ht, hx, hj, hs, cV]
  rw [if_pos (by simp; omega)]
  rfl
 ·exact absurd hr Rs.ar
theorem b7I (i : Nat) (x : Operand) : LowPl P ⟨dst, .extract x i, type, pos, after, guard⟩ (.ext i (iU x)) := fun C f l H v H1 hf hr => by
 have hr : (c2e i (iU x) f H).Is v H1 := hr
 unfold c2e at hr
 rw [jS hf] at hr
 split at hr
 ·rename_i vs hx
  obtain ⟨h1, rfl⟩ := b5g hr
  rw [xV] at h1
  simp only [opD, hx]
  simp [h1]
 ·exact absurd hr Rs.ar
theorem b9a {c : Call} {elem : TypeId} (hc : c.callee = .builtin .len) (h1 : c.args.size = 1) (h2 : c.argTypes.size = 1) (ht : P.underlying (c.argTypes.getD 0 0) = some (.slice elem)) : LowPl P ⟨dst, .call c, type, pos, after, guard⟩ (.len (iU (c.args.getD 0 (.tmp 0)))) := fun C f l H v H1 hf hr => by
 have hr : (c1l (iU (c.args.getD 0 (.tmp 0))) f H).Is v H1 := hr
 unfold c1l at hr
 rw [jS hf] at hr
 split at hr
 ·rename_i a n k hx
  obtain ⟨rfl, rfl⟩ := Rs.aQ hr
  simp only [opD, hc, h1, h2, ht, hx, wT]; rfl
 ·exact absurd hr Rs.ar
theorem b5V {c : Call} (hc : c.callee = .builtin .len) (h1 : c.args.size = 1) (h2 : c.argTypes.size = 1) (ht : P.underlying (c.argTypes.getD 0 0) = some .string) : LowPl P ⟨dst, .call c, type, pos, after, guard⟩ (.slen (iU (c.args.getD 0 (.tmp 0)))) := fun C f l H v H1 hf hr => by
 have hr : (b5A (iU (c.args.getD 0 (.tmp 0))) f H).Is v H1 := hr
 unfold b5A at hr
 rw [jS hf] at hr
 split at hr
 ·rename_i s hx
  obtain ⟨rfl, rfl⟩ := Rs.aQ hr
  simp only [opD, hc, h1, h2, ht, hx, wT]; rfl
 ·exact absurd hr Rs.ar
theorem b7b {c : Call} {elem : TypeId} {size bytes : Nat} {z : Value} (hc : c.callee = .builtin .append) (h1 : c.args.size = 2) (h2 : c.argTypes.size = 2) (hi : ((P.underlying (c.argTypes.getD 1 0)).map pM) = some true)
 (he : iJ P (c.argTypes.getD 0 0) = some elem) (hs : iD P elem = some size) (hb : nJ P elem = some bytes) (hz : iZ P elem = some z) (hzs : z.cells.size = size) (hs0 : size ≠ 0) :
 LowPl P ⟨dst, .call c, type, pos, after, guard⟩ (.app elem size bytes (iU (c.args.getD 0 (.tmp 0))) (iU (c.args.getD 1 (.tmp 0)))) := fun C f l H v H1 hf hr => by
 have hr : (c1x P elem size bytes (iU (c.args.getD 0 (.tmp 0))) (iU (c.args.getD 1 (.tmp 0))) f H).Is v H1 := hr
 unfold c1x at hr
 rw [jS hf, jS hf] at hr
 have hD : opD P ⟨dst, .call c, type, pos, after, guard⟩ l H = nD P H (c.argTypes.getD 0 0) (ev l (c.args.getD 0 (.tmp 0))) (ev l (c.args.getD 1 (.tmp 0))) := by
  simp only [opD, hc, h1, h2, hi]; rfl
 rw [hD]
 unfold nD
 rw [he, cV, hs, cV, hb, cV, hz, cV]
 split at hr
 ·rename_i n m hsrc
  rw [hsrc, cV]
  unfold c4S at hr
  split at hr
  ·rename_i k cc hx
   obtain ⟨g1, hq1⟩ := lB hr
   obtain ⟨g2, hq2⟩ := lB hq1
   obtain ⟨g3, hq⟩ := lB hq2
   clear hr hq1 hq2
   obtain rfl : k = 0 := dP g1
   obtain rfl : cc = 0 := dP g2
   have g3 : n * (bytes + 1) ≤ oN := eu g3
   simp only [hx]
   rw [if_pos (by simp [hs0, hzs, g3])]
   rw [kP] at hq
   by_cases hn : n = 0
   ·subst hn
    rw [if_pos (by rfl)] at hq
    obtain ⟨rfl, rfl⟩ := Rs.aM hq
    simp
   ·rw [if_neg (fun e => hn (dP e))] at hq
    obtain ⟨rfl, rfl⟩ := Rs.aQ hq
    simp [hn]
  ·rename_i A i e k cc hx
   unfold c4R at hr
   split at hr
   ·rename_i cs ty lo ver hg
    obtain ⟨g2, hr⟩ := lB hr
    obtain ⟨g4, hr⟩ := lB hr
    obtain ⟨g5, hr⟩ := lB hr
    have g2 : (ty == elem || iD P ty == some size) = true := by
     rw [c3a] at g2
     cases hh : (ty == elem) with
     | true => rfl
     | false => rw [hh] at g2; exact g2
    rw [xH] at g4
    have g4 : e = cs.length := by simpa only [decide_eq_true_eq] using g4
    have g5 : lo ≤ e := eu g5
    simp only [hx, hg]
    rw [kP] at hr
    by_cases g3 : i + k * size = e
    ·rw [if_pos (by simpa using g3)] at hr
     obtain ⟨g1, hr⟩ := lB hr
     obtain ⟨rfl, rfl⟩ := Rs.aQ hr
     have g1 : (k + n) * (bytes + 1) ≤ oN := eu g1
     have et : (Bool.rec (motive := fun _ => Nat) 2 ver (Nat.beq ty elem)) = (if (ty == elem) = true then ver else 2) := by
      rw [c3a]
      cases hh : (ty == elem) with
      | true => rfl
      | false => rfl
     rw [et, if_pos (by simp only [g2, ft, cW, bne_iff_ne, beq_iff_eq, decide_eq_true_eq]; exact ⟨⟨⟨⟨⟨hs0, g1⟩, by simpa using hzs⟩, g3⟩, g4⟩, g5⟩)]
    ·rw [if_neg (by simpa using g3)] at hr
     rw [kP] at hr
     by_cases hn : n = 0
     ·rw [if_pos (by simpa using hn)] at hr
      exact absurd hr Rs.ar
     ·rw [if_neg (by simpa using hn)] at hr
      obtain ⟨g6, hr⟩ := lB hr
      obtain ⟨rfl, rfl⟩ := Rs.aQ hr
      have g6 : i + (k + n) * size ≤ e := eu g6
      rw [if_neg (by simp [g3]), if_pos (by simp only [g2, ft, cW, bne_iff_ne, beq_iff_eq, decide_eq_true_eq]; exact ⟨⟨⟨⟨⟨hs0, hn⟩, by simpa using hzs⟩, g6⟩, g4⟩, g5⟩), g4]
   ·exact absurd hr Rs.ar
  ·exact absurd hr Rs.ar
 ·exact absurd hr Rs.ar
theorem b1N {c : Call} {k : FuncId} (hc : c.callee = .value (.func k)) (hok : (Op.call c).operands.toList.all iN = true) : vS P ⟨dst, .call c, type, pos, after, guard⟩ (.callF k (kQ k) (c.args.toList.map iU)) := fun C H0 f l H v H1 hC hk hf hr => by
 have hr : (a3T f (c.args.toList.map iU) fun l => C.fn (kQ k) k l H).Is v H1 := hr
 rw [a5T hf] at hr
 obtain ⟨h1 | hx, h2⟩ := hC.fn _ _ _ _ _ _ hk hr rfl
 case inr => exact ⟨.ext hok c (.func k) k #[] #[] rfl hc rfl (by simpa using hx), h2⟩
 obtain ⟨he, v', H', hcall, rfl, rfl⟩ := h1.fn
 exact ⟨.call hok c (.func k) k #[] #[] rfl hc rfl he (by simpa using hcall), h2⟩
theorem b2K {c : Call} {g : Operand} (hc : c.callee = .value g) (hok : (Op.call c).operands.toList.all iN = true) : vS P ⟨dst, .call c, type, pos, after, guard⟩ (.callV (iU g) (c.args.toList.map iU)) := fun C H0 f l H v H1 hC hk hf hr => by
 have hr : (a3T f (c.args.toList.map iU) fun l => a9l C l H (mH f (iU g))).Is v H1 := hr
 rw [a5T hf, jS hf] at hr
 unfold a9l at hr
 split at hr
 ·rename_i k a b hg
  rw [jZ, lH] at hr
  obtain ⟨h1 | hx, h2⟩ := hC.fn _ _ _ _ _ _ hk hr rfl
  case inr => exact ⟨.ext hok c g k ⟨a⟩ ⟨b⟩ rfl hc hg (by simpa [zE] using hx), h2⟩
  obtain ⟨he, v', H', hcall, rfl, rfl⟩ := h1.fn
  exact ⟨.call hok c g k ⟨a⟩ ⟨b⟩ rfl hc hg he (by simpa [zE] using hcall), h2⟩
 ·rename_i L a b hg
  obtain ⟨h1, h2⟩ := hC.rd _ _ _ _ _ hk hr
  exact ⟨.round hok c g L _ _ rfl hc hg h1, h2⟩
 ·exact absurd hr Rs.ar
end
set_option maxHeartbeats 1000000 in
theorem b0Q {α : Type} (o : Oper) (K : LOp → α) : ∃ lo, vS P o lo ∧ xF P o K = K lo := by
 unfold xF
 rw [kP]
 by_cases hok : o.op.operands.toList.all iN = true
 case neg => rw [if_neg hok]; exact ⟨_, b8y o, rfl⟩
 rw [if_pos hok]
 have gen : ∃ lo, vS P o lo ∧ K (.gen o) = K lo := ⟨_, (b9h o).low hok, rfl⟩
 obtain ⟨dst, op, type, pos, after, guard⟩ := o
 unfold c4q
 cases op with
 | move x => simp only [kX]; exact ⟨_, (c0G x).low hok, rfl⟩
 | assign x => simp only [kX]; exact ⟨_, (c0C x).low hok, rfl⟩
 | pick c a b => simp only [kX]; exact ⟨_, (b5O c a b).low hok, rfl⟩
 | binOp op t x y yt =>
   simp only [kX, kP]
   split
   ·split
    ·rename_i g hg; exact ⟨_, (b7k hg t yt x y).low hok, rfl⟩
    ·exact gen
   ·exact gen
 | load t x =>
   simp only [kX]
   split
   ·rename_i ht
    cases hn : iD P t with
    | none => exact gen
    | some n => rw [oQ]; exact ⟨_, (b6X ht hn x).low hok, rfl⟩
   ·rename_i ht; exact ⟨_, (b9k ht x).low hok, rfl⟩
   ·exact gen
 | store t x y =>
   simp only [kX]
   cases hn : iD P t with
   | none => exact gen
   | some n => rw [oQ]; exact ⟨_, (c2d hn x y).low hok, rfl⟩
 | fieldAddr s x k =>
   simp only [kX]
   split
   ·rename_i fd hfd
    split
    ·exact gen
    ·rename_i n hn0 hn
     rw [jZ]
     exact ⟨_, (c0L hfd hn (fun e => hn0 e) x).low hok, rfl⟩
    ·exact gen
   ·exact gen
 | indexAddr t x i =>
   simp only [kX]
   split
   ·rename_i elem ht
    cases hs : iD P elem with
    | none => exact gen
    | some n => rw [oQ]; exact ⟨_, (b8H ht hs x i).low hok, rfl⟩
   ·rename_i n elem ht
    cases hs : iD P elem with
    | none => exact gen
    | some m => rw [oQ]; exact ⟨_, (b6U ht hs x i).low hok, rfl⟩
   ·exact gen
 | extract t i => simp only [kX]; rw [jZ]; exact ⟨_, (b7I i t).low hok, rfl⟩
 | call c =>
   simp only
   unfold b5h
   split
   ·rename_i k hc
    rw [lH, a3z]
    exact ⟨_, b1N hc hok, rfl⟩
   ·rename_i g _ hc
    rw [kX, a3z]
    exact ⟨_, b2K hc hok, rfl⟩
   ·rename_i hc
    rw [kP]
    split
    ·rename_i h1
     simp only [cW, beq_iff_eq] at h1
     split
     ·rename_i elem ht; rw [kX]; exact ⟨_, (b9a hc h1.1 h1.2 ht).low hok, rfl⟩
     ·rename_i ht; rw [kX]; exact ⟨_, (b5V hc h1.1 h1.2 ht).low hok, rfl⟩
     ·exact gen
    ·exact gen
   ·rename_i hc
    rw [kP]
    split
    ·rename_i h1
     simp only [cW, beq_iff_eq] at h1
     split
     ·rename_i elem he
      cases hs : iD P elem with
      | none => exact gen
      | some size =>
        rw [oQ]
        cases hb : nJ P elem with
        | none => exact gen
        | some bytes =>
          rw [oQ]
          split
          ·rename_i z hz
           rw [kP]
           split
           ·rename_i h2
            simp only [cW, beq_iff_eq, bne_iff_ne] at h2
            rw [jZ, kX, kX]
            exact ⟨_, (b7b hc h1.1.1 h1.1.2 h1.2 he hs hb hz h2.1 h2.2).low hok, rfl⟩
           ·exact gen
          ·exact gen
     ·exact gen
    ·exact gen
   ·exact gen
 | _ => exact gen
def DOk (k : Nat) (dst : Option Tmp) (d : Option Pth) : Prop := (dst = none ∧ d = none) ∨ ∃ t, dst = some t ∧ t < k ∧ d = some (kQ t)
inductive LowOps (P : Program) (k : Nat) (ops : Array Oper) : List Oper → LOps → Prop
 | nil : LowOps P k ops [] .nil
 | cons {o : Oper} {os : List Oper} {d : Option Pth} {lo : LOp} {r : LOps} (hd : DOk k o.dst d) (ho : vS P o lo) (hg : o.guard = none) (hr : LowOps P k ops os r) : LowOps P k ops (o :: os) (.cons d lo r)
 | gcons {o : Oper} {os : List Oper} {d : Option Pth} {lo : LOp} {r : LOps} {j t : Nat} {w : Bool} (hd : DOk k o.dst d) (ho : vS P o lo) (hg : o.guard = some (j, w)) (ht : (ops[j]?).bind (·.dst) = some t) (htk : t < k) (hr : LowOps P k ops os r) : LowOps P k ops (o :: os) (.gcons (kQ t) w d lo r)
def GOk (ops : Array Oper) (o : Oper) (g : Option (Pth × Bool)) : Prop := (o.guard = none ∧ g = none) ∨ ∃ j w t, o.guard = some (j, w) ∧ (ops[j]?).bind (·.dst) = some t ∧ g = some (kQ t, w)
theorem GOk.runs {ops : Array Oper} {o : Oper} {g : Option (Pth × Bool)} (h : GOk ops o g) {f : Fr} {l : List Value} (hf : FAg f l) (hw : Region.wanted o (iT ops l) = true) : b4E f g = true := by
 rcases h with ⟨_, rfl⟩ | ⟨j, w, t, hg, ht, rfl⟩
 ·rfl
 ·simp only [Region.wanted, hg, iT, ht] at hw
  show isB (nS (kQ t) f) w = true
  rw [hf t, oF, cZ]
  cases hl : l[t]? with
  | none => rw [hl] at hw; simp at hw
  | some v =>
    rw [hl] at hw
    cases v <;> simp at hw
    subst hw
    rename_i b
    cases b <;> rfl
inductive LowTab (P : Program) (ops : Array Oper) : List (Nat × Nat) → List (Nat × Option Nat × Option (Pth × Bool) × LOp) → Prop
 | nil : LowTab P ops [] []
 | cons {i m : Nat} {o : Oper} {lo : LOp} {tab : List (Nat × Nat)} {t : List (Nat × Option Nat × Option (Pth × Bool) × LOp)} {g : Option (Pth × Bool)} (ho : ops[i]? = some o) (hgd : GOk ops o g) (hl : vS P o lo) (hr : LowTab P ops tab t) :
    LowTab P ops ((i, m) :: tab) ((ops.size - 1 - i, if m < ops.size then some (ops.size - 1 - m) else none, g, lo) :: t)
inductive Low (P : Program) (k : Nat) : Code → LCode → Prop
 | bad (c : Code) : Low P k c .bad
 | skip : Low P k .skip .skip
 | label (t : Nat) : Low P k (.label t) .skip
 | reg {id : Nat} {ops : Array Oper} {d : Bool} {lo : LOps} (h : LowOps P k ops ops.toList lo) (hd : d = true → mT P ops = some []) : Low P k (.region id ops d) (.reg lo)
 | drw {id : Nat} {ops : Array Oper} {lo : LOps} {tab : List (Nat × Nat)} {t : List (Nat × Option Nat × Option (Pth × Bool) × LOp)} (h : LowOps P k ops ops.toList lo) (ht : mT P ops = some tab) (hl : LowTab P ops tab t) : Low P k (.region id ops true) (.drw lo t)
 | seq {a b : Code} {A B : LCode} (ha : Low P k a A) (hb : Low P k b B) : Low P k (.seq a b) (.seq A B)
 | cond {c : Operand} {x y : Code} {X Y : LCode} (hc : iN c = true) (hx : Low P k x X) (hy : Low P k y Y) : Low P k (.cond c x y) (.cond (iU c) X Y)
 | block {id : Nat} {b : Code} {B : LCode} (hb : Low P k b B) : Low P k (.block id b) (.block id B)
 | loop {b : Code} {B : LCode} (hb : Low P k b B) : Low P k (.loop b) (.loop B)
 | exit (id : Nat) : Low P k (.exit id) (.exit id)
 | ret : Low P k .ret .ret
 | range {g : Operand} {ps : Array Tmp} {assign body : Code} {A B : LCode} (hg : iN g = true) (hps : ∀ t ∈ ps.toList, t < k) (ha : Low P k assign A) (hb : Low P k body B) :
    Low P k (.rangeFunc g ps assign body) (.range (iU g) ((List.range k).map kQ) (ps.toList.map kQ) ps assign body A B)
section
variable {α : Type}
theorem b6q (k : Nat) (dst : Option Tmp) (no : α) (K : Option Pth → α) : (∃ d, DOk k dst d ∧ a7b k dst no K = K d) ∨ a7b k dst no K = no := by
 cases dst with
 | none => exact .inl ⟨none, .inl ⟨rfl, rfl⟩, rfl⟩
 | some t =>
   simp only [a7b, kP]
   split
   ·rename_i h
    rw [lH]
    rw [blt_eq] at h
    exact .inl ⟨_, .inr ⟨t, rfl, by simpa using h, rfl⟩, rfl⟩
   ·exact .inr rfl
theorem a2l (k : Nat) (ops : Array Oper) (l : List Oper) (K : LOps → α) (no : α) : (∃ L, LowOps P k ops l L ∧ uA P k ops l K no = K L) ∨ uA P k ops l K no = no := by
 induction l generalizing K with
 | nil => exact .inl ⟨_, .nil, rfl⟩
 | cons o l ih =>
   let K2 : Option Pth → LOp → α := fun d o' => match o.guard with
    | none => uA P k ops l (fun r => K (.cons d o' r)) no
    | some (j, w) => match (ops[j]?).bind (·.dst) with
      | some t => nP (Nat.blt t k) no (lM (kQ t) fun p => a0s w fun w => uA P k ops l (fun r => K (.gcons p w d o' r)) no)
      | none => no
   have e : uA P k ops (o :: l) K no = a7b k o.dst no fun d => xF P o fun o' => K2 d o' := rfl
   rw [e]
   rcases b6q k o.dst no (fun d => xF P o fun o' => K2 d o') with ⟨d, hd, h1⟩ | h1
   ·rw [h1]
    obtain ⟨lo, hlo, h2⟩ := b0Q (P := P) o (fun o' => K2 d o')
    rw [h2]
    simp only [K2]
    split
    ·rename_i hg
     rcases ih (fun r => K (.cons d lo r)) with ⟨L, hL, h3⟩ | h3
     ·exact .inl ⟨_, .cons hd hlo hg hL, h3⟩
     ·exact .inr h3
    ·rename_i j w hg
     split
     ·rename_i t ht
      rw [kP]
      split
      ·rename_i htk
       rw [lH, vI]
       rw [blt_eq] at htk
       rcases ih (fun r => K (.gcons (kQ t) w d lo r)) with ⟨L, hL, h3⟩ | h3
       ·exact .inl ⟨_, .gcons hd hlo hg ht (by simpa using htk) hL, h3⟩
       ·exact .inr h3
      ·exact .inr rfl
     ·exact .inr rfl
   ·exact .inr h1
theorem c0T (k : Nat) (ops : Array Oper) (o : Oper) (no : α) (K : Option (Pth × Bool) → α) : (∃ g, GOk ops o g ∧ loG k ops o.guard no K = K g) ∨ loG k ops o.guard no K = no := by
 cases hg : o.guard with
 | none => exact .inl ⟨none, .inl ⟨hg, rfl⟩, rfl⟩
 | some x =>
   obtain ⟨j, w⟩ := x
   unfold loG
   cases ht : (ops[j]?).bind (·.dst) with
   | none => exact .inr (by simp only [ht])
   | some t =>
     simp only [ht, kP]
     split
     ·refine .inl ⟨some (kQ t, w), .inr ⟨j, w, t, hg, ht, rfl⟩, ?_⟩
      rw [lH, vI]
     ·exact .inr rfl
theorem b3N (k : Nat) (ops : Array Oper) (tab : List (Nat × Nat)) (K : List (Nat × Option Nat × Option (Pth × Bool) × LOp) → α) (no : α) : (∃ t, LowTab P ops tab t ∧ tH P k ops ops.size tab K no = K t) ∨ tH P k ops ops.size tab K no = no := by
 induction tab generalizing K with
 | nil => exact .inl ⟨_, .nil, rfl⟩
 | cons x tab ih =>
   obtain ⟨i, m⟩ := x
   cases ho : ops[i]? with
   | none =>
     refine .inr ?_
     show (match ops[i]? with
      | some o => _
      | none => no) = no
     rw [ho]
   | some o =>
     let K2 : Option (Pth × Bool) → LOp → α := fun g o' => kE (ops.size - 1 - i) fun i => nP (Nat.blt m ops.size) (tH P k ops ops.size tab (fun l => K ((i, none, g, o') :: l)) no) (kE (ops.size - 1 - m) fun m => tH P k ops ops.size tab (fun l => K ((i, some m, g, o') :: l)) no)
     have e : tH P k ops ops.size ((i, m) :: tab) K no = loG k ops o.guard no fun g => xF P o fun o' => K2 g o' := by
      show (match ops[i]? with
       | some o => loG k ops o.guard no fun g => xF P o fun o' => K2 g o'
       | none => no) = _
      rw [ho]
     rw [e]
     rcases c0T k ops o no (fun g => xF P o fun o' => K2 g o') with ⟨g, hgd, h1⟩ | h1
     ·rw [h1]
      obtain ⟨lo, hlo, h2⟩ := b0Q (P := P) o (fun o' => K2 g o')
      rw [h2]
      show (∃ t, _ ∧ kE (ops.size - 1 - i) (fun i => nP (Nat.blt m ops.size) (tH P k ops ops.size tab (fun l => K ((i, none, g, lo) :: l)) no) (kE (ops.size - 1 - m) fun m => tH P k ops ops.size tab (fun l => K ((i, some m, g, lo) :: l)) no)) = K t) ∨ kE (ops.size - 1 - i) (fun i => nP (Nat.blt m ops.size) (tH P k ops ops.size tab (fun l => K ((i, none, g, lo) :: l)) no) (kE (ops.size - 1 - m) fun m => tH P k ops ops.size tab (fun l => K ((i, some m, g, lo) :: l)) no)) = no
      rw [jZ, kP, jZ, blt_eq]
      by_cases hm : m < ops.size
      ·rw [if_pos (by simpa using hm)]
       rcases ih (fun l => K ((ops.size - 1 - i, some (ops.size - 1 - m), g, lo) :: l)) with ⟨t, ht, h3⟩ | h3
       ·have := LowTab.cons (m := m) ho hgd hlo ht
        rw [if_pos hm] at this
        exact .inl ⟨_, this, h3⟩
       ·exact .inr h3
      ·rw [if_neg (by simpa using hm)]
       rcases ih (fun l => K ((ops.size - 1 - i, none, g, lo) :: l)) with ⟨t, ht, h3⟩ | h3
       ·have := LowTab.cons (m := m) ho hgd hlo ht
        rw [if_neg hm] at this
        exact .inl ⟨_, this, h3⟩
       ·exact .inr h3
     ·exact .inr h1
theorem b3i (k : Nat) (l : List Tmp) (K : List Pth → α) (no : α) : ((∀ t ∈ l, t < k) ∧ wV k l K no = K (l.map kQ)) ∨ wV k l K no = no := by
 induction l generalizing K with
 | nil => exact .inl ⟨by simp, rfl⟩
 | cons t l ih =>
   show _ ∨ nP (Nat.blt t k) no (lM (kQ t) fun p => wV k l (fun l => K (p :: l)) no) = no
   have e : wV k (t :: l) K no = nP (Nat.blt t k) no (lM (kQ t) fun p => wV k l (fun l => K (p :: l)) no) := rfl
   rw [e, kP, lH, blt_eq]
   by_cases h : t < k
   ·rw [if_pos (by simpa using h)]
    rcases ih (fun l => K (kQ t :: l)) with ⟨h1, h2⟩ | h2
    ·exact .inl ⟨by simpa using ⟨h, h1⟩, h2⟩
    ·exact .inr h2
   ·rw [if_neg (by simpa using h)]; exact .inr rfl
theorem b2V (k : Nat) (c : Code) (K : LCode → α) : ∃ C, Low P k c C ∧ mW P k c K = K C := by
 induction c generalizing K with
 | skip => exact ⟨_, .skip, rfl⟩
 | region id ops d =>
   cases d with
   | false =>
     show ∃ C, _ ∧ uA P k ops ops.toList (fun l => K (.reg l)) (K .bad) = K C
     rcases a2l (P := P) k ops ops.toList (fun l => K (.reg l)) (K .bad) with ⟨L, hL, h⟩ | h
     ·exact ⟨_, .reg hL (fun h => by cases h), h⟩
     ·exact ⟨_, .bad _, h⟩
   | true =>
     show ∃ C, _ ∧ (match mT P ops with
      | some [] => uA P k ops ops.toList (fun l => K (.reg l)) (K .bad)
      | some tab => uA P k ops ops.toList (fun l => tH P k ops ops.size tab (fun t => K (.drw l t)) (K .bad)) (K .bad)
      | none => K .bad) = K C
     split
     ·rename_i hd
      rcases a2l (P := P) k ops ops.toList (fun l => K (.reg l)) (K .bad) with ⟨L, hL, h⟩ | h
      ·exact ⟨_, .reg hL (fun _ => hd), h⟩
      ·exact ⟨_, .bad _, h⟩
     ·rename_i tab _ hd
      rcases a2l (P := P) k ops ops.toList (fun l => tH P k ops ops.size tab (fun t => K (.drw l t)) (K .bad)) (K .bad) with ⟨L, hL, h⟩ | h
      ·rw [h]
       rcases b3N (P := P) k ops tab (fun t => K (.drw L t)) (K .bad) with ⟨t, ht, h2⟩ | h2
       ·exact ⟨_, .drw hL hd ht, h2⟩
       ·exact ⟨_, .bad _, h2⟩
      ·exact ⟨_, .bad _, h⟩
     ·exact ⟨_, .bad _, rfl⟩
 | seq a b iha ihb =>
   show ∃ C, _ ∧ mW P k a (fun a => mW P k b fun b => K (.seq a b)) = K C
   obtain ⟨A, hA, h1⟩ := iha (fun a => mW P k b fun b => K (.seq a b))
   obtain ⟨B, hB, h2⟩ := ihb (fun b => K (.seq A b))
   exact ⟨_, .seq hA hB, h1.trans h2⟩
 | cond c x y ihx ihy =>
   show ∃ C, _ ∧ nP (iN c) (K .bad) (lN c fun c => mW P k x fun x => mW P k y fun y => K (.cond c x y)) = K C
   rw [kP]
   split
   ·rename_i hc
    rw [kX]
    obtain ⟨X, hX, h1⟩ := ihx (fun x => mW P k y fun y => K (.cond (iU c) x y))
    obtain ⟨Y, hY, h2⟩ := ihy (fun y => K (.cond (iU c) X y))
    exact ⟨_, .cond hc hX hY, h1.trans h2⟩
   ·exact ⟨_, .bad _, rfl⟩
 | block id b ih =>
   show ∃ C, _ ∧ kE id (fun id => mW P k b fun b => K (.block id b)) = K C
   rw [jZ]
   obtain ⟨B, hB, h1⟩ := ih (fun b => K (.block id b))
   exact ⟨_, .block hB, h1⟩
 | loop b ih =>
   show ∃ C, _ ∧ mW P k b (fun b => K (.loop b)) = K C
   obtain ⟨B, hB, h1⟩ := ih (fun b => K (.loop b))
   exact ⟨_, .loop hB, h1⟩
 | rangeFunc g ps assign body iha ihb =>
   show ∃ C, _ ∧ nP (iN g) (K .bad) (lN g fun g' => b2R k fun pp => wV k ps.toList (fun q => mW P k assign fun a => mW P k body fun b => K (.range g' pp q ps assign body a b)) (K .bad)) = K C
   rw [kP]
   split
   ·rename_i hg
    rw [kX, b0T]
    rcases b3i k ps.toList (fun q => mW P k assign fun a => mW P k body fun b => K (.range (iU g) ((List.range k).map kQ) q ps assign body a b)) (K .bad) with ⟨hps, h⟩ | h
    ·obtain ⟨A, hA, h1⟩ := iha (fun a => mW P k body fun b => K (.range (iU g) ((List.range k).map kQ) (ps.toList.map kQ) ps assign body a b))
     obtain ⟨B, hB, h2⟩ := ihb (fun b => K (.range (iU g) ((List.range k).map kQ) (ps.toList.map kQ) ps assign body A b))
     exact ⟨_, .range hg hps hA hB, h.trans (h1.trans h2)⟩
    ·exact ⟨_, .bad _, h⟩
   ·exact ⟨_, .bad _, rfl⟩
 | exit id =>
   show ∃ C, _ ∧ kE id (fun id => K (.exit id)) = K C
   rw [jZ]
   exact ⟨_, .exit id, rfl⟩
 | label t => exact ⟨_, .label t, rfl⟩
 | ret => exact ⟨_, .ret, rfl⟩
 | scope b _ => exact ⟨_, .bad _, rfl⟩
 | goto t => exact ⟨_, .bad _, rfl⟩
 | refuse w => exact ⟨_, .bad _, rfl⟩
end
theorem vN {α : Type} {k : Nat} {f : Fr} {l : List Value} (h : FRel k f l) {dst : Option Tmp} {d : Option Pth} (hd : DOk k dst d) (v : Value) (K : Fr → α) : ∃ f', uG d v f K = K f' ∧ FRel k f' (put l dst v) := by
 rcases hd with ⟨rfl, rfl⟩ | ⟨t, rfl, ht, rfl⟩
 ·exact ⟨f, rfl, h⟩
 ·exact ⟨b5H f t v, sK v (kQ t) f K, h.put ht v⟩
theorem yQ {ops : Array Oper} {l : List Value} {j t : Nat} (ht : (ops[j]?).bind (·.dst) = some t) (htl : t < l.length) (w : Bool) : (iT ops l j == some w) = isB (get l t) w := by
 have hg : get l t = l[t] := by rw [oF]; simp [htl]
 unfold iT
 rw [ht, hg]
 simp only [dj htl]
 cases hv : l[t] <;> simp [isB]
 rename_i b
 cases b <;> cases w <;> rfl
theorem b9m {k : Nat} {ops : Array Oper} {C : Calls'} {H0 : Heap} (hC : CallsOk P C H0) {os : List Oper} {lo : LOps} (hlo : LowOps P k ops os lo) : ∀ {i : Nat}, ops.toList.drop i = os → ∀ {f : Fr} {l : List Value} {H : Heap} {f1 : Fr} {H1 : Heap},
 FRel k f l → LK H0 H → xP P C lo f H = .ok f1 H1 → ∃ l1, FRel k f1 l1 ∧ OpsR P ops (List.range' i os.length) l H l1 H1 ∧ LK H H1 := by
 induction hlo with
 | nil =>
   intro i _ f l H f1 H1 hf _ h
   injection h with h1 h2
   subst h1 h2
   exact ⟨l, hf, .nil l H, .refl H⟩
 | @cons o os d lo r hd ho hg hr ih =>
   intro i hi f l H f1 H1 hf hk h
   have hio : ops[i]? = some o := by
    have : (ops.toList.drop i)[0]? = some o := by rw [hi]; rfl
    rw [dz] at this
    simpa using this
   have hi' : ops.toList.drop (i + 1) = os := by rw [← fw, hi]; rfl
   have hw : Region.wanted o (iT ops l) = true := by simp [Region.wanted, hg]
   have h : b0H Rf.no d f (xP P C r) (opF P C lo f H) = .ok f1 H1 := h
   have key : ∀ v H2, (opF P C lo f H).Is v H2 → (uG d v f fun f => xP P C r f H2) = .ok f1 H1 → ∃ l1, FRel k f1 l1 ∧ OpsR P ops (List.range' i (o :: os).length) l H l1 H1 ∧ LK H H1 := by
    intro v H2 hop hrest
    obtain ⟨hs, hk2⟩ := ho C H0 f l H v H2 hC hk hf.2 hop
    obtain ⟨f', e, hf'⟩ := vN hf hd v (fun f => xP P C r f H2)
    rw [e] at hrest
    obtain ⟨l1, h1, h2, h3⟩ := ih hi' hf' (hk.trans hk2) hrest
    exact ⟨l1, h1, .step hio hw hs h2, hk2.trans h3⟩
   cases hop : opF P C lo f H with
   | no => rw [hop] at h; cases h
   | ok v H2 => rw [hop] at h; exact key v H2 (.inl hop) h
   | th v H2 =>
     rw [hop] at h
     have h : xY v (fun v => nG H2 fun H2 => uG d v f fun f => xP P C r f H2) = .ok f1 H1 := h
     rw [yA, lU] at h
     exact key v H2 (.inr hop) h
 | @gcons o os d lo r j t w hd ho hg ht htk hr ih =>
   intro i hi f l H f1 H1 hf hk h
   have hio : ops[i]? = some o := by
    have : (ops.toList.drop i)[0]? = some o := by rw [hi]; rfl
    rw [dz] at this
    simpa using this
   have hi' : ops.toList.drop (i + 1) = os := by rw [← fw, hi]; rfl
   have hwi : Region.wanted o (iT ops l) = isB (nS (kQ t) f) w := by
    simp only [Region.wanted, hg]
    rw [yQ ht (by rw [hf.1]; exact htk) w, hf.2 t]
   have h : nP (isB (nS (kQ t) f) w) (uG d undef f fun f => xP P C r f H) (b0H Rf.no d f (xP P C r) (opF P C lo f H)) = .ok f1 H1 := h
   rw [kP] at h
   split at h
   ·rename_i hb
    have key : ∀ v H2, (opF P C lo f H).Is v H2 → (uG d v f fun f => xP P C r f H2) = .ok f1 H1 → ∃ l1, FRel k f1 l1 ∧ OpsR P ops (List.range' i (o :: os).length) l H l1 H1 ∧ LK H H1 := by
     intro v H2 hop hrest
     obtain ⟨hs, hk2⟩ := ho C H0 f l H v H2 hC hk hf.2 hop
     obtain ⟨f', e, hf'⟩ := vN hf hd v (fun f => xP P C r f H2)
     rw [e] at hrest
     obtain ⟨l1, h1, h2, h3⟩ := ih hi' hf' (hk.trans hk2) hrest
     exact ⟨l1, h1, .step hio (by rw [hwi, hb]) hs h2, hk2.trans h3⟩
    cases hop : opF P C lo f H with
    | no => rw [hop] at h; cases h
    | ok v H2 => rw [hop] at h; exact key v H2 (.inl hop) h
    | th v H2 =>
      rw [hop] at h
      have h : xY v (fun v => nG H2 fun H2 => uG d v f fun f => xP P C r f H2) = .ok f1 H1 := h
      rw [yA, lU] at h
      exact key v H2 (.inr hop) h
   ·rename_i hb
    obtain ⟨f', e, hf'⟩ := vN hf hd undef (fun f => xP P C r f H)
    rw [e] at h
    obtain ⟨l1, h1, h2, h3⟩ := ih hi' hf' hk h
    exact ⟨l1, h1, .past hio (by rw [hwi]; simpa using hb) h2, h3⟩
structure Noted (P : Program) (k : Nat) (ops : Array Oper) (H : Heap) (i n : Nat) (T : Nat → List Value × Heap) (val : Nat → Value) (tr0 tr : List (Fr × Heap × Value)) : Prop where
 step : ∀ j, i ≤ j → j < i + n → wC P ops j (T j) (T (j + 1)) (val j)
 new : ∀ j, i ≤ j → j < i + n → ∃ g, tr[i + n - 1 - j]? = some (g, (T j).2, val j) ∧ FAg g (T j).1
 old : ∀ m, tr[n + m]? = tr0[m]?
 lk : ∀ j, i ≤ j → j ≤ i + n → LK H (T j).2
theorem b4C {k : Nat} {ops : Array Oper} {C : Calls'} {H0 : Heap} (hC : CallsOk P C H0) {os : List Oper} {lo : LOps} (hlo : LowOps P k ops os lo) : ∀ {i : Nat}, ops.toList.drop i = os → ∀ {tr0 tr : List (Fr × Heap × Value)} {f : Fr} {l : List Value} {H : Heap} {f1 : Fr} {H1 : Heap},
 FRel k f l → LK H0 H → rA P C lo tr0 f H = .ok tr f1 H1 → ∃ T val l1, T i = (l, H) ∧ T (i + os.length) = (l1, H1) ∧ FRel k f1 l1 ∧ Noted P k ops H i os.length T val tr0 tr := by
 have more : ∀ {i n : Nat} {o : Oper} {tr0 tr : List (Fr × Heap × Value)} {f : Fr} {l : List Value} {H : Heap} {v : Value} {l2 : List Value} {H2 : Heap} {l1 : List Value} {H1 : Heap} {f1 : Fr}, FRel k f l → wC P ops i (l, H) (l2, H2) v → LK H H2 →
  (∃ T val l1, T (i + 1) = (l2, H2) ∧ T (i + 1 + n) = (l1, H1) ∧ FRel k f1 l1 ∧ Noted P k ops H2 (i + 1) n T val ((f, H, v) :: tr0) tr) →
  ∃ T val l1, T i = (l, H) ∧ T (i + (n + 1)) = (l1, H1) ∧ FRel k f1 l1 ∧ Noted P k ops H i (n + 1) T val tr0 tr := by
  intro i n o tr0 tr f l H v l2 H2 _ H1 f1 hf hst hk ⟨T, val, l1, h1, h2, h3, hN⟩
  refine ⟨fun j => if j ≤ i then (l, H) else T j, fun j => if j ≤ i then v else val j, l1, by simp, ?_, h3, ?_⟩
  ·show (if i + (n + 1) ≤ i then (l, H) else T (i + (n + 1))) = _
   rw [if_neg (by omega), ← h2]; congr 1; omega
  ·refine ⟨fun j hj hn => ?_, fun j hj hn => ?_, fun m => ?_, fun j hj hn => ?_⟩
   ·by_cases he : j = i
    ·subst he
     simp only [de, if_true]
     rw [if_neg (by omega), h1]
     exact hst
    ·rw [if_neg (by omega), if_neg (by omega), if_neg (by omega)]
     exact hN.step j (by omega) (by omega)
   ·by_cases he : j = i
    ·subst he
     simp only [de, if_true]
     refine ⟨f, ?_, hf.2⟩
     have := hN.old 0
     rw [show j + (n + 1) - 1 - j = n + 0 by omega, this]; rfl
    ·rw [if_neg (by omega), if_neg (by omega)]
     obtain ⟨g, hg, hag⟩ := hN.new j (by omega) (by omega)
     exact ⟨g, by rw [← hg]; congr 1; omega, hag⟩
   ·have := hN.old (m + 1)
    rw [show n + 1 + m = n + (m + 1) by omega, this]; rfl
   ·by_cases he : j = i
    ·subst he; simp only [de, if_true]; exact .refl H
    ·rw [if_neg (by omega)]; exact hk.trans (hN.lk j (by omega) (by omega))
 induction hlo with
 | nil =>
   intro i _ tr0 tr f l H f1 H1 hf _ h
   injection h with h1 h2 h3
   subst h1 h2 h3
   exact ⟨fun _ => (l, H), fun _ => undef, l, rfl, rfl, hf, fun j _ h => absurd h (by simp; omega), fun j _ h => absurd h (by simp; omega), fun m => by simp, fun _ _ _ => .refl H⟩
 | @cons o os d lo r hd ho hg hr ih =>
   intro i hi tr0 tr f l H f1 H1 hf hk h
   have hio : ops[i]? = some o := by
    have : (ops.toList.drop i)[0]? = some o := by rw [hi]; rfl
    rw [dz] at this
    simpa using this
   have hi' : ops.toList.drop (i + 1) = os := by rw [← fw, hi]; rfl
   have hw : Region.wanted o (iT ops l) = true := by simp [Region.wanted, hg]
   have h : b0p tr0 f H d (rA P C r) (opF P C lo f H) = .ok tr f1 H1 := h
   have key : ∀ v H2, (opF P C lo f H).Is v H2 → (uG d v f fun f2 => rA P C r ((f, H, v) :: tr0) f2 H2) = .ok tr f1 H1 → ∃ T val l1, T i = (l, H) ∧ T (i + (o :: os).length) = (l1, H1) ∧ FRel k f1 l1 ∧ Noted P k ops H i (o :: os).length T val tr0 tr := by
    intro v H2 hop hrest
    obtain ⟨hs, hk2⟩ := ho C H0 f l H v H2 hC hk hf.2 hop
    obtain ⟨f', e, hf'⟩ := vN hf hd v (fun f2 => rA P C r ((f, H, v) :: tr0) f2 H2)
    rw [e] at hrest
    have := ih hi' hf' (hk.trans hk2) hrest
    exact more (o := o) (l1 := l) hf ⟨o, hio, rfl, .inl ⟨hw, hs⟩⟩ hk2 this
   cases hop : opF P C lo f H with
   | no => rw [hop] at h; cases h
   | ok v H2 => rw [hop] at h; exact key v H2 (.inl hop) h
   | th v H2 =>
     rw [hop] at h
     have h : xY v (fun v => nG H2 fun H2 => uG d v f fun f2 => rA P C r ((f, H, v) :: tr0) f2 H2) = .ok tr f1 H1 := h
     rw [yA, lU] at h
     exact key v H2 (.inr hop) h
 | @gcons o os d lo r j t w hd ho hg ht htk hr ih =>
   intro i hi tr0 tr f l H f1 H1 hf hk h
   have hio : ops[i]? = some o := by
    have : (ops.toList.drop i)[0]? = some o := by rw [hi]; rfl
    rw [dz] at this
    simpa using this
   have hi' : ops.toList.drop (i + 1) = os := by rw [← fw, hi]; rfl
   have hwi : Region.wanted o (iT ops l) = isB (nS (kQ t) f) w := by
    simp only [Region.wanted, hg]
    rw [yQ ht (by rw [hf.1]; exact htk) w, hf.2 t]
   have h : nP (isB (nS (kQ t) f) w) (uG d undef f fun f2 => rA P C r ((f, H, undef) :: tr0) f2 H) (b0p tr0 f H d (rA P C r) (opF P C lo f H)) = .ok tr f1 H1 := h
   rw [kP] at h
   split at h
   ·rename_i hb
    have key : ∀ v H2, (opF P C lo f H).Is v H2 → (uG d v f fun f2 => rA P C r ((f, H, v) :: tr0) f2 H2) = .ok tr f1 H1 → ∃ T val l1, T i = (l, H) ∧ T (i + (o :: os).length) = (l1, H1) ∧ FRel k f1 l1 ∧ Noted P k ops H i (o :: os).length T val tr0 tr := by
     intro v H2 hop hrest
     obtain ⟨hs, hk2⟩ := ho C H0 f l H v H2 hC hk hf.2 hop
     obtain ⟨f', e, hf'⟩ := vN hf hd v (fun f2 => rA P C r ((f, H, v) :: tr0) f2 H2)
     rw [e] at hrest
     exact more (o := o) (l1 := l) hf ⟨o, hio, rfl, .inl ⟨by rw [hwi, hb], hs⟩⟩ hk2 (ih hi' hf' (hk.trans hk2) hrest)
    cases hop : opF P C lo f H with
    | no => rw [hop] at h; cases h
    | ok v H2 => rw [hop] at h; exact key v H2 (.inl hop) h
    | th v H2 =>
      rw [hop] at h
      have h : xY v (fun v => nG H2 fun H2 => uG d v f fun f2 => rA P C r ((f, H, v) :: tr0) f2 H2) = .ok tr f1 H1 := h
      rw [yA, lU] at h
      exact key v H2 (.inr hop) h
   ·rename_i hb
    obtain ⟨f', e, hf'⟩ := vN hf hd undef (fun f2 => rA P C r ((f, H, undef) :: tr0) f2 H)
    rw [e] at h
    exact more (o := o) (l1 := l) hf ⟨o, hio, rfl, .inr ⟨by rw [hwi]; simpa using hb, rfl, rfl⟩⟩ (.refl H) (ih hi' hf' hk h)
theorem b1o {α : Type} (p : α → Bool) (l : List α) : b3C p l = l.all p := by
 induction l with
 | nil => rfl
 | cons x l ih =>
   show nP (p x) false (b3C p l) = _
   rw [kP, ih, fq]
   cases p x <;> rfl
theorem b7S {v : Value} {r : Rs} (h : b7N v r = true) : ∃ H, r.Is v H := by
 cases r with
 | no => cases h
 | ok w H => exact ⟨H, .inl (by rw [b4D (show veq w v = true from h)])⟩
 | th w H => exact ⟨H, .inr (by rw [b4D (show veq w v = true from h)])⟩
theorem LowTab.get {ops : Array Oper} {tab : List (Nat × Nat)} {t : List (Nat × Option Nat × Option (Pth × Bool) × LOp)} (h : LowTab P ops tab t) {i m : Nat} (hm : (i, m) ∈ tab) : ∃ o lo g, ops[i]? = some o ∧ GOk ops o g ∧ vS P o lo ∧ (ops.size - 1 - i, (if m < ops.size then some (ops.size - 1 - m) else none), g, lo) ∈ t := by
 induction h with
 | nil => cases hm
 | @cons i2 m2 o lo tab t g ho hgd hl hr ih =>
   rcases dN.1 hm with he | hm
   ·injection he with h1 h2
    subst h1 h2
    exact ⟨o, lo, g, ho, hgd, hl, by simp⟩
   ·obtain ⟨o', lo', g', h1, h0, h2, h3⟩ := ih hm
    exact ⟨o', lo', g', h1, h0, h2, dM _ h3⟩
theorem a8n {fl : Fl} {ops : Array Oper} {i m : Nat} (h : (i, m) ∈ mF fl ops) {o : Oper} (ho : ops[i]? = some o) : nH o.op = true := by
 unfold mF at h
 simp only [dS] at h
 obtain ⟨⟨x, j⟩, hx, h⟩ := h
 dsimp only at h
 split at h
 ·rename_i hr
  simp only [du] at h
  obtain ⟨m', _, e⟩ := h
  injection e with e1 e2
  subst e1
  have := gh.1 hx
  have : ops[j]? = some x := by simpa using this
  rw [this] at ho
  injection ho with ho
  subst ho
  exact hr
 ·cases h
theorem b7U (kF : P.follows .mixedOrders = true) {k id : Nat} {ops : Array Oper} {C : Calls'} {H : Heap} (hC : CallsOk P C H) {lo : LOps} {tab : List (Nat × Nat)} {t : List (Nat × Option Nat × Option (Pth × Bool) × LOp)} (hlo : LowOps P k ops ops.toList lo) (htab : mT P ops = some tab) (hl : LowTab P ops tab t)
 {f : Fr} {l : List Value} {e : Ex} {f1 : Fr} {H1 : Heap} (hf : FRel k f l) (h : b9E P C t (rA P C lo [] f H) = .ok e f1 H1) : ∃ l1, e = .normal ∧ FRel k f1 l1 ∧ Sim P (.region id ops true) l H .normal l1 H1 ∧ LK H H1 := by
 cases hr : rA P C lo [] f H with
 | no => rw [hr] at h; cases h
 | ok tr f2 H2 =>
   rw [hr] at h
   have h : nP (b3C (b5k P C tr H2) t) Rc.no (.ok .normal f2 H2) = .ok e f1 H1 := h
   rw [kP] at h
   split at h
   case isFalse => cases h
   rename_i hall
   injection h with h1 h2 h3
   subst h1 h2 h3
   obtain ⟨T, val, l1, hT0, hTn, hf1, hN⟩ := b4C hC hlo (i := 0) rfl hf (.refl H) hr
   rw [fy, fZ] at hTn
   rw [fy] at hN
   have hlk : LK H H2 := by have := hN.lk ops.size (eQ _) (by omega); rwa [hTn] at this
   refine ⟨l1, rfl, hf1, ?_, hlk⟩
   have := Sim.draw kF (id := id) htab (T := T) (val := val) ⟨fun j hj => hN.step j (eQ _) (by omega)⟩ ?_
   ·rw [hT0, hTn] at this; exact this
   ·intro i m o hm ho hw
    obtain ⟨o', lo', gd, ho', hgd, hlow, hmem⟩ := hl.get hm
    rw [ho] at ho'
    obtain rfl := cU ho'
    rw [b1o, dp] at hall
    have hrd := hall _ hmem
    have hi : i < ops.size := (db.1 ho).1
    obtain ⟨g, hg, hag⟩ := hN.new i (eQ _) (by omega)
    have hg : tr[ops.size - 1 - i]? = some (g, (T i).2, val i) := by rw [← hg]; congr 1; omega
    have hread : nH o.op = true := by
     obtain ⟨fl, _, rfl⟩ := pR htab
     exact a8n hm ho
    have fin : ∀ H3, LK H H3 → b7N (val i) (opF P C lo' g H3) = true → ∃ H4, opD P o (T i).1 H3 = some (val i, H4) := by
     intro H3 hk3 hq
     obtain ⟨H4, h4⟩ := b7S hq
     obtain ⟨hs, _⟩ := hlow C H g (T i).1 H3 (val i) H4 hC hk3 hag h4
     refine ⟨H4, hs.opD fun c fv hc hv => ?_⟩
     rw [hc] at hread
     simp [nH, hv] at hread
    unfold b5k at hrd
    simp only [xV, hg, hgd.runs hag hw] at hrd
    rw [kP, if_pos rfl] at hrd
    by_cases hms : m < ops.size
    ·rw [if_pos hms] at hrd
     obtain ⟨g2, hg2, _⟩ := hN.new m (eQ _) (by omega)
     have hg2 : tr[ops.size - 1 - m]? = some (g2, (T m).2, val m) := by rw [← hg2]; congr 1; omega
     simp only [hg2] at hrd
     exact fin _ (hN.lk m (eQ _) (by omega)) hrd
    ·rw [if_neg hms] at hrd
     have hle : m = ops.size := by
      obtain ⟨fl, _, rfl⟩ := pR htab
      have := a1B hm
      omega
     subst hle
     have := fin H2 hlk hrd
     rw [hTn]; exact this
def uE (P : Program) : List ResultVar → List LRes → Prop
 | [], [] => True
 | r :: rs, l :: ls => (match r, l with
   | .tmp t, .t p => p = kQ t
   | .cell a t, .c1 p => p = kQ a ∧ jQ P t = some false
   | .cell a t, .cn n p => p = kQ a ∧ jQ P t = some true ∧ iD P t = some n
   | _, _ => False) ∧ uE P rs ls
 | _, _ => False
theorem b4d {α : Type} (l : List ResultVar) (K : List LRes → α) (no : α) : (∃ r, uE P l r ∧ a0M P l K no = K r) ∨ a0M P l K no = no := by
 induction l generalizing K with
 | nil => exact .inl ⟨[], trivial, rfl⟩
 | cons r l ih =>
   cases r with
   | tmp t =>
     have e : a0M P (.tmp t :: l) K no = lM (kQ t) fun p => a0M P l (fun l => K (.t p :: l)) no := rfl
     rw [e, lH]
     rcases ih (fun l => K (.t (kQ t) :: l)) with ⟨q, h1, h2⟩ | h2
     ·exact .inl ⟨.t (kQ t) :: q, ⟨rfl, h1⟩, h2⟩
     ·exact .inr h2
   | cell a t =>
     have e : a0M P (.cell a t :: l) K no = match jQ P t with
      | some true => a3a (iD P t) no fun n => lM (kQ a) fun p => a0M P l (fun l => K (.cn n p :: l)) no
      | some false => lM (kQ a) fun p => a0M P l (fun l => K (.c1 p :: l)) no
      | none => no := rfl
     rw [e]
     split
     ·rename_i ha
      cases hn : iD P t with
      | none => exact .inr rfl
      | some n =>
        rw [oQ, lH]
        rcases ih (fun l => K (.cn n (kQ a) :: l)) with ⟨q, h1, h2⟩ | h2
        ·exact .inl ⟨.cn n (kQ a) :: q, ⟨⟨rfl, ha, hn⟩, h1⟩, h2⟩
        ·exact .inr h2
     ·rename_i ha
      rw [lH]
      rcases ih (fun l => K (.c1 (kQ a) :: l)) with ⟨q, h1, h2⟩ | h2
      ·exact .inl ⟨.c1 (kQ a) :: q, ⟨⟨rfl, ha⟩, h1⟩, h2⟩
      ·exact .inr h2
     ·exact .inr rfl
theorem b0L {H H1 : Heap} {f : Fr} {l : List Value} (hf : FAg f l) {r : ResultVar} {q : LRes} {rs : List ResultVar} {qs : List LRes} (h : uE P (r :: rs) (q :: qs)) {v : Value} (hv : (a4j H f q).Is v H1) : H1 = H ∧ a0U P l H r = some v ∧ uE P rs qs := by
 obtain ⟨h, hr⟩ := h
 cases r with
 | tmp t => cases q with
   | t p =>
     have h : p = kQ t := h
     subst h
     have hv : (oG (nS (kQ t) f) fun v => Rs.ok v H).Is v H1 := hv
     rw [mO] at hv
     obtain ⟨rfl, rfl⟩ := Rs.aM hv
     exact ⟨rfl, by rw [hf t]; rfl, hr⟩
   | c1 p => exact h.elim
   | cn n p => exact h.elim
 | cell a t => cases q with
   | t p => exact h.elim
   | c1 p =>
     obtain ⟨rfl, ha⟩ := h
     obtain ⟨e, h1⟩ := b0R (P := P) (X := .t (kQ a)) (w := get l a) ha (hf a) hv
     exact ⟨e, h1, hr⟩
   | cn n p =>
     obtain ⟨rfl, ha, hn⟩ := h
     obtain ⟨e, h1⟩ := b0W (P := P) (X := .t (kQ a)) (w := get l a) ha hn (hf a) hv
     exact ⟨e, h1, hr⟩
theorem b6S {H : Heap} {f : Fr} {q : LRes} {v : Value} {H1 : Heap} : ¬ (a4j H f q = .th v H1) := by
 intro h
 cases q with
 | t p =>
   have h : (oG (nS p f) fun v => Rs.ok v H) = .th v H1 := h
   rw [mO] at h; cases h
 | c1 p =>
   have h : b2x (.t p) f H = .th v H1 := h
   unfold b2x at h
   split at h
   ·unfold b8Z at h
    split at h
    ·rw [kP, kP, kP] at h
     split at h
     ·split at h
      ·split at h
       ·rename_i cs _ _ _ _ _ _ _ _
        cases hn : a0R cs _ with
        | none => rw [hn] at h; cases h
        | some w => rw [hn] at h; have h : (oG w fun v => Rs.ok v H) = .th v H1 := h; rw [mO] at h; cases h
       ·cases h
      ·cases h
     ·cases h
    ·cases h
   ·unfold c1c at h
    split at h
    ·rw [kP] at h
     split at h
     ·rename_i cs _ _ _ _
      cases hn : a0R cs _ with
      | none => rw [hn] at h; cases h
      | some w => rw [hn] at h; have h : (oG w fun v => Rs.ok v H) = .th v H1 := h; rw [mO] at h; cases h
     ·cases h
    ·cases h
   ·cases h
 | cn n p =>
   have hh : b1p n (.t p) f H = .th v H1 := h
   unfold b1p at hh
   split at hh
   ·unfold b8O at hh
    split at hh
    ·rw [kP, kP, kP] at hh
     split at hh
     ·split at hh
      ·split at hh
       ·have key : ∀ {cs : List Value} {n : Nat} {pre : List Value}, ¬ (a1Z cs n fun l => Rs.ok (.agg ⟨pre ++ l⟩) H) = .th v H1 := by
         intro cs
         induction cs with
         | nil => intro n pre h; cases n <;> cases h
         | cons c cs ih =>
           intro n pre h
           cases n with
           | zero => cases h
           | succ n =>
             have h : (a1Z cs n fun l => Rs.ok (.agg ⟨pre ++ (c :: l)⟩) H) = .th v H1 := h
             have e : ∀ l : List Value, pre ++ (c :: l) = (pre ++ [c]) ++ l := by intro l; simp
             have h2 : (a1Z cs n fun l => Rs.ok (.agg ⟨(pre ++ [c]) ++ l⟩) H) = .th v H1 := by
              rw [← h]; congr 1; funext l; rw [e l]
             exact ih h2
        exact key (pre := []) hh
       ·cases hh
      ·cases hh
     ·cases hh
    ·cases hh
   ·cases hh
theorem a7F {H H1 : Heap} {f : Fr} {l : List Value} (hf : FAg f l) {v : Value} : ∀ {rs : List ResultVar} {qs : List LRes} {K : List Value → Rs}, uE P rs qs → (b4s H f qs K).Is v H1 → ∃ vs, nB P l H rs = some vs ∧ (K vs).Is v H1
 | [], [], K, _, h => ⟨[], rfl, h⟩
 | [], _ :: _, _, h, _ => h.elim
 | _ :: _, [], _, h, _ => h.elim
 | r :: rs, q :: qs, K, hl, h => by
   have h : (Rs.rec (motive := fun _ => Rs) .no (fun v _ => b4s H f qs fun l => K (v :: l)) (fun _ _ => .no) (a4j H f q)).Is v H1 := h
   cases hq : a4j H f q with
   | no => rw [hq] at h; exact absurd h Rs.ar
   | th w H2 => exact absurd hq b6S
   | ok w H2 =>
     rw [hq] at h
     obtain ⟨e, h1, h2⟩ := b0L hf hl (.inl hq)
     obtain ⟨vs, h3, h4⟩ := a7F hf h2 h
     exact ⟨w :: vs, by simp [nB, h1, h3], h4⟩
theorem b6C {fn : Func} {H H1 : Heap} {f : Fr} {l : List Value} (hf : FAg f l) {qs : List LRes} (hl : uE P fn.results.toList qs) {v : Value} (h : (a5Q qs f H).Is v H1) : H1 = H ∧ iB P fn l H = some v := by
 unfold a5Q at h
 split at h
 ·rename_i q
  cases hr : fn.results.toList with
  | nil => rw [hr] at hl; exact hl.elim
  | cons r rs =>
    rw [hr] at hl
    obtain ⟨e, h1, h2⟩ := b0L hf hl h
    cases rs with
    | cons _ _ => exact h2.elim
    | nil => exact ⟨e, by simp [iB, hr, nB, h1]⟩
 ·rename_i hne
  obtain ⟨vs, h1, h2⟩ := a7F hf hl h
  obtain ⟨h3, h4⟩ := lB h2
  obtain ⟨rfl, rfl⟩ := Rs.aM h4
  refine ⟨rfl, ?_⟩
  have hlen : ∀ {rs : List ResultVar} {qs : List LRes}, uE P rs qs → rs.length = qs.length := by
   intro rs
   induction rs with
   | nil => intro qs h; cases qs with | nil => rfl | cons => exact h.elim
   | cons r rs ih => intro qs h; cases qs with | nil => exact h.elim | cons q qs => simp [ih h.2]
  have hvl : ∀ {rs : List ResultVar} {vs : List Value}, nB P l H1 rs = some vs → vs.length = rs.length := by
   intro rs
   induction rs with
   | nil => intro vs h; injection h with h; subst h; rfl
   | cons r rs ih =>
     intro vs h
     simp only [nB, cX, dc] at h
     obtain ⟨w, _, ws, h1, h2⟩ := h
     subst h2
     simp [ih h1]
  have hn1 : vs.length ≠ 1 := by
   rw [hvl h1, hlen hl]
   intro h1
   match qs, h1 with
   | [q], _ => exact hne q rfl
  unfold iB
  rw [h1, cV]
  rw [b1o] at h3
  have h3 : vs.all jU = true := by rw [← h3]; congr 1
  split
  ·exact absurd rfl hn1
  ·rw [if_pos h3]
structure FuncOk (P : Program) (f : FuncId) (g : LFunc) : Prop where
 ex : ∃ fn c, P.funcs[f]? = some fn ∧ fn.body = some c ∧ (fn.name == "runtime.NumGoroutine") = false ∧ g.ps = (List.range fn.ntmps).map kQ ∧ Low P fn.ntmps c g.body ∧ uE P fn.results.toList g.res
def TOk (P : Program) (T : LT) : Prop := ∀ f g, a2B (kQ f) T = some g → FuncOk P f g
def EOk (P : Program) (E : List LEnv) (H : Heap) : Prop := ∀ en ∈ E, en.L < H.length ∧ ∀ r, iP H en.L = some (.loop r) →
 ∃ k, en.ps = (List.range k).map kQ ∧ r.tmps.size = k ∧ en.pp = r.params.toList.map kQ ∧ (∀ t ∈ r.params.toList, t < k) ∧ Low P k r.assign en.a ∧ Low P k r.body en.b
theorem EOk.ag {E : List LEnv} {H H' : Heap} (h : EOk P E H) (hk : LK H H') : EOk P E H' := fun en hen => by
 obtain ⟨h1, h2⟩ := h en hen
 refine ⟨dI h1 hk.1, fun r' hr' => ?_⟩
 obtain ⟨r, hr, ea, eb, ep, et⟩ := hk.2 en.L r' h1 hr'
 obtain ⟨k, a, b, c, d, e, f⟩ := h2 r hr
 exact ⟨k, a, by rw [et]; exact b, by rw [ep]; exact c, by rw [ep]; exact d, by rw [ea]; exact e, by rw [eb]; exact f⟩
def a3W (P : Program) (ih : pU) : Prop := ∀ (E : List LEnv) (C : LCode) (k : Nat) (c : Code) (f : Fr) (l : List Value) (H : Heap) (e : Ex) (f1 : Fr) (H1 : Heap), Low P k c C → FRel k f l → EOk P E H → ih E C f H = .ok e f1 H1 →
 ∃ l1, FRel k f1 l1 ∧ Sim P c l H e l1 H1 ∧ LK H H1 ∧ ∀ b, c = .loop b → ∃ n, Rounds P b n l H e l1 H1
theorem zT {α : Type} {no : α} : ∀ {l : List Value} {i m : Nat} {f : Fr} {K : Fr → α}, (oR no l ((List.range' i m).map kQ) f K = no) ∨ (l.length ≤ m ∧ ∃ f', oR no l ((List.range' i m).map kQ) f K = K f' ∧ ∀ t, nS (kQ t) f' = if i ≤ t ∧ t < i + l.length then get l (t - i) else nS (kQ t) f)
 | [], i, m, f, K => .inr ⟨eQ _, f, rfl, fun t => by rw [if_neg (by simp only [eK]; omega)]⟩
 | v :: l, i, 0, f, K => .inl rfl
 | v :: l, i, m + 1, f, K => by
   have e : oR no (v :: l) ((List.range' i (m + 1)).map kQ) f K = pO v (kQ i) f fun f => oR no l ((List.range' (i + 1) m).map kQ) f K := by
    rw [gA]; rfl
   rw [e, sK]
   rcases zT (l := l) (i := i + 1) (m := m) (f := b5H f i v) (K := K) with h | ⟨h1, f', h2, h3⟩
   ·exact .inl h
   ·refine .inr ⟨by simp; omega, f', h2, fun t => ?_⟩
    rw [h3 t, a4c]
    by_cases ht : t = i
    ·subst ht
     rw [if_neg (by omega), if_pos rfl, if_pos (by simp), gR]; rfl
    ·rw [if_neg ht]
     by_cases h4 : i + 1 ≤ t ∧ t < i + 1 + l.length
     ·rw [if_pos h4, if_pos (by simp; omega)]
      rw [show t - i = (t - (i + 1)) + 1 by omega]; rfl
     ·rw [if_neg h4, if_neg (by simp; omega)]
theorem wF {α : Type} {no : α} {k : Nat} : ∀ {args : List Value} {ps : List Tmp} {f : Fr} {l : List Value} {K : Fr → α}, FRel k f l → (∀ t ∈ ps, t < k) → args.length = ps.length →
 ∃ f', oR no args (ps.map kQ) f K = K f' ∧ FRel k f' ((ps.zip args).foldl (fun t (p, v) => t.set p v) l)
 | [], [], f, l, K, hf, _, _ => ⟨f, rfl, hf⟩
 | v :: args, p :: ps, f, l, K, hf, hp, he => by
   have e : oR no (v :: args) ((p :: ps).map kQ) f K = pO v (kQ p) f fun f => oR no args (ps.map kQ) f K := rfl
   rw [e, sK]
   exact wF (hf.set (hp p (by simp)) v) (fun t ht => hp t (by simp [ht])) (by simpa using he)
 | [], _ :: _, _, _, _, _, _, he => by simp at he
 | _ :: _, [], _, _, _, _, _, he => by simp at he
theorem zP (l : List Value) (n t : Nat) : get (l ++ List.replicate n undef) t = get l t := by
 rw [oF, oF]
 simp only [cZ]
 by_cases h : t < l.length
 ·rw [eE h]
 ·rw [ef (by omega), ec (l := l) (by omega), gM]
  split <;> rfl
theorem a0e {T : LT} (hT : TOk P T) {ih : pU} (hih : a3W P ih) {E : List LEnv} {p : Pth} {f : FuncId} {args : List Value} {H H1 : Heap} {v : Value} (hE : EOk P E H) (hp : p = kQ f) (h : (mN T ih E p args H).Is v H1) :
 FnS P f args H (fun v' H' => v' = v ∧ H' = H1) ∧ LK H H1 := by
 unfold mN at h
 split at h
 case h_2 => exact absurd h Rs.ar
 rename_i g hg
 subst hp
 obtain ⟨fn, c, hfn, hb, hn, hps, hlow, hres⟩ := (hT f g hg).ex
 rw [hps] at h
 rw [fD] at h
 rcases zT (no := Rs.no) (l := args) (i := 0) (m := fn.ntmps) (f := .e) (K := fun f => c0B g.res (ih E g.body f H)) with h1 | ⟨h1, f0, h2, h3⟩
 ·rw [h1] at h; exact absurd h Rs.ar
 ·rw [h2] at h
  have hf0 : FRel fn.ntmps f0 (args ++ List.replicate (fn.ntmps - args.length) undef) := by
   refine ⟨by simp; omega, fun t => ?_⟩
   rw [h3 t, zP]
   by_cases ht : t < args.length
   ·rw [if_pos (by omega)]; rfl
   ·rw [if_neg (by omega), uO, oF, cZ, ec (by omega)]; try rfl
  cases hr : ih E g.body f0 H with
  | no => rw [hr] at h; exact absurd h Rs.ar
  | ok e f1 H2 =>
    rw [hr] at h
    obtain ⟨l1, hf1, hs, hk, _⟩ := hih E g.body fn.ntmps c f0 _ H e f1 H2 hlow hf0 hE hr
    have key : (e = .normal ∨ e = .ret) → (a5Q g.res f1 H2).Is v H1 → FnS P f args H (fun v' H' => v' = v ∧ H' = H1) ∧ LK H H1 := by
     intro he hv
     obtain ⟨rfl, hv⟩ := b6C hf1.2 hres hv
     exact ⟨⟨fn, c, e, l1, H1, v, hfn, hb, hn, hs, he, hv, rfl, rfl⟩, hk⟩
    cases e with
    | normal => exact key (.inl rfl) h
    | ret => exact key (.inr rfl) h
    | exit id => exact absurd h Rs.ar
theorem b6F {T : LT} (hT : TOk P T) {ih : pU} (hih : a3W P ih) {E : List LEnv} {p : Pth} {f : FuncId} {args : List Value} {H H1 : Heap} {v : Value} (hE : EOk P E H) (hp : p = kQ f) (h : (b6b P T ih E p f args H).Is v H1) :
 (FnS P f args H (fun v' H' => v' = v ∧ H' = H1) ∨ pS P f args H = some (v, H1)) ∧ LK H H1 := by
 unfold b6b at h
 cases hg : a2B p T with
 | some g =>
   rw [hg] at h
   obtain ⟨a, b⟩ := a0e (H1 := H1) (v := v) hT hih hE hp (by unfold mN; rw [hg]; exact h)
   exact ⟨.inl a, b⟩
 | none =>
   rw [hg] at h
   have h : (c1y P f args H).Is v H1 := h
   unfold c1y at h
   split at h
   ·rename_i v2 H2 hx
    obtain ⟨rfl, rfl⟩ := Rs.aQ h
    exact ⟨.inr hx, a4v hx⟩
   ·exact absurd h Rs.ar
theorem b0f {E : List LEnv} {L : Nat} {en : LEnv} (h : b4O E L = some en) : en ∈ E ∧ en.L = L := by
 induction E with
 | nil => cases h
 | cons e E ih =>
   have h : nP (Nat.beq e.L L) (b4O E L) (some e) = some en := h
   rw [kP] at h
   split at h
   ·rename_i hh
    injection h with h
    subst h
    exact ⟨by simp, dP hh⟩
   ·obtain ⟨h1, h2⟩ := ih h
    exact ⟨dM _ h1, h2⟩
theorem a6k (e : Ex) : c0g e = rI e := by cases e <;> rfl
theorem b1O {ih : pU} (hih : a3W P ih) {E : List LEnv} {L : Nat} {args : List Value} {H H1 : Heap} {v : Value} (hE : EOk P E H) (h : (b0i ih E L args H).Is v H1) : xX P L args H v H1 ∧ LK H H1 := by
 unfold b0i at h
 split at h
 case h_2 => exact absurd h Rs.ar
 rename_i en hen
 obtain ⟨hmem, rfl⟩ := b0f hen
 split at h
 case h_2 => exact absurd h Rs.ar
 rename_i p fn tmps ps a b d hg
 obtain ⟨hlen, h⟩ := lB h
 rw [xH] at hlen
 have hlen : ps.size = args.length := by simpa only [decide_eq_true_eq] using hlen
 obtain ⟨k, hps, hsz, hpp, hpk, hla, hlb⟩ := (hE en hmem).2 _ hg
 have hsz : tmps.length = k := by simpa using hsz
 rw [hps, fD] at h
 rcases zT (no := Rs.no) (l := tmps) (i := 0) (m := k) (f := .e) (K := fun f => oR .no args en.pp f fun f => sF ih E en (ih E en.a f H)) with h1 | ⟨h1, f0, h2, h3⟩
 ·rw [h1] at h; exact absurd h Rs.ar
 rw [h2] at h
 have hf0 : FRel k f0 tmps := by
  refine ⟨hsz, fun t => ?_⟩
  rw [h3 t]
  by_cases ht : t < tmps.length
  ·rw [if_pos (by omega)]; rfl
  ·rw [if_neg (by omega), uO, oF, cZ, ec (by omega)]; try rfl
 rw [hpp] at h
 obtain ⟨f2, h4, hf2⟩ := wF (no := Rs.no) (args := args) (ps := ps.toList) (K := fun f => sF ih E en (ih E en.a f H)) hf0 hpk (by simpa using hlen.symm)
 have h : (oR Rs.no args (List.map kQ ps.toList) f0 fun f => sF ih E en (ih E en.a f H)).Is v H1 := h
 rw [h4] at h
 cases hr1 : ih E en.a f2 H with
 | no => rw [hr1] at h; exact absurd h Rs.ar
 | ok e f3 H2 =>
   rw [hr1] at h
   obtain ⟨l3, hf3, hs1, hk1, _⟩ := hih E en.a k a f2 _ H e f3 H2 hla hf2 hE hr1
   cases e with
   | ret => exact absurd h Rs.ar
   | exit id => exact absurd h Rs.ar
   | normal =>
     have h : (zO ih E en f3 H2).Is v H1 := h
     unfold zO at h
     split at h
     case h_2 => exact absurd h Rs.ar
     rename_i p2 fn2 tmps2 ps2 a2 b2 d2 hg2
     rw [lU] at h
     obtain ⟨r0, hr0, ea, eb, ep, et⟩ := hk1.2 en.L _ (hE en hmem).1 hg2
     rw [hg] at hr0
     injection hr0 with hr0
     injection hr0 with hr0
     subst hr0
     have ea' : a2 = a := ea
     have eb' : b2 = b := eb
     have ep' : ps2 = ps := ep
     have et' : tmps2 = ⟨tmps⟩ := et
     clear ea eb ep et
     subst ea' eb' ep' et'
     have hk2 : LK H2 (hset H2 en.L (.loop ⟨.busy, p2, fn2, ⟨tmps⟩, ps2, a2, b2, d2⟩)) := .loop hg2 ⟨rfl, rfl, rfl, rfl⟩
     cases hr2 : ih E en.b f3 (hset H2 en.L (.loop ⟨.busy, p2, fn2, ⟨tmps⟩, ps2, a2, b2, d2⟩)) with
     | no => rw [hr2] at h; exact absurd h Rs.ar
     | ok e f4 H3 =>
       rw [hr2] at h
       obtain ⟨l4, _, hs2, hk3, _⟩ := hih E en.b k b2 f3 _ _ e f4 H3 hlb hf3 (hE.ag (hk1.trans hk2)) hr2
       have h : (a1E en.L e H3).Is v H1 := h
       unfold a1E at h
       split at h
       case h_2 => exact absurd h Rs.ar
       rename_i st3 p3 fn3 tmps3 ps3 a3 b3 d3 hg3
       have fin : ∀ r', H1 = hset H3 en.L (.loop r') → (r' = { (⟨st3, p3, fn3, tmps3, ps3, a3, b3, d3⟩ : Loop) with state := if (rI e).isNone then .ready else .done, pending := rI e }) → v = .bool (rI e).isNone → xX P en.L args H v H1 ∧ LK H H1 := by
        intro r' hH hr' hv
        refine ⟨?_, hk1.trans (hk2.trans (hk3.trans (by rw [hH]; exact .loop hg3 (by rw [hr']; exact ⟨rfl, rfl, rfl, rfl⟩))))⟩
        have hW := a0K (P := P) (args := args) (K := fun v' H' => v' = v ∧ H' = H1) hg hlen rfl
         ⟨.normal, l3, H2, hs1, rfl, _, hg2, rfl, e, l4, H3, hs2, _, hg3, hv.symm, by rw [hH, hr']⟩
        obtain ⟨v', H', h1, rfl, rfl⟩ := hW
        exact h1
       split at h
       ·rename_i hj
        obtain ⟨rfl, rfl⟩ := Rs.aQ h
        rw [a6k] at hj
        exact fin _ rfl (by rw [hj]; rfl) (by rw [hj]; rfl)
       ·rename_i c hj
        obtain ⟨rfl, rfl⟩ := Rs.aQ h
        rw [a6k] at hj
        exact fin _ rfl (by rw [hj]; rfl) (by rw [hj]; rfl)
theorem a3A {T : LT} (hT : TOk P T) {ih : pU} (hih : a3W P ih) {E : List LEnv} {H0 : Heap} (hE : EOk P E H0) : CallsOk P (zM P T ih E) H0 where
 fn p f args H v H1 hk h hp := b6F hT hih (hE.ag hk) hp h
 rd L args H v H1 hk h := b1O hih (hE.ag hk) h
theorem c1N {α : Type} {f : Fr} {l : List Value} (hf : FAg f l) (i m : Nat) (K : List Value → α) : frL f ((List.range' i m).map kQ) K = K ((List.range' i m).map (get l)) := by
 induction m generalizing i K with
 | zero => rfl
 | succ m ih =>
   have e : frL f ((List.range' i (m + 1)).map kQ) K = oG (nS (kQ i) f) fun v => frL f ((List.range' (i + 1) m).map kQ) fun l => K (v :: l) := by
    rw [gA]; rfl
   rw [e, mO, ih, hf i, gA]; rfl
theorem b7Q {α : Type} {k : Nat} {f : Fr} {l : List Value} (hf : FRel k f l) (K : List Value → α) : frL f ((List.range k).map kQ) K = K l := by
 rw [fD, c1N hf.2, ← fD]
 congr 1
 apply gq
 intro i
 rw [eJ]
 by_cases hi : i < k
 ·rw [gF hi, dK, oF, cZ]
  have : i < l.length := by rw [hf.1]; exact hi
  simp [dj this]
 ·rw [ec (by simp; omega), ec (by rw [hf.1]; omega)]; rfl
theorem b2G {T : LT} (hT : TOk P T) {ih : pU} (hih : a3W P ih) {E : List LEnv} {k : Nat} {g : Operand} {ps : Array Tmp} {assign body : Code} {A B : LCode} (hg : iN g = true) (hps : ∀ t ∈ ps.toList, t < k) (ha : Low P k assign A) (hb : Low P k body B)
 {x1 x2 : Fr → Heap → Rc} {f : Fr} {l : List Value} {H : Heap} {e : Ex} {f1 : Fr} {H1 : Heap} (hf : FRel k f l) (hE : EOk P E H) (h : a8i T ih E (iU g) ((List.range k).map kQ) (ps.toList.map kQ) ps assign body A B x1 x2 f H = .ok e f1 H1) :
 f1 = f ∧ Sim P (.rangeFunc g ps assign body) l H e l H1 ∧ LK H H1 := by
 unfold a8i at h
 rw [jS hf.2] at h
 split at h
 case h_2 => cases h
 rename_i j xa xb hgv
 rw [jZ, b7Q hf, lU, jZ] at h
 unfold b0I at h
 rw [lH] at h
 generalize hH0 : H.cons (.loop ⟨.ready, none, 0, ⟨l⟩, ps, assign, body, 0⟩) = H0 at h
 have hl0 : (⟨.ready, none, 0, ⟨l⟩, ps, assign, body, 0⟩ : Loop) = b1f l ps assign body := rfl
 have hE0 : EOk P (⟨H.length, (List.range k).map kQ, ps.toList.map kQ, A, B⟩ :: E) H0 := by
  intro en hen
  rcases dN.1 hen with rfl | hen
  ·refine ⟨by rw [← hH0, length_cons]; exact Nat.lt_succ_self _, fun r hr => ?_⟩
   rw [← hH0, iM] at hr
   injection hr with hr
   injection hr with hr
   subst hr
   exact ⟨k, rfl, by simpa using hf.1, rfl, hps, ha, hb⟩
  ·exact (hE.ag (by rw [← hH0]; exact .cons _ _)) en hen
 have key : ∀ v H2, (mN T ih (⟨H.length, (List.range k).map kQ, ps.toList.map kQ, A, B⟩ :: E) (kQ j) (a4R xa (.func (.yield H.length) #[] #[] :: xb)) H0).Is v H2 → uM H.length f H2 = .ok e f1 H1 → f1 = f ∧ Sim P (.rangeFunc g ps assign body) l H e l H1 ∧ LK H H1 := by
  intro v H2 hc hr
  obtain ⟨hfn, hk⟩ := a0e hT hih hE0 rfl hc
  have hargs : a4R xa (.func (.yield H.length) #[] #[] :: xb) = xa ++ [.func (.yield H.length) #[] #[]] ++ xb := by rw [zE]; simp
  rw [hargs, ← hH0, hl0] at hfn
  have fin : ∀ (r : Loop) (H3 : Heap), iP H2 H.length = some (.loop r) → r.state ≠ .busy → H3 = hset H2 H.length (.loop { r with state := .exhausted }) → (r.pending = none → e = .normal) → (∀ c, r.pending = some c → (c = .ret ∧ e = .ret) ∨ ∃ id, c = .exit id ∧ e = .exit id) → f1 = f → H1 = H3 →
   f1 = f ∧ Sim P (.rangeFunc g ps assign body) l H e l H1 ∧ LK H H1 := by
   intro r H3 hrl hnb hH3 hp0 hp1 he1 he2
   have hw : Wp P (.rangeFunc g ps assign body) l H (fun e' l' H' => e' = e ∧ l' = l ∧ H' = H3) := by
    refine Wp.range (first := xa) (captured := xb) hg (by rw [hgv]) (hfn.mono ?_)
    rintro v' H' ⟨rfl, rfl⟩
    refine ⟨r, hrl, hnb, fun hp => ⟨(hp0 hp).symm, rfl, hH3.symm⟩, fun c hc => ?_⟩
    rcases hp1 c hc with ⟨rfl, he⟩ | ⟨id, rfl, he⟩
    ·exact Wp.ret ⟨he.symm, rfl, hH3.symm⟩
    ·exact Wp.exit ⟨he.symm, rfl, hH3.symm⟩
   obtain ⟨e', l', H', hs, rfl, rfl, rfl⟩ := hw
   refine ⟨he1, by rw [he2]; exact hs, ?_⟩
   rw [he2, hH3]
   have h1 : LK H H0 := by rw [← hH0]; exact .cons _ _
   exact h1.trans (hk.trans (.loop hrl ⟨rfl, rfl, rfl, rfl⟩))
  unfold uM at hr
  split at hr
  ·rename_i hg2
   rw [lU] at hr
   injection hr with h1 h2 h3
   exact fin _ _ hg2 (by simp) rfl (fun _ => h1.symm) (fun c hc => by cases hc) h2.symm h3.symm
  ·rename_i hg2
   rw [lU] at hr
   injection hr with h1 h2 h3
   exact fin _ _ hg2 (by simp) rfl (fun _ => h1.symm) (fun c hc => by cases hc) h2.symm h3.symm
  ·rename_i hg2
   rw [lU] at hr
   injection hr with h1 h2 h3
   exact fin _ _ hg2 (by simp) rfl (fun hc => by cases hc) (fun c hc => by injection hc with hc; subst hc; exact .inl ⟨rfl, h1.symm⟩) h2.symm h3.symm
  ·rename_i hg2
   rw [lU] at hr
   injection hr with h1 h2 h3
   exact fin _ _ hg2 (by simp) rfl (fun hc => by cases hc) (fun c hc => by injection hc with hc; subst hc; exact .inr ⟨_, rfl, h1.symm⟩) h2.symm h3.symm
  ·cases hr
 cases hc : mN T ih (⟨H.length, (List.range k).map kQ, ps.toList.map kQ, A, B⟩ :: E) (kQ j) (a4R xa (.func (.yield H.length) #[] #[] :: xb)) H0 with
 | no => rw [hc] at h; cases h
 | ok v H2 => rw [hc] at h; exact key v H2 (.inl hc) h
 | th v H2 =>
   rw [hc] at h
   have h : nG H2 (fun H => uM _ f H) = .ok e f1 H1 := h
   rw [lU] at h
   exact key v H2 (.inr hc) h
theorem c0K (kF : P.follows .mixedOrders = true) {T : LT} (hT : TOk P T) : ∀ n, a3W P (exF P T n) := by
 intro n
 induction n with
 | zero => intro E C k c f l H e f1 H1 _ _ _ h; cases h
 | succ n ih =>
   intro E C k c f l H e f1 H1 hlow hf hE h
   have h : b1d P T (exF P T n) E C f H = .ok e f1 H1 := h
   have noloop : ∀ {c : Code}, (∀ b, c ≠ .loop b) → ∀ {l1 : List Value}, ∀ b, c = .loop b → ∃ n, Rounds P b n l H e l1 H1 := fun hne _ b hb => absurd hb (hne b)
   cases hlow with
   | bad => cases h
   | skip =>
     injection h with h1 h2 h3; subst h1 h2 h3
     exact ⟨l, hf, .skip l H, .refl H, noloop (by intro b h; cases h)⟩
   | label t =>
     injection h with h1 h2 h3; subst h1 h2 h3
     exact ⟨l, hf, .label t l H, .refl H, noloop (by intro b h; cases h)⟩
   | exit id =>
     injection h with h1 h2 h3; subst h1 h2 h3
     exact ⟨l, hf, .exit id l H, .refl H, noloop (by intro b h; cases h)⟩
   | ret =>
     injection h with h1 h2 h3; subst h1 h2 h3
     exact ⟨l, hf, .ret l H, .refl H, noloop (by intro b h; cases h)⟩
   | @reg id ops d lo hlo hd =>
     have h : c4G (xP P (zM P T (exF P T n) E) lo f H) = .ok e f1 H1 := h
     cases hr : xP P (zM P T (exF P T n) E) lo f H with
     | no => rw [hr] at h; cases h
     | ok f2 H2 =>
       rw [hr] at h
       injection h with h1 h2 h3; subst h1 h2 h3
       obtain ⟨l1, hf1, hops, hk⟩ := b9m (a3A hT ih hE) hlo (i := 0) rfl hf (.refl H) hr
       have hops : OpsR P ops (List.range ops.size) l H l1 H2 := by rw [fD]; simpa using hops
       refine ⟨l1, hf1, ?_, hk, noloop (by intro b h; cases h)⟩
       cases d with
       | false => exact .region hops
       | true => exact .bV kF (hd rfl) hops
   | drw hlo ht hl =>
     obtain ⟨l1, rfl, hf1, hs, hk⟩ := b7U kF (a3A hT ih hE) hlo ht hl hf h
     exact ⟨l1, hf1, hs, hk, noloop (by intro b h; cases h)⟩
   | @seq a b A B ha hb =>
     have h : b8X (exF P T n) E B (exF P T n E A f H) = .ok e f1 H1 := h
     cases hr : exF P T n E A f H with
     | no => rw [hr] at h; cases h
     | ok e2 f2 H2 =>
       rw [hr] at h
       obtain ⟨l2, hf2, hs, hk, _⟩ := ih E A k a f l H e2 f2 H2 ha hf hE hr
       cases e2 with
       | normal =>
         obtain ⟨l1, hf1, hs1, hk1, _⟩ := ih E B k b f2 l2 H2 e f1 H1 hb hf2 (hE.ag hk) h
         exact ⟨l1, hf1, .seq hs hs1, hk.trans hk1, noloop (by intro b h; cases h)⟩
       | ret =>
         injection h with h1 h2 h3; subst h1 h2 h3
         exact ⟨l2, hf2, .seq' hs (by intro h; cases h), hk, noloop (by intro b h; cases h)⟩
       | exit id =>
         injection h with h1 h2 h3; subst h1 h2 h3
         exact ⟨l2, hf2, .seq' hs (by intro h; cases h), hk, noloop (by intro b h; cases h)⟩
   | @cond c x y X Y hc hx hy =>
     have h : b6n (exF P T n) E (iU c) X Y (b1d P T (exF P T n) E X) (b1d P T (exF P T n) E Y) f H = .ok e f1 H1 := h
     unfold b6n at h
     rw [jS hf.2] at h
     split at h
     ·rename_i t ht
      cases t with
      | true =>
        obtain ⟨l1, hf1, hs, hk, _⟩ := ih E X k x f l H e f1 H1 hx hf hE h
        exact ⟨l1, hf1, .cond ht hc hs, hk, noloop (by intro b h; cases h)⟩
      | false =>
        obtain ⟨l1, hf1, hs, hk, _⟩ := ih E Y k y f l H e f1 H1 hy hf hE h
        exact ⟨l1, hf1, .cond ht hc hs, hk, noloop (by intro b h; cases h)⟩
     ·cases h
   | @block id b B hb =>
     have h : c3d id (exF P T n E B f H) = .ok e f1 H1 := h
     cases hr : exF P T n E B f H with
     | no => rw [hr] at h; cases h
     | ok e2 f2 H2 =>
       rw [hr] at h
       obtain ⟨l2, hf2, hs, hk, _⟩ := ih E B k b f l H e2 f2 H2 hb hf hE hr
       have hs' : Sim P (.block id b) l H (e2.out id) l2 H2 := .block hs
       cases e2 with
       | normal => injection h with h1 h2 h3; subst h1 h2 h3; exact ⟨l2, hf2, hs', hk, noloop (by intro b h; cases h)⟩
       | ret => injection h with h1 h2 h3; subst h1 h2 h3; exact ⟨l2, hf2, hs', hk, noloop (by intro b h; cases h)⟩
       | exit i =>
         have h : Rc.ok (Bool.rec (motive := fun _ => Ex) (.exit i) .normal (Nat.beq i id)) f2 H2 = .ok e f1 H1 := h
         injection h with h1 h2 h3; subst h2 h3
         have : (Ex.exit i).out id = e := by
          rw [← h1]
          by_cases hi : i = id
          ·subst hi; simp [Ex.out]
          ·have : Nat.beq i id = false := fP.2 fun e => hi (dP e)
           simp [Ex.out, hi, this]
         rw [this] at hs'
         exact ⟨l2, hf2, hs', hk, noloop (by intro b h; cases h)⟩
   | @loop b B hb =>
     have h : b8X (exF P T n) E (.loop B) (exF P T n E B f H) = .ok e f1 H1 := h
     cases hr : exF P T n E B f H with
     | no => rw [hr] at h; cases h
     | ok e2 f2 H2 =>
       rw [hr] at h
       obtain ⟨l2, hf2, hs, hk, _⟩ := ih E B k b f l H e2 f2 H2 hb hf hE hr
       have last : e2 ≠ .normal → e2 = e → f2 = f1 → H2 = H1 → ∃ l1, FRel k f1 l1 ∧ Sim P (.loop b) l H e l1 H1 ∧ LK H H1 ∧ ∀ b', Code.loop b = .loop b' → ∃ n, Rounds P b' n l H e l1 H1 := by
        intro hne h1 h2 h3
        subst h1 h2 h3
        have hr : Rounds P b 1 l H e2 l2 H2 := .last hs hne
        exact ⟨l2, hf2, .loop hr, hk, fun b' hb' => by injection hb' with hb'; subst hb'; exact ⟨1, hr⟩⟩
       cases e2 with
       | normal =>
         obtain ⟨l1, hf1, hs1, hk1, hro⟩ := ih E (.loop B) k (.loop b) f2 l2 H2 e f1 H1 (.loop hb) hf2 (hE.ag hk) h
         obtain ⟨m, hm⟩ := hro b rfl
         have hr : Rounds P b (m + 1) l H e l1 H1 := .more hs hm
         exact ⟨l1, hf1, .loop hr, hk.trans hk1, fun b' hb' => by injection hb' with hb'; subst hb'; exact ⟨_, hr⟩⟩
       | ret => injection h with h1 h2 h3; exact last (by intro h; cases h) h1 h2 h3
       | exit id => injection h with h1 h2 h3; exact last (by intro h; cases h) h1 h2 h3
   | range hg hps ha hb =>
     obtain ⟨rfl, hs, hk⟩ := b2G (x1 := fun _ _ => .no) (x2 := fun _ _ => .no) hT ih hg hps ha hb hf hE h
     exact ⟨l, hf, hs, hk, noloop (by intro b h; cases h)⟩
theorem xT {α : Type} (v : LFunc) (p : Pth) (f : LT) (K : LT → α) : rP v p f K = K (rP v p f fun f => f) := by
 induction p generalizing f α with
 | z => cases f <;> rfl
 | l p ih =>
   cases f with
   | e =>
     show rP v p .e (fun l => K (.n none l .e)) = K (rP v p .e fun l => .n none l .e)
     rw [ih, ih (K := fun l => LT.n none l .e)]
   | n w l r =>
     show rP v p l (fun l => K (.n w l r)) = K (rP v p l fun l => .n w l r)
     rw [ih, ih (K := fun l => LT.n w l r)]
 | r p ih =>
   cases f with
   | e =>
     show rP v p .e (fun l => K (.n none .e l)) = K (rP v p .e fun l => .n none .e l)
     rw [ih, ih (K := fun l => LT.n none .e l)]
   | n w l r =>
     show rP v p r (fun r => K (.n w l r)) = K (rP v p r fun r => .n w l r)
     rw [ih, ih (K := fun r => LT.n w l r)]
theorem wP (p : Pth) : a2B p .e = none := by cases p <;> rfl
theorem b2X (v : LFunc) (p q : Pth) (f : LT) {g : LFunc} (h : a2B q (rP v p f fun f => f) = some g) : (q = p ∧ g = v) ∨ a2B q f = some g := by
 induction p generalizing f q with
 | z =>
   cases q with
   | z => left; refine ⟨rfl, ?_⟩; cases f <;> (injection h with h; exact h.symm)
   | l q => right; cases f with
     | e => have h : a2B q .e = some g := h
            rw [wP] at h; cases h
     | n => exact h
   | r q => right; cases f with
     | e => have h : a2B q .e = some g := h
            rw [wP] at h; cases h
     | n => exact h
 | l p ih =>
   have h1 : ∀ f, rP v (.l p) f (fun f => f) = match f with | .e => .n none (rP v p .e fun f => f) .e | .n w l r => .n w (rP v p l fun f => f) r := fun f => by
    cases f with
    | e => exact xT v p .e fun l => LT.n none l .e
    | n w l r => exact xT v p l fun l => LT.n w l r
   rw [h1] at h
   cases q with
   | z => right; cases f with
     | e => exact h
     | n => exact h
   | r q => right; cases f with
     | e => have h : a2B q .e = some g := h
            rw [wP] at h; cases h
     | n => exact h
   | l q =>
     cases f with
     | e =>
       rcases ih q .e h with ⟨rfl, hq⟩ | h
       ·exact .inl ⟨rfl, hq⟩
       ·rw [wP] at h; cases h
     | n w l r =>
       rcases ih q l h with ⟨rfl, hq⟩ | h
       ·exact .inl ⟨rfl, hq⟩
       ·exact .inr h
 | r p ih =>
   have h1 : ∀ f, rP v (.r p) f (fun f => f) = match f with | .e => .n none .e (rP v p .e fun f => f) | .n w l r => .n w l (rP v p r fun f => f) := fun f => by
    cases f with
    | e => exact xT v p .e fun l => LT.n none .e l
    | n w l r => exact xT v p r fun r => LT.n w l r
   rw [h1] at h
   cases q with
   | z => right; cases f with
     | e => exact h
     | n => exact h
   | l q => right; cases f with
     | e => have h : a2B q .e = some g := h
            rw [wP] at h; cases h
     | n => exact h
   | r q =>
     cases f with
     | e =>
       rcases ih q .e h with ⟨rfl, hq⟩ | h
       ·exact .inl ⟨rfl, hq⟩
       ·rw [wP] at h; cases h
     | n w l r =>
       rcases ih q r h with ⟨rfl, hq⟩ | h
       ·exact .inl ⟨rfl, hq⟩
       ·exact .inr h
theorem b1Q {α : Type} (f : FuncId) (no : α) (K : LFunc → α) : (∃ g, FuncOk P f g ∧ a2t P f no K = K g) ∨ a2t P f no K = no := by
 unfold a2t
 split
 ·rename_i fn hfn
  split
  ·rename_i c hb
   rw [kP]
   split
   ·exact .inr rfl
   ·rename_i hn
    rcases b4d (P := P) fn.results.toList (fun res => b2R fn.ntmps fun ps => mW P fn.ntmps c fun b => K ⟨ps, b, res⟩) no with ⟨res, hres, h1⟩ | h1
    ·rw [h1, b0T]
     obtain ⟨C, hC, h2⟩ := b2V (P := P) fn.ntmps c (fun b => K ⟨(List.range fn.ntmps).map kQ, b, res⟩)
     exact .inl ⟨⟨_, C, res⟩, ⟨fn, c, hfn, hb, by simpa using hn, rfl, hC, hres⟩, h2⟩
    ·exact .inr h1
  ·exact .inr rfl
 ·exact .inr rfl
theorem b6D {α : Type} (fs : List FuncId) (T : LT) (hT : TOk P T) (K : LT → α) : ∃ T', TOk P T' ∧ tK P fs T K = K T' := by
 induction fs generalizing T with
 | nil => exact ⟨T, hT, rfl⟩
 | cons f fs ih =>
   have e : tK P (f :: fs) T K = a2t P f (tK P fs T K) fun g => lM (kQ f) fun p => rP g p T fun T => tK P fs T K := rfl
   rw [e]
   rcases b1Q (P := P) f (tK P fs T K) (fun g => lM (kQ f) fun p => rP g p T fun T => tK P fs T K) with ⟨g, hg, h⟩ | h
   ·rw [h, lH, xT]
    refine ih _ fun f' g' h' => ?_
    rcases b2X g (kQ f) (kQ f') T h' with ⟨he, rfl⟩ | h'
    ·rw [b0v he]; exact hg
    ·exact hT f' g' h'
   ·rw [h]; exact ih T hT
end Go.Ds
namespace Go.Ds
open Go.Proofs Go.Proofs.Tryz
def t64 : List Nat := [0, 1, 56, 2, 57, 49, 28, 3, 61, 58, 42, 50, 38, 29, 17, 4, 62, 47, 59, 36, 45, 43, 51, 22, 53, 39, 33, 30, 24, 18, 12, 5, 63, 55, 48, 27, 60, 41, 37, 16, 46, 35, 44, 21, 52, 32, 23, 11, 54, 26, 40, 15, 34, 20, 31, 10, 25, 14, 19, 9, 13, 8, 7, 6]
def t32 : List Nat := [0, 1, 28, 2, 29, 14, 24, 3, 30, 22, 20, 15, 25, 17, 4, 8, 31, 27, 13, 23, 21, 19, 16, 7, 26, 12, 18, 6, 11, 5, 10, 9]
noncomputable def gH : Heap := ((((((Heap.nil.cons (.cells (t64.map fun (n : Nat) => Value.int .u8 (.ofNat n)) 5 false 0 1)).cons (.cells [] 3 false 0 1)).cons (.cells [] 275 false 0 1)).cons (.cells [] 275 false 0 1)).cons (.cells ([1, 10, 100, 1000, 10000, 100000, 1000000, 10000000, 100000000, 1000000000, 10000000000, 100000000000, 1000000000000, 10000000000000, 100000000000000, 1000000000000000, 10000000000000000, 100000000000000000, 1000000000000000000, 10000000000000000000].map fun (n : Nat) => Value.int .u64 (.ofNat n)) 39 false 0 1)).cons (.cells (t32.map fun (n : Nat) => Value.int .u8 (.ofNat n)) 5 false 0 1))
theorem c3W : prog.follows .mixedOrders = true := by kernel_rfl
def b1V : Nat → Nat → List UInt8 → List UInt8
 | 0, _, acc => acc
 | f + 1, n, acc => if n < 10 then (48 + n).toUInt8 :: acc else b1V f (n / 10) ((48 + n % 10).toUInt8 :: acc)
def oU (n : Nat) : ByteArray := ⟨(b1V 100 n []).toArray⟩
theorem a4A {b : ByteArray} {n : Nat} (h : b.data.toList = b1V 100 n []) : b = oU n := by
 cases b with | mk d => cases d with | mk l => simp only at h; subst h; rfl
def b0o (r : Rs) (n : Nat) : Bool := match r with
 | .ok (.string b) _ => decide (b.data.toList = b1V 100 n [])
 | .th (.string b) _ => decide (b.data.toList = b1V 100 n [])
 | _ => false
def b7h (v : Value) (n : Nat) : Bool := match v with
 | .tuple vs => match vs.toList with
   | [.string b, .int .i64 m] => decide (m = 0) && decide (b.data.toList = b1V 100 n [])
   | _ => false
 | _ => false
def b3D (r : Rs) (n : Nat) : Bool := match r with
 | .ok v _ => b7h v n
 | .th v _ => b7h v n
 | _ => false
def b4p (r : Rs) (n : Int) : Bool := match r with
 | .ok (.int .i64 m) _ => decide (m = n)
 | .th (.int .i64 m) _ => decide (m = n)
 | _ => false
noncomputable def b9z (ps : List Nat) : Bool := tK prog [133, 155, 136, 188, 213, 225, 232, 233, 234, 235, 241, 242, 243, 244, 248] .e fun T => ps.all fun x => b0o (mN T (exF prog T 4000) [] (kQ 155) [.int .i64 x] gH) x
def fsP : List Nat := [133, 223, 209, 211, 168, 154, 136, 222, 237, 201, 202, 184, 185, 186, 187, 191, 236, 245, 206, 207, 208, 210, 212, 196, 214, 220, 221, 224, 217, 232, 233, 234, 235, 241, 242, 243, 244, 248]
noncomputable def uC (ps : List Nat) : Bool := tK prog fsP .e fun T => ps.all fun x => b3D (mN T (exF prog T 4000) [] (kQ 154) [.string (oU x), .int .i64 24] gH) (x ^ 24)
def fsM : List Nat := [133, 223, 209, 211, 168, 155, 156, 136, 188, 222, 237, 201, 202, 184, 185, 186, 187, 189, 191, 213, 236, 245, 206, 207, 208, 210, 212, 196, 214, 225, 220, 221, 224, 217, 232, 233, 234, 235, 241, 242, 243, 244, 248]
noncomputable def lT (ps : List (Nat × Nat)) : Bool := tK prog fsM .e fun T => ps.all fun x => b0o (mN T (exF prog T 4000) [] (kQ 156) [.string (oU x.1), .string (oU x.2)] gH) (x.1 * x.2)
def rM (t : Nat × Nat) : List (Nat × Nat) := (t.1 ^ 24, 2) :: (List.range t.2).map fun k => (2 * t.1 ^ 24 * 4 ^ k, 4)
def a6g (t : Nat × Nat × Nat) : List (Nat × Nat) := (List.range (t.2.2 + 1)).map fun k => (t.1 ^ 24, 2 * t.2.1 ^ 24 * 4 ^ k)
def b3z (a b : Nat) : Int := if a < b then -1 else if b < a then 1 else 0
noncomputable def uP (ps : List (Nat × Nat)) : Bool := tK prog [157, 190, 191, 192, 196, 214, 215, 217, 226] .e fun T => ps.all fun x => b4p (mN T (exF prog T 4000) [] (kQ 157) [.string (oU x.1), .string (oU x.2)] gH) (b3z x.1 x.2)
end Go.Ds
namespace Go.Ds
open Go.RowKit Go.Proofs
section
variable {P : Program} {ρ : Rho} {H : Heap} {w : World}
theorem a3v {name : String} {g : Nat} {k : IntKind} {zs : List Int} (hg : P.globalNamed name = some g) (ht : Lib.TabIs P w name k zs) : ∃ t fr, w.heap[g]? = some (.cells (zs.map fun z => Value.int k z).toArray t fr) := by
 unfold Lib.TabIs World.var? at ht
 rw [hg, cV] at ht
 split at ht
 ·rename_i cs t fr hb
  obtain rfl := cU ht
  exact ⟨t, fr, hb⟩
 ·cases ht
theorem InW.cK (h : InW P ρ H w) {name : String} {g : Nat} {k : IntKind} {zs : List Int} {ty : TypeId} (hg : P.globalNamed name = some g) (ht : Lib.TabIs P w name k zs) (hgH : g = H.length) (hty : iD P ty = some 1) :
 InW P (ρ.put H.length (zs.map fun z => Value.int k z).length ⟨g, 0, zs.length, 1⟩) (H.cons (.cells (zs.map fun z => Value.int k z) ty false 0 1)) w := by
 obtain ⟨t, fr, hb⟩ := a3v hg ht
 refine (h.row ⟨g, 0, zs.length, 1⟩ hb (ty := ty) hty (by simp) (zs.map fun z => Value.int k z) 1 (fun _ => ⟨hgH, rfl⟩) (by simp) fun i c hi _ hc => ⟨c, ?_, ?_⟩).1
 ·have : (⟨g, 0, zs.length, 1⟩ : Place).at i = i := by simp [Place.at]
  rw [this]
  simpa using hc
 ·rw [eJ] at hc
  obtain ⟨z, _, rfl⟩ := dc.1 hc
  exact .c0 (.flat rfl)
end
theorem c2B : ∀ A b, iP gH A = some b → ∃ cs ty lo, b = .cells cs ty false lo 1 ∧ kI cs = true := by
 intro A b h
 unfold gH at h
 have hn : ∀ (H : Heap) (c : Blk), iP (H.cons c) A = some b → (A = H.length ∧ b = c) ∨ iP H A = some b := fun H c h => by
  by_cases he : A = H.length
  ·subst he; rw [iM] at h; exact .inl ⟨rfl, (cU h).symm⟩
  ·have hA : A < (H.cons c).length := jM h
   rw [length_cons] at hA
   rw [jP _ (by omega)] at h
   exact .inr h
 rcases hn _ _ h with ⟨_, rfl⟩ | h
 ·exact ⟨_, _, _, rfl, by kernel_rfl⟩
 rcases hn _ _ h with ⟨_, rfl⟩ | h
 ·exact ⟨_, _, _, rfl, by kernel_rfl⟩
 rcases hn _ _ h with ⟨_, rfl⟩ | h
 ·exact ⟨_, _, _, rfl, by kernel_rfl⟩
 rcases hn _ _ h with ⟨_, rfl⟩ | h
 ·exact ⟨_, _, _, rfl, by kernel_rfl⟩
 rcases hn _ _ h with ⟨_, rfl⟩ | h
 ·exact ⟨_, _, _, rfl, by kernel_rfl⟩
 rcases hn _ _ h with ⟨_, rfl⟩ | h
 ·exact ⟨_, _, _, rfl, by kernel_rfl⟩
 ·have : A < 0 := jM h
  omega
theorem ExtW.glob {ρ ρ' : Rho} {H' : Heap} (h : ExtW ρ gH ρ' H') : Glob gH H' := ⟨h.len, fun A hA => h.old A hA, c2B⟩
def p10 : List Int := [1, 10, 100, 1000, 10000, 100000, 1000000, 10000000, 100000000, 1000000000, 10000000000, 100000000000, 1000000000000, 10000000000000, 100000000000000, 1000000000000000, 10000000000000000, 100000000000000000, 1000000000000000000, 10000000000000000000]
theorem g64 : Tryz.prog.globalNamed "math/bits.deBruijn64tab" = some 0 := by kernel_rfl
theorem qX : Tryz.prog.globalNamed "internal/strconv.uint64pow10" = some 4 := by kernel_rfl
theorem g32 : Tryz.prog.globalNamed "math/bits.deBruijn32tab" = some 5 := by kernel_rfl
theorem b7Y {w : World} (h64 : Lib.TabIs Tryz.prog w "math/bits.deBruijn64tab" .u8 (t64.map Int.ofNat)) (h10 : Lib.TabIs Tryz.prog w "internal/strconv.uint64pow10" .u64 p10)
 (h32 : Lib.TabIs Tryz.prog w "math/bits.deBruijn32tab" .u8 (t32.map Int.ofNat)) (h1001 : ∃ cs t fr, w.heap[1]? = some (.cells cs t fr)) (h1002 : ∃ cs t fr, w.heap[2]? = some (.cells cs t fr)) (h1003 : ∃ cs t fr, w.heap[3]? = some (.cells cs t fr)) : ∃ ρ, InW Tryz.prog ρ gH w := by
 have a0 := (InW.none (P := Tryz.prog) w).cK g64 h64 (ty := 5) rfl (by kernel_rfl)
 obtain ⟨cs1, t1, fr1, hb1⟩ := h1001
 have a1 := (a0.row ⟨1, 0, cs1.size, 1⟩ hb1 (ty := 3) (by kernel_rfl) rfl [] 1 (fun _ => ⟨rfl, rfl⟩) (by simp) (fun i c hi => by simp at hi)).1
 obtain ⟨cs2, t2, fr2, hb2⟩ := h1002
 have a2 := (a1.row ⟨2, 0, cs2.size, 1⟩ hb2 (ty := 275) (by kernel_rfl) rfl [] 1 (fun _ => ⟨rfl, rfl⟩) (by simp) (fun i c hi => by simp at hi)).1
 obtain ⟨cs3, t3, fr3, hb3⟩ := h1003
 have a3 := (a2.row ⟨3, 0, cs3.size, 1⟩ hb3 (ty := 275) (by kernel_rfl) rfl [] 1 (fun _ => ⟨rfl, rfl⟩) (by simp) (fun i c hi => by simp at hi)).1
 have a4 := a3.cK qX h10 (ty := 39) rfl (by kernel_rfl)
 have a5 := a4.cK g32 h32 (ty := 5) rfl (by kernel_rfl)
 exact ⟨_, a5⟩
end Go.Ds
namespace Go.Ds
noncomputable section
variable {P : Program} {H0 : Base} {H : Heap} {os : List Ob} {κ β : Type} [DecidableEq κ] {enc : κ → Value} {f : β → Value} {t : TypeId} {z : Value}
structure MapK (P : Program) (t : TypeId) {κ : Type} [DecidableEq κ] (enc : κ → Value) (z : Value) : Prop where
 ex : ∃ kt et, yD P t = some (kt, et) ∧ iZ P et = some z ∧ jA z = true ∧ (∀ b k, xJ P b kt (enc k) = true) ∧
  (∀ k (es : List MapEntry) (ks : List κ), es.map (·.key) = ks.map enc → rE P kt (enc k) es = some (ks.findIdx? fun x => decide (x = k))) ∧ ∀ k, Instr.sameBits 10000 (enc k) (enc k) = true
def kcs (enc : κ → Value) (f : β → Value) (kvs : List (κ × β)) : List Value := kvs.flatMap fun p => [enc p.1, f p.2]
def a2D (kvs : List (κ × β)) (k : κ) : Option β := (kvs.find? fun p => decide (p.1 = k)).map (·.2)
def a4G (kvs : List (κ × β)) (k : κ) (v : β) : List (κ × β) := match kvs.findIdx? (fun p => decide (p.1 = k)) with
 | some j => kvs.set j (k, v)
 | none => kvs ++ [(k, v)]
theorem a5i : ∀ (es : List MapEntry) (kvs : List (κ × β)), kcs enc f kvs = mcs es → es.map (·.key) = kvs.map (fun p => enc p.1) ∧ es.map (·.val) = kvs.map (fun p => f p.2)
 | [], [], _ => ⟨rfl, rfl⟩
 | [], p :: kvs, h => by simp [kcs, mcs] at h
 | e :: es, [], h => by simp [kcs, mcs] at h
 | e :: es, p :: kvs, h => by
   simp only [kcs, mcs, dx, gW, fi, fO] at h
   obtain ⟨h1, h2, h3⟩ := h
   obtain ⟨h4, h5⟩ := a5i es kvs h3
   simp only [eo]
   exact ⟨by rw [h4, h1], by rw [h5, h2]⟩
theorem a8E : ∀ (es : List MapEntry) (kvs : List (κ × β)), es.map (·.key) = kvs.map (fun p => enc p.1) → es.map (·.val) = kvs.map (fun p => f p.2) → kcs enc f kvs = mcs es
 | [], [], _, _ => rfl
 | [], p :: kvs, h, _ => by simp at h
 | e :: es, [], h, _ => by simp at h
 | e :: es, p :: kvs, h, h' => by
   simp only [eo, fO] at h h'
   have := a8E es kvs h.2 h'.2
   simp only [kcs, mcs, dx] at this ⊢
   rw [this, h.1, h'.1]
theorem St.bW (hS : St P H0 H os) (i : Nat) {A : Nat} {cs : List Value} (ho : os[i]? = some ⟨.map (some A), 0, cs⟩) : ∃ es ck ver, iP H A = some (.map es ck ver) ∧ cs = mcs es ∧ Stamps es ck := by
 have := hS.own _ (dL ho)
 unfold OwnAt at this
 rw [if_pos rfl] at this
 rcases this with ⟨_, _, _, _, _, _, h⟩ | ⟨A', es, ck, ver, h1, h2, h3, h4⟩
 ·cases h
 ·simp only [Value.map.injEq, dB] at h3
  subst h3
  exact ⟨es, ck, ver, h1, h2, h4⟩
theorem b0J (kvs : List (κ × β)) (k : κ) : (∃ j x, (kvs.map (·.1)).findIdx? (fun x => decide (x = k)) = some j ∧ kvs[j]? = some x ∧ kvs.find? (fun p => decide (p.1 = k)) = some x) ∨ ((kvs.map (·.1)).findIdx? (fun x => decide (x = k)) = none ∧ kvs.find? (fun p => decide (p.1 = k)) = none) := by
 induction kvs with
 | nil => exact .inr ⟨rfl, rfl⟩
 | cons p kvs ih =>
   by_cases h : p.1 = k
   ·exact .inl ⟨0, p, by simp [eW, h], rfl, by simp [h]⟩
   ·rcases ih with ⟨j, x, h1, h2, h3⟩ | ⟨h1, h2⟩
    ·exact .inl ⟨j + 1, x, by simp [eW, h, h1], by simpa using h2, by simp [h, h3]⟩
    ·exact .inr ⟨by simp [eW, h, h1], by simp [h, h2]⟩
theorem St.cS (hS : St P H0 H os) (i : Nat) {A : Nat} {kvs : List (κ × β)} (ho : os[i]? = some ⟨.map (some A), 0, kcs enc f kvs⟩) (hk : MapK P t enc z) (hf : ∀ b, mU (f b) = true) (c : Bool) (k : κ) :
 pA P H t (.map (some A)) (enc k) c = some (pairV c (((a2D kvs k).map f).getD z) (a2D kvs k).isSome) := by
 obtain ⟨kt, et, h1, h2, h3, h4, h5, h6⟩ := hk.ex
 obtain ⟨es, ck, ver, h7, h8, _⟩ := hS.bW i ho
 obtain ⟨h9, h10⟩ := a5i es kvs h8
 have hi := h5 k es (kvs.map (·.1)) (by rw [h9]; simp [gQ])
 simp only [pA, h1, cV, a1A, h7, h4, if_true, hi, a2D]
 rcases b0J kvs k with ⟨j, x, e1, e2, e3⟩ | ⟨e1, e3⟩
 ·have hj : es[j]?.map (·.val) = some (f x.2) := by
   rw [← eJ, h10, eJ, e2]; rfl
  cases he : es[j]? with
  | none => rw [he] at hj; simp at hj
  | some e =>
    rw [he] at hj
    simp only [dK, dB] at hj
    simp only [e1, he, cV, hj, hf, if_true, e3, dK, fb, Option.isSome_some]
 ·simp only [e1, e3, Option.map_none, Option.getD_none, Option.isSome_none, h2, cV, h3, if_true]
def a6N (P : Program) (H : Heap) (t : TypeId) (x k : Value) (c : Bool) (K : Value → Prop) (_k : Keep K := ⟨⟩) : Prop := ∃ v, pA P H t x k c = some v ∧ K v
theorem a6j {t : TypeId} {x x' k k' : Value} {c : Bool} {K : Value → Prop} (h : x = x') (h2 : k = k') : a6N P H t x k c K = a6N P H t x' k' c K := by rw [h, h2]
attribute [congr] a6j
theorem a9D (d ty pos af g) (t : TypeId) (x k : Operand) (c : Bool) (l : List Value) (K : Value → Heap → Prop) :
 lW P ⟨d, .lookup t x k c, ty, pos, af, g⟩ l H K = jK x l fun x => jK k l fun k => a6N P H t x k c fun v => K v H := by
 have h2 : kB ((pA P H t (ev l x) (ev l k) c).map fun v => (v, H)) K = ∃ v, pA P H t (ev l x) (ev l k) c = some v ∧ K v H := by
  cases pA P H t (ev l x) (ev l k) c <;> simp [kB]
 simp only [lW, opD, jK, Op.operands, a6N, h2]
 simp [and_assoc]
theorem St.bM (hS : St P H0 H os) (i : Nat) {A : Nat} {kvs : List (κ × β)} (ho : os[i]? = some ⟨.map (some A), 0, kcs enc f kvs⟩) (hk : MapK P t enc z) (hf : ∀ b, mU (f b) = true) {c : Bool} {k : κ} {K : Value → Prop}
 (h : K (pairV c (((a2D kvs k).map f).getD z) (a2D kvs k).isSome)) : a6N P H t (.map (some A)) (enc k) c K := ⟨_, hS.cS i ho hk hf c k, h⟩
def a5o (P : Program) (H : Heap) (t : TypeId) (K : Value → Heap → Prop) (_k : Keep K := ⟨⟩) : Prop := ∃ v H1, pI P H t none = some (v, H1) ∧ K v H1
theorem a6h (d ty pos af g) (t : TypeId) (l : List Value) (K : Value → Heap → Prop) : lW P ⟨d, .makeMap t none, ty, pos, af, g⟩ l H K = a5o P H t K := by
 simp only [lW, opD, Op.operands, a5o, mK]
 simp
theorem St.bR (hS : St P H0 H os) (hk : MapK P t enc z) {K : Value → Heap → Prop} (h : ∀ A H1, St P H0 H1 (os ++ [⟨.map (some A), 0, []⟩]) → K (.map (some A)) H1) : a5o P H t K := by
 obtain ⟨kt, et, h1, _⟩ := hk.ex
 refine ⟨.map (some H.length), H.cons (.map [] 0 0), by simp [pI, h1], h _ _ (hS.add ?_ ?_ ?_ ?_)⟩
 ·unfold OwnAt
  rw [if_pos rfl]
  exact .inr ⟨_, [], 0, 0, iM H _, rfl, rfl, .nil 0⟩
 ·simp [pB]
 ·exact fun B hB => jP _ hB
 ·intro B hB
  simp [kG] at hB
  omega
def b4t (P : Program) (H : Heap) (t : TypeId) (m k v : Value) (K : Heap → Prop) (_k : Keep K := ⟨⟩) : Prop := ∃ H1, a0Q P H t m k v = some H1 ∧ K H1
theorem a9g {t : TypeId} {m m' k k' v v' : Value} {K : Heap → Prop} (h : m = m') (h2 : k = k') (h3 : v = v') : b4t P H t m k v K = b4t P H t m' k' v' K := by rw [h, h2, h3]
attribute [congr] a9g
theorem a2O (d ty pos af g) (t : TypeId) (m k v : Operand) (l : List Value) (K : Value → Heap → Prop) :
 lW P ⟨d, .mapUpdate t m k v, ty, pos, af, g⟩ l H K = jK m l fun m => jK k l fun k => jK v l fun v => b4t P H t m k v fun H1 => K undef H1 := by
 have h2 : kB ((a0Q P H t (ev l m) (ev l k) (ev l v)).map fun H => (undef, H)) K = ∃ H1, a0Q P H t (ev l m) (ev l k) (ev l v) = some H1 ∧ K undef H1 := by
  cases a0Q P H t (ev l m) (ev l k) (ev l v) <;> simp [kB]
 simp only [lW, opD, jK, Op.operands, b4t, h2]
 simp [and_assoc]
theorem b1h (kvs : List (κ × β)) (k : κ) (v : β) : a4G kvs k v = match (kvs.map (·.1)).findIdx? (fun x => decide (x = k)) with | some j => kvs.set j (k, v) | none => kvs ++ [(k, v)] := by
 unfold a4G
 rw [List.findIdx?_map]
 rfl
theorem St.cd (hS : St P H0 H os) (i : Nat) {A : Nat} {kvs : List (κ × β)} (ho : os[i]? = some ⟨.map (some A), 0, kcs enc f kvs⟩) (hk : MapK P t enc z) {k : κ} {v : β} {K : Heap → Prop}
 (h : ∀ H1, St P H0 H1 (os.set i ⟨.map (some A), 0, kcs enc f (a4G kvs k v)⟩) → K H1) : b4t P H t (.map (some A)) (enc k) (f v) K := by
 obtain ⟨kt, et, h1, h2, h3, h4, h5, h6⟩ := hk.ex
 obtain ⟨es, ck, ver, h7, h8, hst⟩ := hS.bW i ho
 obtain ⟨h9, h10⟩ := a5i es kvs h8
 have hi := h5 k es (kvs.map (·.1)) (by rw [h9]; simp [gQ])
 have fin : ∀ es' ck', mcs es' = kcs enc f (a4G kvs k v) → Stamps es' ck' → St P H0 (hset H A (.map es' ck' (ver + 1))) (os.set i ⟨.map (some A), 0, kcs enc f (a4G kvs k v)⟩) := by
  intro es' ck' he hst'
  refine hS.put i ho ?_ ?_ ?_ ?_
  ·unfold OwnAt
   rw [if_pos rfl]
   exact .inr ⟨A, es', ck', _, iQ _ (jM h7), he.symm, rfl, hst'⟩
  ·rw [jO]; exact de _
  ·intro B hB hne
   exact qO fun hh => hne (by simp [kG, hh])
  ·exact fun B hB => .inl hB
 rcases b0J kvs k with ⟨j, x, e1, e2, _⟩ | ⟨e1, _⟩
 ·have hj : es[j]?.map (·.key) = some (enc x.1) := by
   rw [← eJ, h9, eJ, e2]; rfl
  have hx : x.1 = k := by
   have := List.findIdx?_eq_some_iff_getElem.1 e1
   obtain ⟨hlt, hd, _⟩ := this
   have hlt' : j < kvs.length := by simpa using hlt
   have : kvs[j] = x := by
    rw [dj hlt'] at e2
    exact cU e2
   simp [this] at hd
   exact hd
  cases he : es[j]? with
  | none => rw [he] at hj; simp at hj
  | some e =>
    rw [he] at hj
    simp only [dK, dB] at hj
    refine ⟨hset H A (.map (es.set j { e with key := enc k, val := f v }) ck (ver + 1)), ?_, h _ (fin _ _ ?_ (hst.set he _ rfl))⟩
    ·have hsb : Instr.sameBits 10000 e.key (enc k) = true := by rw [hj, hx]; exact h6 k
     simp only [a0Q, h1, cV, h7, h4, if_true, hi, e1, he, hsb]
    ·symm
     rw [b1h, e1]
     refine a8E _ _ ?_ ?_
     ·rw [List.map_set, List.map_set, h9]
     ·rw [List.map_set, List.map_set, h10]
 ·refine ⟨hset H A (.map (es ++ [{ key := enc k, val := f v, born := ck }]) (ck + 1) (ver + 1)), ?_, h _ (fin _ _ ?_ (hst.push _ rfl))⟩
  ·simp only [a0Q, h1, cV, h7, h4, if_true, hi, e1]
  ·symm
   rw [b1h, e1]
   refine a8E _ _ ?_ ?_
   ·rw [dQ, dQ, h9]; rfl
   ·rw [dQ, dQ, h10]; rfl
def b8j (P : Program) (H : Heap) (t : TypeId) (m k : Value) (K : Value → Heap → Prop) (_k : Keep K := ⟨⟩) : Prop := ∃ v H1, sL P H t m k = some (v, H1) ∧ K v H1
theorem a9I {t : TypeId} {m m' k k' : Value} {K : Value → Heap → Prop} (h : m = m') (h2 : k = k') : b8j P H t m k K = b8j P H t m' k' K := by rw [h, h2]
attribute [congr] a9I
def b0O (H : Heap) (m b v : Value) (K : Heap → Prop) (_k : Keep K := ⟨⟩) : Prop := ∃ H1, rG H m b v = some H1 ∧ K H1
theorem a5S {m m' b b' v v' : Value} {K : Heap → Prop} (h : m = m') (h2 : b = b') (h3 : v = v') : b0O H m b v K = b0O H m' b' v' K := by rw [h, h2, h3]
attribute [congr] a5S
theorem a4L (d ty pos af g) (t : TypeId) (m k : Operand) (l : List Value) (K : Value → Heap → Prop) :
 lW P ⟨d, .mapEntry t m k, ty, pos, af, g⟩ l H K = jK m l fun m => jK k l fun k => b8j P H t m k K := by
 have h2 : kB (sL P H t (ev l m) (ev l k)) K = ∃ v H1, sL P H t (ev l m) (ev l k) = some (v, H1) ∧ K v H1 := mK ..
 simp only [lW, opD, jK, Op.operands, b8j, h2]
 simp [and_assoc]
theorem a2e (d ty pos af g) (t : TypeId) (m b v : Operand) (l : List Value) (K : Value → Heap → Prop) :
 lW P ⟨d, .entryStore t m b v, ty, pos, af, g⟩ l H K = jK m l fun m => jK b l fun b => jK v l fun v => b0O H m b v fun H1 => K undef H1 := by
 have h2 : kB ((rG H (ev l m) (ev l b) (ev l v)).map fun H => (undef, H)) K = ∃ H1, rG H (ev l m) (ev l b) (ev l v) = some H1 ∧ K undef H1 := by
  cases rG H (ev l m) (ev l b) (ev l v) <;> simp [kB]
 simp only [lW, opD, jK, Op.operands, b0O, h2]
 simp [and_assoc]
theorem a1U (kvs : List (κ × β)) (k k' : κ) (v : β) : a2D (a4G kvs k v) k' = if k' = k then some v else a2D kvs k' := by
 unfold a2D a4G
 induction kvs with
 | nil =>
   by_cases h : k' = k
   ·simp [h]
   ·simp [h, eZ h]
 | cons p kvs ih =>
   by_cases hp : p.1 = k
   ·simp only [eW, hp, decide_true, if_true, fm, List.find?_cons]
    by_cases h : k' = k
    ·simp [h]
    ·simp [h, eZ h]
   ·have hd : decide (p.1 = k) = false := by simp [hp]
    simp only [eW, hd, dR, if_false]
    by_cases hq : p.1 = k'
    ·have hne : ¬ k' = k := fun e => hp (hq.trans e)
     cases hh : kvs.findIdx? (fun p => decide (p.1 = k)) with
     | none => simp [hq, hne]
     | some j => simp [hq, hne]
    ·cases hh : kvs.findIdx? (fun p => decide (p.1 = k)) with
     | none =>
       rw [hh] at ih
       simpa [hq, List.find?_cons] using ih
     | some j =>
       rw [hh] at ih
       simpa [hq, List.find?_cons] using ih
end
end Go.Ds
namespace Go.Ds
noncomputable section
variable {P : Program} {H : Heap}
theorem kN {α : Type} (P : Program) (x : α) : iK P (pure x) = some x := rfl
theorem jV {t : TypeId} {d : TypeDesc} (h : P.underlying t = some d) : iK P (underlying t) = some d := by
 unfold underlying
 rw [iI]
 have : iK P program = some P := rfl
 rw [this, cV, h]
 rfl
def lC : Operand → Bool
 | .const _ => true
 | _ => false
def oM (c : Bool) (i : Nat) (v : Value) : Operand := if c then .const v else .tmp i
def kT (P : Program) (op : BinOp) (t t2 : TypeId) (cx cy : Bool) (x y : Value) : Option Value := (opD P ⟨none, .binOp op t (oM cx 0 x) (oM cy 1 y) t2, t, "", #[], none⟩ [x, y] .nil).map (·.1)
def kY (P : Program) (op : BinOp) (t t2 : TypeId) (cx cy : Bool) (x y : Value) (K : Value → Prop) (_k : Keep K := ⟨⟩) : Prop := match x, y with
 | .int k a, .int k' b => (match (if k = k' then mG op k a b else none) with | some v => K v | none => jW (kT P op t t2 cx cy (.int k a) (.int k' b)) K)
 | x, y => jW (kT P op t t2 cx cy x y) K
theorem a6E {op : BinOp} {t t2 : TypeId} {cx cy : Bool} {x x' y y' : Value} {K : Value → Prop} (h : x = x') (h2 : y = y') : kY P op t t2 cx cy x y K = kY P op t t2 cx cy x' y' K := by rw [h, h2]
attribute [congr] a6E
theorem a9y (x : Operand) (l m : List Value) : ev (ev l x :: m) (oM (lC x) 0 (ev l x)) = ev l x := by cases x <;> rfl
theorem a9Q (x : Operand) (l m : List Value) (a : Value) : ev (a :: ev l x :: m) (oM (lC x) 1 (ev l x)) = ev l x := by cases x <;> rfl
theorem b4h (op : BinOp) (t : TypeId) (x y : Operand) (l : List Value) : eqGuard op t x y (ev l x) (ev l y) = eqGuard op t (oM (lC x) 0 (ev l x)) (oM (lC y) 1 (ev l y)) (ev l x) (ev l y) := by
 generalize hx : ev l x = vx
 generalize hy : ev l y = vy
 cases x <;> cases y <;> rfl
theorem b8S (d ty pos af g) (op : BinOp) (t : TypeId) (x y : Operand) (t2 : TypeId) (l : List Value) (H : Heap) :
 opD P ⟨d, .binOp op t x y t2, ty, pos, af, g⟩ l H = (kT P op t t2 (lC x) (lC y) (ev l x) (ev l y)).map fun v => (v, H) := by
 have hp : kO P ⟨d, .binOp op t x y t2, ty, pos, af, g⟩ l H = _ := mS (P := P) ⟨d, .binOp op t x y t2, ty, pos, af, g⟩ ⟨none, .binOp op t (oM (lC x) 0 (ev l x)) (oM (lC y) 1 (ev l y)) t2, t, "", #[], none⟩ l [ev l x, ev l y] H
  (by simp only [Op.operands, eo, gb, a9y, a9Q]) (by
    simp only [execOp]
    rw [a9y, a9Q, ← b4h])
 simp only [opD, kT, hp, a9y, a9Q]
 generalize kO P _ _ _ = r
 generalize ev l x = vx
 generalize ev l y = vy
 split
 all_goals first
  | (split <;> first | rfl | (split <;> first | rfl | (cases r <;> rfl)) | (cases r <;> rfl))
  | (cases r <;> rfl)
theorem b5v (d ty pos af g) (op : BinOp) (t : TypeId) (x y : Operand) (t2 : TypeId) (l : List Value) (K : Value → Heap → Prop) :
 lW P ⟨d, .binOp op t x y t2, ty, pos, af, g⟩ l H K = jK x l fun x' => jK y l fun y' => kY P op t t2 (lC x) (lC y) x' y' fun v => K v H := by
 have h : kB (opD P ⟨d, .binOp op t x y t2, ty, pos, af, g⟩ l H) K = kY P op t t2 (lC x) (lC y) (ev l x) (ev l y) fun v => K v H := by
  have key : kB ((kT P op t t2 (lC x) (lC y) (ev l x) (ev l y)).map fun v => (v, H)) K = jW (kT P op t t2 (lC x) (lC y) (ev l x) (ev l y)) fun v => K v H := by
   cases kT P op t t2 (lC x) (lC y) (ev l x) (ev l y) <;> rfl
  rw [b8S, key]
  unfold kY
  split
  ·rename_i k a k' b hx hy
   split
   ·rename_i v hv
    split at hv
    ·rename_i hk
     subst hk
     have : kT P op t t2 (lC x) (lC y) (.int k a) (.int k b) = some v := by
      have h1 : ∀ m, ev ((.int k a : Value) :: m) (oM (lC x) 0 (.int k a)) = .int k a := fun m => by cases lC x <;> rfl
      have h2 : ∀ m c, ev (c :: (.int k b : Value) :: m) (oM (lC y) 1 (.int k b)) = .int k b := fun m c => by cases lC y <;> rfl
      cases op <;> simp only [mG] at hv <;> first | (cases hv; done) | (simp only [kT, opD, h1, h2, mG, if_true, hv]; rfl)
     rw [hx, hy, this]
     rfl
    ·cases hv
   ·rw [hx, hy]
  ·rfl
 simp only [lW, h, jK, Op.operands]
 simp [and_assoc]
theorem lS (op : BinOp) (t t2 : TypeId) (cx cy : Bool) (k : IntKind) (a b : Int) {v : Value} (K : Value → Prop) (h : mG op k a b = some v) : kY P op t t2 cx cy (.int k a) (.int k b) K = oL v K := by
 simp [kY, h, oL]
section
theorem b2r (t t2 : TypeId) (cx cy : Bool) (k : IntKind) (a b : Int) (K : Value → Prop) : kY P .add t t2 cx cy (.int k a) (.int k b) K = oL (.int k (k.wrap (a + b))) K := lS _ _ _ _ _ _ _ _ _ (by simp [mG, b0q, tT])
theorem b1Z (t t2 : TypeId) (cx cy : Bool) (k : IntKind) (a b : Int) (K : Value → Prop) : kY P .sub t t2 cx cy (.int k a) (.int k b) K = oL (.int k (k.wrap (a - b))) K := lS _ _ _ _ _ _ _ _ _ (by simp [mG, b0z, tT])
theorem b3t (t t2 : TypeId) (cx cy : Bool) (k : IntKind) (a b : Int) (K : Value → Prop) : kY P .mul t t2 cx cy (.int k a) (.int k b) K = oL (.int k (k.wrap (a * b))) K := lS _ _ _ _ _ _ _ _ _ (by simp [mG, tT])
theorem b2e (t t2 : TypeId) (cx cy : Bool) (k : IntKind) (a b : Int) (K : Value → Prop) : kY P .eql t t2 cx cy (.int k a) (.int k b) K = oL (.bool (decide (a = b))) K := lS _ _ _ _ _ _ _ _ _ (by simp [mG, a1r]; rfl)
theorem b2t (t t2 : TypeId) (cx cy : Bool) (k : IntKind) (a b : Int) (K : Value → Prop) : kY P .neq t t2 cx cy (.int k a) (.int k b) K = oL (.bool (decide (¬ a = b))) K := lS _ _ _ _ _ _ _ _ _ (by simp [mG, a1r]; rfl)
theorem b2p (t t2 : TypeId) (cx cy : Bool) (k : IntKind) (a b : Int) (K : Value → Prop) : kY P .lss t t2 cx cy (.int k a) (.int k b) K = oL (.bool (decide (a < b))) K := lS _ _ _ _ _ _ _ _ _ (by simp [mG, zU])
theorem b3k (t t2 : TypeId) (cx cy : Bool) (k : IntKind) (a b : Int) (K : Value → Prop) : kY P .leq t t2 cx cy (.int k a) (.int k b) K = oL (.bool (decide (a ≤ b))) K := lS _ _ _ _ _ _ _ _ _ (by simp [mG, zU, ← Int.not_lt])
theorem b2k (t t2 : TypeId) (cx cy : Bool) (k : IntKind) (a b : Int) (K : Value → Prop) : kY P .gtr t t2 cx cy (.int k a) (.int k b) K = oL (.bool (decide (b < a))) K := lS _ _ _ _ _ _ _ _ _ (by simp [mG, zU])
theorem b2q (t t2 : TypeId) (cx cy : Bool) (k : IntKind) (a b : Int) (K : Value → Prop) : kY P .geq t t2 cx cy (.int k a) (.int k b) K = oL (.bool (decide (b ≤ a))) K := lS _ _ _ _ _ _ _ _ _ (by simp [mG, zU, ← Int.not_lt])
theorem b1t (t t2 : TypeId) (cx cy : Bool) (k : IntKind) (a b : Int) (K : Value → Prop) (hb : b ≠ 0) : kY P .rem t t2 cx cy (.int k a) (.int k b) K = oL (.int k (a.tmod b)) K := lS _ _ _ _ _ _ _ _ _ (by
 have : (b == 0) = false := by simp [hb]
 simp [mG, a1r, this])
theorem b2T (t t2 : TypeId) (cx cy : Bool) (k : IntKind) (a b : Int) (K : Value → Prop) (hb : b ≠ 0) : kY P .quo t t2 cx cy (.int k a) (.int k b) K = oL (.int k (k.wrap (a.tdiv b))) K := lS _ _ _ _ _ _ _ _ _ (by
 have : (b == 0) = false := by simp [hb]
 simp [mG, a1r, tT, this])
end
theorem lI {op : BinOp} {t t2 : TypeId} {cx cy : Bool} {x y v : Value} (hx : flat x = true) (hy : flat y = true) (hg : iK P (eqGuard op t (oM cx 0 x) (oM cy 1 y) x y) = some ())
 (hv : iK P (binOp op t x y) = some v) (hf : flat v = true) (hs : ∀ a n c, x ≠ .slice (some a) n c) (hp : ∀ a, x ≠ .pointer (some a)) (hi : ∀ k a b, x = .int k a → y = .int k b → mG op k a b = none) : kT P op t t2 cx cy x y = some v := by
 have h1 : ∀ m, ev (x :: m) (oM cx 0 x) = x := fun m => by cases cx <;> rfl
 have h2 : ∀ m c, ev (c :: y :: m) (oM cy 1 y) = y := fun m c => by cases cy <;> rfl
 have hpl : kO P ⟨none, .binOp op t (oM cx 0 x) (oM cy 1 y) t2, t, "", #[], none⟩ [x, y] .nil = some (v, .nil) := by
  unfold kO
  rw [if_pos (by simp [Op.operands, h1, h2, hx, hy])]
  have : execOp (ev [x, y]) ⟨none, .binOp op t (oM cx 0 x) (oM cy 1 y) t2, t, "", #[], none⟩ = (do let v ← (do eqGuard op t (oM cx 0 x) (oM cy 1 y) x y; binOp op t x y); pure (.value v)) := by
   simp only [execOp, h1, h2]
  rw [this, iI, iI, hg, cV, hv, cV, kN]
  simp only [hf, if_true]
 simp only [kT, opD, h1, h2, hpl]
 split
 ·exact absurd rfl (hs _ _ _)
 ·exact absurd rfl (hs _ _ _)
 ·rename_i k a k' b
  split
  ·rename_i hk
   subst hk
   rw [hi _ _ _ rfl rfl]
   rfl
  ·rfl
 ·exact absurd rfl (hp _)
 ·exact absurd rfl (hp _)
 ·exact absurd rfl (hp _)
 ·exact absurd rfl (hp _)
 ·rfl
theorem pZ {op : BinOp} {t : TypeId} {x y : Operand} {k k' : IntKind} {a b : Int} : iK P (eqGuard op t x y (.int k a) (.int k' b)) = some () := by
 unfold eqGuard
 split <;> rfl
section
theorem b6E (t t2 : TypeId) (cx cy : Bool) (a b : Int) {k k' : IntKind} (hb : 0 ≤ b) : kT P .shr t t2 cx cy (.int k a) (.int k' b) = some (.int k (a.fdiv (2 ^ (min b.toNat k.bits)))) :=
 lI rfl rfl pZ (by simp only [binOp, Op.shift]; rw [if_neg (by omega)]; rfl) rfl (by simp) (by simp) (by intros; rfl)
theorem b4J (t t2 : TypeId) (cx cy : Bool) (a b : Int) {k k' : IntKind} (hb : 0 ≤ b) : kT P .shl t t2 cx cy (.int k a) (.int k' b) = some (.int k (k.wrap (a * 2 ^ (min b.toNat k.bits)))) :=
 lI rfl rfl pZ (by simp only [binOp, Op.shift]; rw [if_neg (by omega)]; rfl) rfl (by simp) (by simp) (by intros; rfl)
theorem b4Y (t t2 : TypeId) (cx cy : Bool) (a b : Int) (k : IntKind) : kT P .and t t2 cx cy (.int k a) (.int k b) = some (.int k (k.wrap (BitVec.ofInt k.bits a &&& BitVec.ofInt k.bits b).toNat)) :=
 lI rfl rfl pZ (by simp only [binOp]; rw [if_neg (by simp)]; rfl) rfl (by simp) (by simp) (by intros; rfl)
theorem b9i (t t2 : TypeId) (cx cy : Bool) (a b : Int) (k : IntKind) : kT P .or t t2 cx cy (.int k a) (.int k b) = some (.int k (k.wrap (BitVec.ofInt k.bits a ||| BitVec.ofInt k.bits b).toNat)) :=
 lI rfl rfl pZ (by simp only [binOp]; rw [if_neg (by simp)]; rfl) rfl (by simp) (by simp) (by intros; rfl)
theorem b6x (t t2 : TypeId) (cx cy : Bool) (a b : Int) (k : IntKind) : kT P .xor t t2 cx cy (.int k a) (.int k b) = some (.int k (k.wrap (BitVec.ofInt k.bits a ^^^ BitVec.ofInt k.bits b).toNat)) :=
 lI rfl rfl pZ (by simp only [binOp]; rw [if_neg (by simp)]; rfl) rfl (by simp) (by simp) (by intros; rfl)
theorem a6Q (t t2 : TypeId) (cx cy : Bool) (a b : Int) (k : IntKind) : kT P .andNot t t2 cx cy (.int k a) (.int k b) = some (.int k (k.wrap (BitVec.ofInt k.bits a &&& ~~~ BitVec.ofInt k.bits b).toNat)) :=
 lI rfl rfl pZ (by simp only [binOp]; rw [if_neg (by simp)]; rfl) rfl (by simp) (by simp) (by intros; rfl)
end
section
variable (a b : ByteArray)
theorem zV {op : BinOp} {t : TypeId} {x y : Operand} : iK P (eqGuard op t x y (.string a) (.string b)) = some () := by
 unfold eqGuard
 split <;> rfl
theorem a0F (h : a.data.toList = b.data.toList) : a = b := by
 cases a; cases b
 simp only [ByteArray.mk.injEq]
 exact Array.toList_inj.1 h
theorem a2u : (a.toList == b.toList) = decide (a = b) := by
 rw [ByteArray.toList_eq, ByteArray.toList_eq, dV, beq_iff_eq, decide_eq_true_iff]
 exact ⟨a0F a b, fun h => by rw [h]⟩
theorem a9t (t t2 : TypeId) (cx cy : Bool) (a b : ByteArray) : kT P .eql t t2 cx cy (.string a) (.string b) = some (.bool (decide (a = b))) :=
 lI rfl rfl (zV a b) (by rw [← a2u]; rfl) rfl (by simp) (by simp) (by intro _ _ _ h; cases h)
theorem a8G (t t2 : TypeId) (cx cy : Bool) (a b : ByteArray) : kT P .neq t t2 cx cy (.string a) (.string b) = some (.bool (decide (¬ a = b))) :=
 lI rfl rfl (zV a b) (by
  have : decide (¬ a = b) = !(a.toList == b.toList) := by rw [a2u]; simp
  rw [this]; rfl) rfl (by simp) (by simp) (by intro _ _ _ h; cases h)
theorem a7t (t t2 : TypeId) (cx cy : Bool) (a b : ByteArray) (h : a.size + b.size < 9223372036854775808) : kT P .add t t2 cx cy (.string a) (.string b) = some (.string (a ++ b)) :=
 lI rfl rfl (zV a b) (by
  simp only [binOp, Op.stringOp]
  rw [if_neg]
  ·rfl
  ·have : IntKind.i64.max = 9223372036854775807 := by decide
   rw [this]; omega) rfl (by simp) (by simp) (by intro _ _ _ h; cases h)
end
theorem b6p {t : TypeId} (s : ByteArray) (ht : oI P t = true) : a0k P H t (.string s) = some (.int .i64 s.size) := by
 unfold oI at ht
 unfold a0k
 split at ht
 ·rename_i h; rw [h]; simp [wT, goInt]
 ·cases ht
def oW (P : Program) (t : TypeId) (x i : Value) : Option Value := (opD P ⟨none, .index t (.const x) (.const i), t, "", #[], none⟩ [] .nil).map (·.1)
theorem b1u (d ty pos af g) (t : TypeId) (x i : Operand) (l : List Value) (K : Value → Heap → Prop) :
 lW P ⟨d, .index t x i, ty, pos, af, g⟩ l H K = jK x l fun x => jK i l fun i => jW (oW P t x i) fun v => K v H := by
 have h : opD P ⟨d, .index t x i, ty, pos, af, g⟩ l H = (oW P t (ev l x) (ev l i)).map fun v => (v, H) := by
  have hp := mS (P := P) ⟨d, .index t x i, ty, pos, af, g⟩ ⟨none, .index t (.const (ev l x)) (.const (ev l i)), t, "", #[], none⟩ l [] H rfl rfl
  simp only [opD, oW]
  exact hp
 have h2 : kB ((oW P t (ev l x) (ev l i)).map fun v => (v, H)) K = jW (oW P t (ev l x) (ev l i)) fun v => K v H := by cases oW P t (ev l x) (ev l i) <;> rfl
 simp only [lW, h, jK, Op.operands, h2]
 simp [and_assoc]
def nV (s : ByteArray) (i : Nat) : Nat := (s.data.toList.getD i 0).toNat
theorem a9x {t : TypeId} (s : ByteArray) (k : IntKind) (i : Int) (ht : oI P t = true) (h0 : 0 ≤ i) (h1 : i < s.size) : oW P t (.string s) (.int k i) = some (.int .u8 (nV s i.toNat)) := by
 have hu : P.underlying t = some .string := by
  unfold oI at ht
  split at ht
  ·rename_i h; exact h
  ·cases ht
 have hr : iK P (Instr.index t (.string s) (.int k i)) = some (.int .u8 (nV s i.toNat)) := by
  unfold Instr.index
  rw [iI]
  have e1 : iK P (asIntOf (.int k i)) = some (k, i) := rfl
  rw [e1, cV]
  simp only [iI, jV hu, cV]
  rw [if_pos h0]
  have hlt : i.toNat < s.size := by omega
  have hb : s[i.toNat]? = some s[i.toNat] := by simp [getElem?_pos, hlt]
  simp only [hb]
  rw [kN]
  congr 3
  unfold nV
  rw [cZ]
  have hl : i.toNat < s.data.toList.length := by simpa using hlt
  rw [dj hl]
  rfl
 have hpl : kO P ⟨none, .index t (.const (.string s)) (.const (.int k i)), t, "", #[], none⟩ [] .nil = some (.int .u8 (nV s i.toNat), .nil) := by
  unfold kO
  rw [if_pos (by rfl)]
  have : execOp (ev []) ⟨none, .index t (.const (.string s)) (.const (.int k i)), t, "", #[], none⟩ = (do let v ← Instr.index t (.string s) (.int k i); pure (.value v)) := rfl
  rw [this, iI, hr, cV, kN]
  rfl
 simp only [oW, opD, hpl]
 rfl
def zW (P : Program) (t : TypeId) : Option IntKind := match P.underlying t with | some (.int k) => some k | _ => none
theorem zQ {t : TypeId} {k : IntKind} (h : zW P t = some k) : P.underlying t = some (.int k) := by
 unfold zW at h
 split at h
 ·rename_i h2; rw [h2]; injection h with h; rw [h]
 ·cases h
theorem b1A {s t : TypeId} {k k' : IntKind} (a : Int) (hs : zW P s = some k) (ht : zW P t = some k') : a2C P s t (.int k a) = some (.int k' (k'.wrap a)) := by
 have hr : iK P (convert s t (.int k a)) = some (.int k' (k'.wrap a)) := by
  unfold convert
  simp only [iI, jV (zQ hs), jV (zQ ht), cV]
  rfl
 have hpl : kO P ⟨none, .convert s t (.const (.int k a)), t, "", #[], none⟩ [] .nil = some (.int k' (k'.wrap a), .nil) := by
  unfold kO
  rw [if_pos (by rfl)]
  have : execOp (ev []) ⟨none, .convert s t (.const (.int k a)), t, "", #[], none⟩ = (do let v ← convert s t (.int k a); pure (.value v)) := rfl
  rw [this, iI, hr, cV, kN]
  rfl
 simp only [a2C, hpl]
 rfl
def a5r (P : Program) (d : Nat) (xs ys : Array Value) (fs : List Field) : Option Bool :=
 (iK P (forIn fs ((none, ()) : Option Bool × Unit) fun f _ =>
   if f.name ≠ "_" then do
    let a ← part f.type xs f.offset
    let b ← part f.type ys f.offset
    let c ← Op.equalIn d f.type a b
    if (!c) = true then pure (ForInStep.done (some false, ())) else pure (ForInStep.yield (none, ()))
   else pure (ForInStep.yield (none, ())))).bind fun x => iK P (match x.fst with | some r => pure r | none => pure true)
theorem a2d {d : Nat} {xs ys : Array Value} (g : Field → Bool) : ∀ (fs : List Field), (∀ f ∈ fs, f.name ≠ "_" ∧ iK P (part f.type xs f.offset >>= fun x => part f.type ys f.offset >>= fun y => Op.equalIn d f.type x y) = some (g f)) →
 a5r P d xs ys fs = some (fs.all g)
 | [], _ => rfl
 | f :: fs, hg => by
   obtain ⟨h1, h2⟩ := hg f (dE ..)
   have ih := a2d g fs fun f' h => hg f' (dM _ h)
   unfold a5r at ih ⊢
   rw [iI] at h2
   simp only [List.forIn_cons, h1, ne_eq, not_false_eq_true, if_true, iI]
   cases hx : iK P (part f.type xs f.offset) with
   | none => rw [hx] at h2; cases h2
   | some x =>
     rw [hx, cV, iI] at h2
     cases hy : iK P (part f.type ys f.offset) with
     | none => rw [hy] at h2; cases h2
     | some y =>
       rw [hy, cV] at h2
       simp only [cV, h2]
       cases hgf : g f with
       | false =>
         simp only [Bool.not_false, if_true, kN, cV, fq, hgf, fx]
       | true =>
         simp only [Bool.not_true, dR, if_false, kN, cV, fq, hgf, gI]
         exact ih
theorem a5O {d : Nat} {t : TypeId} {fs : List Field} {xs ys : Array Value} (hu : P.underlying t = some (.struct fs.toArray)) (hst : P.stoodInHeld t = false) (g : Field → Bool)
 (hg : ∀ f ∈ fs, f.name ≠ "_" ∧ iK P (part f.type xs f.offset >>= fun x => part f.type ys f.offset >>= fun y => Op.equalIn d f.type x y) = some (g f)) : iK P (Op.equalIn (d + 1) t (.agg xs) (.agg ys)) = some (fs.all g) := by
 rw [Op.equalIn, iI, jV hu, cV]
 have hp : iK P program = some P := rfl
 simp only [iI, hp, cV, hst, dR, if_false, List.forIn_toArray]
 refine Eq.trans ?_ (a2d g fs hg)
 unfold a5r
 congr 1
 funext x
 cases x.fst <;> rfl
theorem a3q {op : BinOp} {t : TypeId} (ht : P.eqGuardType P.depth t = false) {x y : Operand} {a b : Array Value} : iK P (eqGuard op t x y (.agg a) (.agg b)) = some () := by
 have hp : iK P program = some P := rfl
 unfold eqGuard
 cases op <;> simp [iI, hp, ht, kN]
theorem b5i {t t2 : TypeId} {cx cy : Bool} {xs ys : List Value} (b : Bool) (ht : P.eqGuardType P.depth t = false) (hx : xs.all iX = true) (hy : ys.all iX = true) (h : iK P (Op.equalIn (9999 + 1) t (.agg xs.toArray) (.agg ys.toArray)) = some b) :
 kT P .eql t t2 cx cy (.agg xs.toArray) (.agg ys.toArray) = some (.bool b) :=
 lI (by simp [flat, jA, kI, hx]) (by simp [flat, jA, kI, hy]) (a3q ht) (by
  have hmd : Op.maxDepth = 9999 + 1 := by decide
  simp only [binOp, iI, Op.equal]
  rw [hmd, h, cV, kN]) rfl (by simp) (by simp) (by intro _ _ _ h; cases h)
theorem a6d {t t2 : TypeId} {cx cy : Bool} {xs ys : List Value} (b : Bool) (ht : P.eqGuardType P.depth t = false) (hx : xs.all iX = true) (hy : ys.all iX = true) (h : iK P (Op.equalIn (9999 + 1) t (.agg xs.toArray) (.agg ys.toArray)) = some b) :
 kT P .neq t t2 cx cy (.agg xs.toArray) (.agg ys.toArray) = some (.bool (!b)) :=
 lI (by simp [flat, jA, kI, hx]) (by simp [flat, jA, kI, hy]) (a3q ht) (by
  have hmd : Op.maxDepth = 9999 + 1 := by decide
  simp only [binOp, iI, Op.equal]
  rw [hmd, h, cV, kN]) rfl (by simp) (by simp) (by intro _ _ _ h; cases h)
end
end Go.Ds
namespace Go.Ds
noncomputable section
variable {P : Program} {H : Heap}
theorem a2v (a b : ByteArray) : (a == b) = decide (b = a) := by
 obtain ⟨x⟩ := a
 obtain ⟨y⟩ := b
 rw [dV, decide_eq_true_iff]
 constructor
 ·intro h
  have e : x = y := by simpa using (show (x == y) = true from h)
  rw [e]
 ·intro h
  cases h
  show (x == x) = true
  simp
theorem a3Z (o : Option Nat) (i : Nat) : o.map (i + 1 + ·) = (o.map (· + 1)).map (i + ·) := by
 cases o with
 | none => rfl
 | some j => simp only [dK]; congr 1; omega
theorem a0H (k : ByteArray) : ∀ (es : List MapEntry) (ks : List ByteArray) (i : Nat), es.map (·.key) = ks.map Value.string →
 (Instr.findNow .string (.string k) (es.map wM) i).map (·.map (·.1)) = some ((ks.findIdx? fun x => decide (x = k)).map (i + ·))
 | [], [], i, _ => rfl
 | [], _ :: _, _, h => by simp at h
 | _ :: _, [], _, h => by simp at h
 | e :: es, s :: ks, i, h => by
   simp only [eo, fO] at h
   have hs : Instr.sameNow .string (.string k) e.key = some (decide (s = k)) := by
    rw [h.1]
    show some (k == s) = _
    rw [a2v]
   simp only [eo, Instr.findNow, wM, hs, eW]
   by_cases hd : s = k
   ·simp [hd]
   ·simp only [hd, decide_false, dR, if_false]
    have := a0H k es ks (i + 1) h.2
    rw [a3Z] at this
    exact this
theorem b0V {κ : Type} [DecidableEq κ] {enc : κ → Value} {kt : TypeId} (heq : ∀ a b, iK P (Op.equal kt (enc a) (enc b)) = some (decide (b = a))) (k : κ) : ∀ (es : List MapEntry) (ks : List κ) (i : Nat), es.map (·.key) = ks.map enc →
 (iK P (Instr.findAsking kt (enc k) (es.map wM) i)).map (·.map (·.1)) = some ((ks.findIdx? fun x => decide (x = k)).map (i + ·))
 | [], [], i, _ => rfl
 | [], _ :: _, _, h => by simp at h
 | _ :: _, [], _, h => by simp at h
 | e :: es, s :: ks, i, h => by
   simp only [eo, fO] at h
   simp only [eo, Instr.findAsking, wM, iI, eW]
   rw [h.1, heq, cV]
   by_cases hd : s = k
   ·simp [hd, kN]
   ·simp only [hd, decide_false, dR, if_false]
    have := b0V heq k es ks (i + 1) h.2
    rw [a3Z] at this
    exact this
theorem MapK.str {t kt et : TypeId} {z : Value} (hm : yD P t = some (kt, et)) (hu : P.underlying kt = some .string) (hz : iZ P et = some z) (hf : jA z = true) : MapK P t Value.string z where
 ex := by
  refine ⟨kt, et, hm, hz, hf, ?_, ?_, ?_⟩
  ·intro b k
   have : iK P (Instr.checkKey b 10000 kt (.string k)) = some () := by
    show iK P (Instr.checkKey b (9999 + 1) kt (.string k)) = some ()
    unfold Instr.checkKey
    rw [iI, jV hu, cV]
    rfl
   simp only [xJ, this]
   rfl
  ·intro k es ks h
   have h1 := a0H k es ks 0 h
   unfold rE Instr.findKey
   rw [iI, jV hu, cV]
   cases hn : Instr.findNow .string (.string k) (es.map wM) 0 with
   | none => rw [hn] at h1; cases h1
   | some r =>
     rw [hn] at h1
     simp only [kN]
     simpa using h1
  ·intro k
   show (k == k) = true
   rw [a2v]
   simp
theorem MapK.struct {κ : Type} [DecidableEq κ] {enc : κ → Value} {t kt et : TypeId} {z : Value} {fs : Array Field} (hm : yD P t = some (kt, et)) (hu : P.underlying kt = some (.struct fs)) (hz : iZ P et = some z) (hf : jA z = true)
 (hk : ∀ b k, xJ P b kt (enc k) = true) (heq : ∀ a b, iK P (Op.equal kt (enc a) (enc b)) = some (decide (b = a))) (hsb : ∀ k, Instr.sameBits 10000 (enc k) (enc k) = true) : MapK P t enc z where
 ex := by
  refine ⟨kt, et, hm, hz, hf, hk, ?_, hsb⟩
  intro k es ks h
  have h1 := b0V heq k es ks 0 h
  unfold rE Instr.findKey
  rw [iI, jV hu, cV]
  have key : ∀ (l : List MapEntry), Instr.findNow (.struct fs) (enc k) l 0 = none ∨ l = [] := by
   intro l
   cases l with
   | nil => exact .inr rfl
   | cons e l => exact .inl rfl
  rcases key (es.map wM) with hn | hn
  ·rw [hn]
   simpa using h1
  ·rw [hn]
   have : es = [] := by simpa using hn
   subst this
   have : ks = [] := by cases ks with | nil => rfl | cons a ks => simp at h
   subst this
   rfl
end
end Go.Ds
namespace Go.Ds
noncomputable section
variable {P : Program} {H : Heap}
def a2q (o : Option (Nat × TypeId)) (P : Program) (H : Heap) (t : TypeId) (z : Value) (K : Value → Heap → Prop) (_k : Keep K := ⟨⟩) : Prop := match o with
 | none => uS (jA z) (a4y P H t z K)
 | some _ => uS (jA z) (a8t P H t z K)
theorem a5u {o o' : Option (Nat × TypeId)} {t : TypeId} {z : Value} {K : Value → Heap → Prop} (h : o = o') : a2q o P H t z K = a2q o' P H t z K := by rw [h]
attribute [congr] a5u
theorem b4r {t : TypeId} (z : Value) (K : Value → Heap → Prop) : uT P H t (some z) K = a2q (jR P t) P H t z K := by
 cases h : jR P t with
 | none => exact a7E z K h
 | some n => exact a8c z K h
theorem a6K {t : TypeId} (z : Value) (K : Value → Heap → Prop) : a2q none P H t z K = uS (jA z) (a4y P H t z K) := rfl
theorem a6Y {t : TypeId} (n : Nat × TypeId) (z : Value) (K : Value → Heap → Prop) : a2q (some n) P H t z K = uS (jA z) (a8t P H t z K) := rfl
theorem a6s {t : TypeId} {k : IntKind} (h : zW P t = some k) : lA P t = false := by
 simp [lA, zQ h]
def a3k (ks kt : Option IntKind) (P : Program) (s t : TypeId) (H : Heap) (k : IntKind) (a : Int) (K : Value → Heap → Prop) (_k : Keep K := ⟨⟩) : Prop := match ks, kt with
 | some k0, some k' => if k0 = k then K (.int k' (k'.wrap a)) H else tP P s t H (.int k a) K
 | _, _ => tP P s t H (.int k a) K
theorem a6q {ks ks' kt kt' : Option IntKind} {s t : TypeId} {k : IntKind} {a : Int} {K : Value → Heap → Prop} (h : ks = ks') (h2 : kt = kt') : a3k ks kt P s t H k a K = a3k ks' kt' P s t H k a K := by rw [h, h2]
attribute [congr] a6q
theorem b7z {s t : TypeId} (k : IntKind) (a : Int) (K : Value → Heap → Prop) : tP P s t H (.int k a) K = a3k (zW P s) (zW P t) P s t H k a K := by
 unfold a3k
 split
 ·rename_i k0 k' hs ht
  split
  ·rename_i hk
   subst hk
   rw [b2S k0 a K (a6s ht), b1A a hs ht]
   rfl
  ·rfl
 ·rfl
theorem b1X {s t : TypeId} (k k' : IntKind) (a : Int) (K : Value → Heap → Prop) : a3k (some k) (some k') P s t H k a K = oL (.int k' (k'.wrap a)) fun v => K v H := by simp [a3k, oL]
def c0A (b : Bool) (P : Program) (H : Heap) (t : TypeId) (v : Value) : Option Value := match b with
 | true => (match v with | .string s => some (.int .i64 s.size) | _ => a0k P H t v)
 | false => a0k P H t v
theorem c1L (t : TypeId) (v : Value) : a9M none P H t v = c0A (oI P t) P H t v := by
 unfold c0A
 split
 ·rename_i h
  split
  ·exact b6p _ h
  ·rfl
 ·rfl
theorem b4M (t : TypeId) (s : ByteArray) : c0A true P H t (.string s) = some (.int .i64 s.size) := rfl
def a2G (b : Bool) (P : Program) (t : TypeId) (x i : Value) : Option Value := match b, x, i with
 | true, .string s, .int k i => if 0 ≤ i ∧ i < s.size then some (.int .u8 (nV s i.toNat)) else oW P t (.string s) (.int k i)
 | _, x, i => oW P t x i
theorem a6W (t : TypeId) (x i : Value) : oW P t x i = a2G (oI P t) P t x i := by
 unfold a2G
 split
 ·rename_i h
  split
  ·rename_i h2; exact a9x _ _ _ h h2.1 h2.2
  ·rfl
 ·rfl
theorem b0j (t : TypeId) (s : ByteArray) (k : IntKind) (i : Int) (h0 : 0 ≤ i) (h1 : i < s.size) : a2G true P t (.string s) (.int k i) = some (.int .u8 (nV s i.toNat)) := by
 simp [a2G, h0, h1]
theorem OC : (∀ k n, oneCell (.int k n) = true) ∧ (∀ b, oneCell (.bool b) = true) ∧ (∀ s, oneCell (.string s) = true) ∧ (∀ a, oneCell (.pointer a) = true) ∧ (∀ a n c, oneCell (.slice a n c) = true) ∧ (∀ r, oneCell (.map r) = true) ∧ (∀ f a b, oneCell (.func f a b) = true) ∧ oneCell .nilFunc = true :=
 ⟨fun _ _ => rfl, fun _ => rfl, fun _ => rfl, fun _ => rfl, fun _ _ _ => rfl, fun _ => rfl, fun _ _ _ => rfl, rfl⟩
theorem c4j (o : Option Bool) : (o.map Value.bool).getD (.bool false) = .bool (o.getD false) := by cases o <;> rfl
theorem c3e (k : IntKind) (o : Option Int) : (o.map (Value.int k)).getD (.int k 0) = .int k (o.getD 0) := by cases o <;> rfl
theorem b8B (v : Value) (b : Bool) : pairV false v b = v := rfl
theorem b9w (v : Value) (b : Bool) : pairV true v b = .tuple #[v, .bool b] := rfl
theorem b4F (t : Tmp) : lC (.tmp t) = false := rfl
theorem a8Y (v : Value) : lC (.const v) = true := rfl
theorem b3T (s : ByteArray) : flat (.string s) = true := rfl
theorem b1K (s : ByteArray) : jA (.string s) = true := rfl
theorem a8I (s : ByteArray) : iX (.string s) = true := rfl
theorem a7P (s : ByteArray) : jU (.string s) = true := rfl
theorem b3R (k : IntKind) (n : Int) : pC (.int k n) = true := rfl
theorem b2d (b : Bool) : pC (.bool b) = true := rfl
theorem b4U (s : ByteArray) : pC (.string s) = true := rfl
theorem qC {c b : Bool} {p q : Prop} (h1 : c = true → rL (.bool true) b p q) (h2 : c = false → rL (.bool false) b p q) : rL (.bool c) b p q := by
 cases c
 ·exact h2 rfl
 ·exact h1 rfl
theorem St.pick {H0 : Base} {os os' : List Ob} (hS : St P H0 H os) (idx : List Nat) (hn : idx.Nodup) (h : idx.map (os[·]?) = os'.map some) : St P H0 H os' := by
 have hmem : ∀ o ∈ os', o ∈ os := by
  intro o ho
  have : some o ∈ idx.map (os[·]?) := by rw [h]; exact fJ ho
  obtain ⟨i, _, hi⟩ := du.1 this
  exact dL hi
 refine ⟨hS.len, hS.old, fun o ho => hS.own o (hmem o ho), fun o ho => hS.new o (hmem o ho), ?_⟩
 have hpw := eF.1 hS.sep
 rw [eF]
 intro i j hi hj hij
 have hl : idx.length = os'.length := by simpa using congrArg List.length h
 have key : ∀ i (hi : i < os'.length), ∃ hk : idx[i]'(by omega) < os.length, os[idx[i]'(by omega)] = os'[i] := by
  intro i hi
  have h1 : (idx.map (os[·]?))[i]? = (os'.map some)[i]? := by rw [h]
  rw [eJ, eJ, dj (by omega), dj hi] at h1
  simp only [dK, dB] at h1
  exact dq.1 h1
 obtain ⟨h1, e1⟩ := key i hi
 obtain ⟨h2, e2⟩ := key j hj
 have hne : idx[i]'(by omega) ≠ idx[j]'(by omega) := by
  have := eF.1 hn i j (by omega) (by omega) hij
  exact this
 rcases fL hne with hh | hh
 ·have := hpw _ _ h1 h2 hh
  rw [e1, e2] at this
  exact this
 ·have := hpw _ _ h2 h1 hh
  rw [e1, e2] at this
  intro B hb hb'
  exact this B hb' hb
theorem St.frame {H1 : Heap} {H0 : Base} {ls rest ls' : List Ob} (hS : St P H0 H (ls ++ rest)) (h1 : St P ⟨H, rF ls⟩ H1 ls') : St P H0 H1 (ls' ++ rest) := by
 have hls : St P H0 H ls := hS.sub (List.sublist_append_left ..)
 have h2 := hls.bA h1
 have hsep := eX.1 hS.sep
 have hkeep : ∀ o ∈ rest, ∀ B, kG o.v = some B → iP H1 B = iP H B := by
  intro o ho B hB
  have hlt := (hS.own o (gm _ ho)).lt hB
  exact h1.old B hlt fun ⟨x, hx, hxb⟩ => hsep.2.2 x hx o ho B hxb hB
 refine ⟨h2.len, h2.old, ?_, ?_, ?_⟩
 ·intro o ho
  rcases dG.1 ho with ho | ho
  ·exact h2.own o ho
  ·exact (hS.own o (gm _ ho)).ag (hkeep o ho)
 ·intro o ho B hB
  rcases dG.1 ho with ho | ho
  ·exact h2.new o ho B hB
  ·exact hS.new o (gm _ ho) B hB
 ·rw [eX]
  refine ⟨h2.sep, hsep.2.1, ?_⟩
  intro x hx y hy B hb hb'
  rcases h1.new x hx B hb with hh | ⟨z, hz, hzb⟩
  ·have := (hS.own y (gm _ hy)).lt hb'
   have hh : H.length ≤ B := hh
   omega
  ·exact hsep.2.2 z hz y hy B hzb hb'
theorem b7q (t : TypeId) (k : IntKind) (n : Int) : unV P .neg t (.int k n) = some (.int k (k.wrap (0 - n))) := rfl
theorem b2n (ops : Array Oper) (d : Option Tmp) (op : Op) (ty : TypeId) (pos : String) (af : Array Edge) (j : Nat) (b : Bool) (l : List Value) (H' : Heap) (v : Value) :
 rdW P ops (some ⟨d, op, ty, pos, af, some (j, b)⟩) (some (l, H', v)) H = uD (yR ops j) l b (lW P ⟨d, op, ty, pos, af, some (j, b)⟩ l H fun v' _ => v' = v) True := by
 rw [← sO ops l d op ty pos af]
 unfold rdW
 split
 ·rename_i h1 h2
  cases h1; cases h2
  split
  ·rename_i h; simp [h]
  ·rename_i h; simp [h]
 ·rename_i h
  exact (h _ _ _ _ rfl rfl).elim
theorem b2h (t t2 : TypeId) (cx cy : Bool) (k : IntKind) (a b : Int) (K : Value → Prop) : kY P .and t t2 cx cy (.int k a) (.int k b) K = jW (kT P .and t t2 cx cy (.int k a) (.int k b)) K := by
 have h : (if k = k then mG .and k a b else none) = none := by split <;> rfl
 unfold kY; dsimp only
 rw [h]
theorem b5X (t t2 : TypeId) (cx cy : Bool) (k : IntKind) (a b : Int) (K : Value → Prop) : kY P .or t t2 cx cy (.int k a) (.int k b) K = jW (kT P .or t t2 cx cy (.int k a) (.int k b)) K := by
 have h : (if k = k then mG .or k a b else none) = none := by split <;> rfl
 unfold kY; dsimp only
 rw [h]
theorem b3a (t t2 : TypeId) (cx cy : Bool) (k : IntKind) (a b : Int) (K : Value → Prop) : kY P .xor t t2 cx cy (.int k a) (.int k b) K = jW (kT P .xor t t2 cx cy (.int k a) (.int k b)) K := by
 have h : (if k = k then mG .xor k a b else none) = none := by split <;> rfl
 unfold kY; dsimp only
 rw [h]
theorem a4M (t t2 : TypeId) (cx cy : Bool) (k : IntKind) (a b : Int) (K : Value → Prop) : kY P .andNot t t2 cx cy (.int k a) (.int k b) K = jW (kT P .andNot t t2 cx cy (.int k a) (.int k b)) K := by
 have h : (if k = k then mG .andNot k a b else none) = none := by split <;> rfl
 unfold kY; dsimp only
 rw [h]
theorem b1T (t t2 : TypeId) (cx cy : Bool) (k k' : IntKind) (a b : Int) (K : Value → Prop) : kY P .shl t t2 cx cy (.int k a) (.int k' b) K = jW (kT P .shl t t2 cx cy (.int k a) (.int k' b)) K := by
 have h : (if k = k' then mG .shl k a b else none) = none := by split <;> rfl
 unfold kY; dsimp only
 rw [h]
theorem b2F (t t2 : TypeId) (cx cy : Bool) (k k' : IntKind) (a b : Int) (K : Value → Prop) : kY P .shr t t2 cx cy (.int k a) (.int k' b) K = jW (kT P .shr t t2 cx cy (.int k a) (.int k' b)) K := by
 have h : (if k = k' then mG .shr k a b else none) = none := by split <;> rfl
 unfold kY; dsimp only
 rw [h]
theorem b2I (op : BinOp) (t t2 : TypeId) (cx cy : Bool) (a b : ByteArray) (K : Value → Prop) : kY P op t t2 cx cy (.string a) (.string b) K = jW (kT P op t t2 cx cy (.string a) (.string b)) K := rfl
theorem b3e (op : BinOp) (t t2 : TypeId) (cx cy : Bool) (a b : Array Value) (K : Value → Prop) : kY P op t t2 cx cy (.agg a) (.agg b) K = jW (kT P op t t2 cx cy (.agg a) (.agg b)) K := rfl
theorem b2a (op : BinOp) (t t2 : TypeId) (cx cy : Bool) (a b : Bool) (K : Value → Prop) : kY P op t t2 cx cy (.bool a) (.bool b) K = jW (kT P op t t2 cx cy (.bool a) (.bool b)) K := rfl
theorem b6t (n : Int) (h1 : -9223372036854775808 ≤ n) (h2 : n < 9223372036854775808) : IntKind.wrap .i64 n = n := by
 show (if (true && decide (n % 18446744073709551616 ≥ 9223372036854775808)) = true then n % 18446744073709551616 - 18446744073709551616 else n % 18446744073709551616) = n
 simp only [gI, decide_eq_true_eq]
 omega
theorem b7H (n : Int) (h1 : -128 ≤ n) (h2 : n < 128) : IntKind.wrap .i8 n = n := by
 show (if (true && decide (n % 256 ≥ 128)) = true then n % 256 - 256 else n % 256) = n
 simp only [gI, decide_eq_true_eq]
 omega
theorem oC (n : Int) (h1 : 0 ≤ n) (h2 : n < 18446744073709551616) : IntKind.wrap .u64 n = n := by
 show (if (false && decide (n % 18446744073709551616 ≥ 9223372036854775808)) = true then n % 18446744073709551616 - 18446744073709551616 else n % 18446744073709551616) = n
 simp only [fx]
 rw [if_neg (by simp)]
 omega
theorem b5b (n : Int) (h1 : 0 ≤ n) (h2 : n < 4294967296) : IntKind.wrap .u32 n = n := by
 show (if (false && decide (n % 4294967296 ≥ 2147483648)) = true then n % 4294967296 - 4294967296 else n % 4294967296) = n
 simp only [fx]
 rw [if_neg (by simp)]
 omega
theorem qL (n : Int) (h1 : 0 ≤ n) (h2 : n < 65536) : IntKind.wrap .u16 n = n := by
 show (if (false && decide (n % 65536 ≥ 32768)) = true then n % 65536 - 65536 else n % 65536) = n
 simp only [fx]
 rw [if_neg (by simp)]
 omega
theorem b8v (n : Int) (h1 : 0 ≤ n) (h2 : n < 256) : IntKind.wrap .u8 n = n := by
 show (if (false && decide (n % 256 ≥ 128)) = true then n % 256 - 256 else n % 256) = n
 simp only [fx]
 rw [if_neg (by simp)]
 omega
end
end Go.Ds
namespace Go.Ds
noncomputable section
variable {P : Program}
def tS (P : Program) (t : TypeId) : List Field := match P.underlying t with | some (.struct fs) => fs.toList | _ => []
def eqC : Value → Value → Bool
 | .int _ a, .int _ b => a == b
 | .bool a, .bool b => a == b
 | .string a, .string b => decide (a = b)
 | _, _ => false
def okC (P : Program) (t : TypeId) (x y : Value) : Bool := match P.underlying t with
 | some (.int _) => (match x, y with | .int k _, .int k' _ => decide (k = k') | _, _ => false)
 | some .bool => (match x, y with | .bool _, .bool _ => true | _, _ => false)
 | some .string => (match x, y with | .string _, .string _ => true | _, _ => false)
 | _ => false
theorem eq1 {t : TypeId} {x y : Value} (d : Nat) (h : okC P t x y = true) : iK P (Op.equalIn (d + 1) t x y) = some (eqC x y) := by
 unfold okC at h
 split at h
 ·rename_i k0 hu
  split at h
  ·rename_i k a k' b
   have hk : k = k' := by simpa using h
   subst hk
   rw [Op.equalIn, iI, jV hu, cV]
   simp only [if_true]
   rfl
  ·cases h
 ·rename_i hu
  split at h
  ·rw [Op.equalIn, iI, jV hu, cV]; rfl
  ·cases h
 ·rename_i hu
  split at h
  ·rename_i a b
   rw [Op.equalIn, iI, jV hu, cV]
   show some (a == b) = some (decide (a = b))
   rw [a2v]
   congr 1
   simp [eq_comm]
  ·cases h
 ·cases h
theorem b9C {t : TypeId} {x y v : Value} {cs : Array Value} {off : Nat} (h : okC P t x y = true) (hc : cs[off]? = some v) : iK P (part t cs off) = some v := by
 have ha : iK P (isAgg t) = some false := by
  unfold isAgg
  unfold okC at h
  split at h
  ·rename_i hu; rw [iI, jV hu, cV]; rfl
  ·rename_i hu; rw [iI, jV hu, cV]; rfl
  ·rename_i hu; rw [iI, jV hu, cV]; rfl
  ·cases h
 unfold part
 rw [iI, ha, cV]
 simp only [dR, if_false, hc]
 rfl
theorem yM {t : TypeId} {xs ys : List Value} (d : Nat) (hu : P.underlying t = some (.struct (tS P t).toArray)) (hst : P.stoodInHeld t = false)
 (hf : ((tS P t).map fun f => (f.name != "_", f.offset)) = (List.range xs.length).map fun j => (true, j)) (hy : ys.length = xs.length)
 (hok : ((tS P t).all fun f => okC P f.type (xs.getD f.offset undef) (ys.getD f.offset undef)) = true) :
 iK P (Op.equalIn (d + 2) t (.agg xs.toArray) (.agg ys.toArray)) = some ((List.range xs.length).all fun j => eqC (xs.getD j undef) (ys.getD j undef)) := by
 rw [dp] at hok
 have hmem : ∀ f ∈ tS P t, (f.name != "_") = true ∧ f.offset < xs.length := fun f hf' => by
  have : (f.name != "_", f.offset) ∈ (List.range xs.length).map fun j => (true, j) := by rw [← hf]; exact fJ hf'
  obtain ⟨j, hj, he⟩ := du.1 this
  simp only [gi] at he
  exact ⟨he.1.symm, by rw [← he.2]; exact dr.1 hj⟩
 rw [a5O hu hst (fun f => eqC (xs.getD f.offset undef) (ys.getD f.offset undef)) ?_]
 ·congr 1
  have h1 : (tS P t).all (fun f => eqC (xs.getD f.offset undef) (ys.getD f.offset undef)) = ((tS P t).map fun f => (f.name != "_", f.offset)).all fun p => eqC (xs.getD p.2 undef) (ys.getD p.2 undef) := by
   rw [List.all_map]; rfl
  rw [h1, hf, List.all_map]
  rfl
 ·intro f hf'
  obtain ⟨h1, h2⟩ := hmem f hf'
  refine ⟨by simpa using h1, ?_⟩
  have hx : xs.toArray[f.offset]? = some (xs.getD f.offset undef) := by
   rw [fh, cZ, dj h2]; rfl
  have hy' : ys.toArray[f.offset]? = some (ys.getD f.offset undef) := by
   rw [fh, cZ, dj (by omega)]; rfl
  rw [iI, b9C (hok f hf') hx, cV, iI, b9C (hok f hf') hy', cV]
  exact eq1 d (hok f hf')
theorem yL {t t2 : TypeId} {cx cy : Bool} {xs ys : List Value} (hu : P.underlying t = some (.struct (tS P t).toArray)) (hst : P.stoodInHeld t = false) (hg : P.eqGuardType P.depth t = false)
 (hf : ((tS P t).map fun f => (f.name != "_", f.offset)) = (List.range xs.length).map fun j => (true, j)) (hy : ys.length = xs.length)
 (hok : ((tS P t).all fun f => okC P f.type (xs.getD f.offset undef) (ys.getD f.offset undef)) = true) (hx : xs.all iX = true) (hys : ys.all iX = true) :
 kT P .eql t t2 cx cy (.agg xs.toArray) (.agg ys.toArray) = some (.bool ((List.range xs.length).all fun j => eqC (xs.getD j undef) (ys.getD j undef))) ∧
 kT P .neq t t2 cx cy (.agg xs.toArray) (.agg ys.toArray) = some (.bool (!((List.range xs.length).all fun j => eqC (xs.getD j undef) (ys.getD j undef)))) :=
 ⟨b5i _ hg hx hys (yM 9998 hu hst hf hy hok), a6d _ hg hx hys (yM 9998 hu hst hf hy hok)⟩
theorem c2c {t : TypeId} {k : IntKind} (hu : P.underlying t = some (.struct (tS P t).toArray)) (hst : P.stoodInHeld t = false)
 (hf : ((tS P t).map fun f => (f.name != "_", f.offset)) = (List.range 2).map fun j => (true, j))
 (hok : ∀ a b c d : Int, ((tS P t).all fun f => okC P f.type ([Value.int k a, .int k b].getD f.offset undef) ([Value.int k c, .int k d].getD f.offset undef)) = true) (a b : Int × Int) :
 iK P (Op.equal t (.agg #[.int k a.1, .int k a.2]) (.agg #[.int k b.1, .int k b.2])) = some (decide (b = a)) := by
 have hmd : Op.maxDepth = 9998 + 2 := by decide
 unfold Op.equal
 rw [hmd, yM (xs := [.int k a.1, .int k a.2]) (ys := [.int k b.1, .int k b.2]) 9998 hu hst hf rfl (hok _ _ _ _)]
 congr 1
 show ((a.1 == b.1) && ((a.2 == b.2) && true)) = _
 rw [dV]
 simp only [ft, cW, beq_iff_eq, decide_eq_true_eq, Prod.ext_iff]
 constructor
 ·rintro ⟨h1, h2⟩; exact ⟨h1.symm, h2.symm⟩
 ·rintro ⟨h1, h2⟩; exact ⟨h1.symm, h2.symm⟩
theorem c0J {k : IntKind} (a : Int × Int) : Instr.sameBits 10000 (.agg #[.int k a.1, .int k a.2]) (.agg #[.int k a.1, .int k a.2]) = true := by
 show ((2 : Nat) == 2 && ([(Value.int k a.1, Value.int k a.1), (Value.int k a.2, Value.int k a.2)]).all fun (x, y) => Instr.sameBits 9999 x y) = true
 have h : ∀ n, Instr.sameBits 9999 (.int k n) (.int k n) = true := fun n => by
  show (k == k && n == n) = true
  cases k <;> simp <;> rfl
 simp [h]
section
variable {H : Heap} {α : Type} {n : Nat} {cel : α → List Value} {v : Value} {xs : List α}
theorem Sl.aP (h : Sl n cel H v xs) (o : Oper) (l : List Value) (H' : Heap) (k : IntKind) (a : Int) (K : Value → Heap → Prop) (h0 : 0 < xs.length) (h1 : 0 ≤ a) (h2 : a ≤ xs.length) :
 oY P o l H' (some n) v none (some (.int k a)) K = oL (qN v n 0 a.toNat) fun v => K v H' := by
 obtain ⟨m, rfl⟩ : ∃ m, n = m + 1 := ⟨n - 1, by have := h.pos; omega⟩
 exact h.rd.aP (iS h.hc xs) o l H' k a K h0 h1 h2
theorem Sl.aO (h : Sl n cel H v xs) (o : Oper) (l : List Value) (H' : Heap) (k : IntKind) (a : Int) (K : Value → Heap → Prop) (h0 : 0 < xs.length) (h1 : 0 ≤ a) (h2 : a ≤ xs.length) :
 oY P o l H' (some n) v (some (.int k a)) none K = oL (qN v n a.toNat (xs.length - a).toNat) fun v => K v H' := by
 obtain ⟨m, rfl⟩ : ∃ m, n = m + 1 := ⟨n - 1, by have := h.pos; omega⟩
 rw [h.rd.aO (iS h.hc xs) o l H' k a K h0 h1 h2]
 congr 2
 omega
theorem Sl.sub (h : Sl n cel H v xs) (lo k : Nat) (hk : lo + k ≤ xs.length) (h0 : 0 < xs.length) : Sl n cel H (qN v n lo k) ((xs.drop lo).take k) := by
 refine ⟨?_, h.hc, h.pos⟩
 have hne : xs.flatMap cel ≠ [] := fun e => by
  have := iS h.hc xs
  rw [e, eK] at this
  have hp := gZ h0 h.pos
  omega
 have := h.rd.sub lo k (by rw [iS h.hc, ← fo]; exact dF _ hk) hne
 rw [sX h.hc, a1n h.hc] at this
 exact this
theorem Sl.cB (h : Sl n cel H v xs) (k : Nat) (hk : k ≤ xs.length) (h0 : 0 < xs.length) : Sl n cel H (qN v n 0 k) (xs.take k) := by
 simpa using h.sub 0 k (by omega) h0
theorem Sl.cC (h : Sl n cel H v xs) (lo : Nat) (hk : lo ≤ xs.length) (h0 : 0 < xs.length) : Sl n cel H (qN v n lo (xs.length - lo)) (xs.drop lo) := by
 have := h.sub lo (xs.length - lo) (by omega) h0
 rwa [List.take_of_length_le (by simp)] at this
end
def a8p (P : Program) (ts : Array TypeId) (ty : TypeId) (cx cy : Bool) (x y : Value) : Option Value := (kO P ⟨none, .call { callee := .builtin .max, args := #[oM cx 0 x, oM cy 1 y], argTypes := ts }, ty, "", #[], none⟩ [x, y] .nil).map (·.1)
theorem b7O (d : Option Tmp) (ty : TypeId) (pos : String) (af : Array Edge) (g : Option (Nat × Bool)) (ts : Array TypeId) (x y : Operand) (l : List Value) (H : Heap) (K : Value → Heap → Prop) :
 lW P ⟨d, .call { callee := .builtin .max, args := #[x, y], argTypes := ts }, ty, pos, af, g⟩ l H K = jK x l fun x' => jK y l fun y' => jW (a8p P ts ty (lC x) (lC y) x' y') fun v => K v H := by
 have h : opD P ⟨d, .call { callee := .builtin .max, args := #[x, y], argTypes := ts }, ty, pos, af, g⟩ l H = (a8p P ts ty (lC x) (lC y) (ev l x) (ev l y)).map fun v => (v, H) :=
  mS (P := P) ⟨d, .call { callee := .builtin .max, args := #[x, y], argTypes := ts }, ty, pos, af, g⟩ ⟨none, .call { callee := .builtin .max, args := #[oM (lC x) 0 (ev l x), oM (lC y) 1 (ev l y)], argTypes := ts }, ty, "", #[], none⟩ l [ev l x, ev l y] H
   (by cases x <;> cases y <;> rfl) (by cases x <;> cases y <;> kernel_rfl)
 have h2 : kB ((a8p P ts ty (lC x) (lC y) (ev l x) (ev l y)).map fun v => (v, H)) K = jW (a8p P ts ty (lC x) (lC y) (ev l x) (ev l y)) fun v => K v H := by cases a8p P ts ty (lC x) (lC y) (ev l x) (ev l y) <;> rfl
 simp only [lW, h, jK, Op.operands, Call.operands, h2]
 simp [and_assoc]
theorem b5K (ts : Array TypeId) (ty : TypeId) (cx cy : Bool) (a b : Int) : a8p P ts ty cx cy (.int .i64 a) (.int .i64 b) = some (.int .i64 (max a b)) := by
 have h : a8p P ts ty cx cy (.int .i64 a) (.int .i64 b) = some (.int .i64 (if b > a then b else a)) := by cases cx <;> cases cy <;> kernel_rfl
 rw [h]
 congr 2
 split <;> omega
def a8w (P : Program) (ts : Array TypeId) (ty : TypeId) (cx cy : Bool) (x y : Value) : Option Value := (kO P ⟨none, .call { callee := .builtin .min, args := #[oM cx 0 x, oM cy 1 y], argTypes := ts }, ty, "", #[], none⟩ [x, y] .nil).map (·.1)
theorem b8h (d : Option Tmp) (ty : TypeId) (pos : String) (af : Array Edge) (g : Option (Nat × Bool)) (ts : Array TypeId) (x y : Operand) (l : List Value) (H : Heap) (K : Value → Heap → Prop) :
 lW P ⟨d, .call { callee := .builtin .min, args := #[x, y], argTypes := ts }, ty, pos, af, g⟩ l H K = jK x l fun x' => jK y l fun y' => jW (a8w P ts ty (lC x) (lC y) x' y') fun v => K v H := by
 have h : opD P ⟨d, .call { callee := .builtin .min, args := #[x, y], argTypes := ts }, ty, pos, af, g⟩ l H = (a8w P ts ty (lC x) (lC y) (ev l x) (ev l y)).map fun v => (v, H) :=
  mS (P := P) ⟨d, .call { callee := .builtin .min, args := #[x, y], argTypes := ts }, ty, pos, af, g⟩ ⟨none, .call { callee := .builtin .min, args := #[oM (lC x) 0 (ev l x), oM (lC y) 1 (ev l y)], argTypes := ts }, ty, "", #[], none⟩ l [ev l x, ev l y] H
   (by cases x <;> cases y <;> rfl) (by cases x <;> cases y <;> kernel_rfl)
 have h2 : kB ((a8w P ts ty (lC x) (lC y) (ev l x) (ev l y)).map fun v => (v, H)) K = jW (a8w P ts ty (lC x) (lC y) (ev l x) (ev l y)) fun v => K v H := by cases a8w P ts ty (lC x) (lC y) (ev l x) (ev l y) <;> rfl
 simp only [lW, h, jK, Op.operands, Call.operands, h2]
 simp [and_assoc]
theorem b6r (ts : Array TypeId) (ty : TypeId) (cx cy : Bool) (a b : Int) : a8w P ts ty cx cy (.int .i64 a) (.int .i64 b) = some (.int .i64 (min a b)) := by
 have h : a8w P ts ty cx cy (.int .i64 a) (.int .i64 b) = some (.int .i64 (if b < a then b else a)) := by cases cx <;> cases cy <;> kernel_rfl
 rw [h]
 congr 2
 split <;> omega
section
variable {H : Heap}
def Var (H : Heap) (A n : Nat) (cs : List Value) : Prop := n = cs.length ∧ ∃ ty rw lo ver, iP H A = some (.cells cs ty rw lo ver) ∧ lo ≤ cs.length
theorem Var.ag {H' : Heap} {A n : Nat} {cs : List Value} (h : Var H A n cs) (hk : ∀ B, B < H.length → iP H' B = iP H B) : Var H' A n cs := by
 obtain ⟨h1, ty, rw, lo, ver, h2, h3⟩ := h
 exact ⟨h1, ty, rw, lo, ver, by rw [hk A (jM h2), h2], h3⟩
theorem Var.ld {A n : Nat} {cs : List Value} (h : Var H A n cs) (s : Option Nat) (off : Nat) : pL (some false) s H (ptr A off n) = cs[off]? := by
 obtain ⟨rfl, ty, rw, lo, ver, h1, h2⟩ := h
 simp only [pL, jB, h1]
 by_cases h : off < cs.length
 ·rw [if_pos (by simp; omega)]
  simp only [cV]
  rw [dO (by omega), dz]
  simp
 ·rw [if_neg (by simp; omega), ec (by omega)]
  rfl
theorem Var.ai {A n : Nat} {cs : List Value} (h : Var H A n cs) (m off : Nat) : pL (some true) (some m) H (ptr A off n) = if off + m ≤ cs.length then some (.agg ((cs.drop off).take m).toArray) else none := by
 obtain ⟨rfl, ty, rw, lo, ver, h1, h2⟩ := h
 simp only [pL, jB, h1, cV]
 by_cases h : off + m ≤ cs.length
 ·rw [if_pos (by simp; omega), if_pos h]
  rfl
 ·rw [if_neg (by simp; omega), if_neg h]
  rfl
theorem St.var {P : Program} {H0 : Base} {os : List Ob} (hS : St P H0 H os) (i : Nat) {A n : Nat} {cs : List Value} (ho : os[i]? = some ⟨ptr A 0 n, 0, cs⟩) : Var H A n cs := by
 obtain ⟨h1, ty, lo, ver, h2, h3⟩ := hS.cell i ho
 exact ⟨h1, ty, true, lo, ver, h2, h3⟩
theorem St.va {H0 : Heap} {os : List Ob} (hS : St P H0 H os) {A n : Nat} {cs : List Value} (h : Var H0 A n cs) : Var H A n cs := h.ag hS.ag
end
theorem sG {P : Program} (t t2 : TypeId) (cx cy : Bool) (u x : UInt8) : kT P .add t t2 cx cy (.string ⟨#[u]⟩) (.string ⟨#[x]⟩) = some (.string ⟨#[u, x]⟩) := by
 rw [a7t _ _ _ _ _ _ (by show 1 + 1 < 9223372036854775808; decide)]
 rfl
theorem vJ {P : Program} {H : Heap} {s t : TypeId} {v : Value} {n : Int} (h : RdAt H v 1 [.int .u8 n]) (hs : lA P s = true) (ht : oI P t = true) (hbt : lA P t = false) (h0 : 0 ≤ n) (h1 : n < 256) (K : Value → Heap → Prop) :
 tP P s t H v K = K (.string ⟨#[UInt8.ofNat n.toNat]⟩) H := by
 obtain ⟨m, rfl⟩ : ∃ m : Nat, n = Int.ofNat m := ⟨n.toNat, by simp [fI h0]⟩
 have hm : m < 256 := by have : (m : Int) < 256 := h1; omega
 rcases h with ⟨_, h⟩ | ⟨A, i, e, row, ty, rw, lo, ver, k, g1, g2, g3, g4, g5, g6, rfl⟩
 ·cases h
 have hk : k = 1 := by simp at g6; omega
 subst hk
 have hc : jB H A i e 1 = some [.int .u8 (Int.ofNat m)] := by
  simp only [jB, g1]
  rw [if_pos (by simp at g4 ⊢; omega)]
  exact congrArg some g5
 have hb : mY [.int .u8 (Int.ofNat m)] = some ⟨#[UInt8.ofNat m]⟩ := by simp [mY, a1N, a1d, hm]
 have hd : opD P ⟨none, .convert s t (.const (.slice (some ⟨A, i, some e⟩) 1 1)), t, "", #[], none⟩ [] H = some (.string ⟨#[UInt8.ofNat m]⟩, H) := by
  have hf : flat (.slice (some ⟨A, i, some e⟩) 1 1) = false := rfl
  simp only [opD, ev, hf, hs, ht, hc, hb, fx, dR, if_false, Bool.and_self, if_true, cV, dK]
 unfold tP
 rw [hd]
 apply propext
 constructor
 ·rintro ⟨v, H1, h2, h3⟩
  injection (cU h2) with e1 e2
  subst e1 e2
  exact h3
 ·intro h3
  exact ⟨_, _, rfl, h3⟩
theorem a5e {P : Program} {t : TypeId} {n : Nat} {elem : TypeId} {size : Nat} (ha : P.underlying t = some (.array n elem)) (hs : iD P elem = some size) (A i e : Nat) (k : IntKind) (j : Int) (h0 : 0 ≤ j) (h1 : j < n) :
 wO (iR P t) P t (ptr A i e) (.int k j) = some (ptr A (i + j.toNat * size) e) := by
 have hn : iR P t = none := by simp [iR, iJ, ha]
 rw [hn]
 simp only [wO, a1K, ha, ptr, hs, cV]
 rw [if_pos (by simp [h0, h1])]
end
end Go.Ds
namespace Go.Ds
section
variable {P : Program}
def c1n (inv : List Nat) (e : Edge) : Edge := { e with on := inv.getD e.on 0 }
def yS (inv : List Nat) (o : Oper) : Oper := { o with after := o.after.map (c1n inv), guard := o.guard.map fun g => (inv.getD g.1 0, g.2) }
def kC (π inv : List Nat) (ops : Array Oper) : Array Oper := (π.map fun i => yS inv (ops.getD i default)).toArray
def a9i (π inv : List Nat) (ops : Array Oper) : Bool :=
 decide (π.length = ops.size) && decide (inv.length = ops.size) && (List.range ops.size).all (fun i => decide (π.getD i 0 < ops.size) && decide (inv.getD i 0 < ops.size) && decide (inv.getD (π.getD i 0) 0 = i) && decide (π.getD (inv.getD i 0) 0 = i)) &&
 ops.toList.all fun o => o.after.toList.all (fun e => decide (e.on < ops.size)) && (match o.guard with | some g => decide (g.1 < ops.size) | none => true)
structure Perm (π inv : List Nat) (ops : Array Oper) : Prop where
 len : π.length = ops.size
 pi : ∀ i, i < ops.size → π.getD i 0 < ops.size
 iv : ∀ i, i < ops.size → inv.getD i 0 < ops.size
 ip : ∀ i, i < ops.size → inv.getD (π.getD i 0) 0 = i
 pv : ∀ i, i < ops.size → π.getD (inv.getD i 0) 0 = i
 edge : ∀ (i : Nat) (o : Oper), ops[i]? = some o → ∀ e ∈ o.after, e.on < ops.size
 guard : ∀ (i : Nat) (o : Oper) (g : Nat × Bool), ops[i]? = some o → o.guard = some g → g.1 < ops.size
theorem b8F {π inv : List Nat} {ops : Array Oper} (h : a9i π inv ops = true) : Perm π inv ops := by
 unfold a9i at h
 simp only [cW, decide_eq_true_eq, dp, dr] at h
 obtain ⟨⟨⟨h1, h2⟩, h3⟩, h4⟩ := h
 refine ⟨h1, fun i hi => (h3 i hi).1.1.1, fun i hi => (h3 i hi).1.1.2, fun i hi => (h3 i hi).1.2, fun i hi => (h3 i hi).2, fun i o ho e he => ?_, fun i o g ho hg => ?_⟩
 ·exact (h4 o (dL (i := i) (by simpa using ho))).1 e (by simpa using he)
 ·have := (h4 o (dL (i := i) (by simpa using ho))).2
  rw [hg] at this
  simpa using this
variable {π inv : List Nat} {ops : Array Oper}
theorem a6J (p : Nat) : (kC π inv ops)[p]? = (π[p]?).map fun i => yS inv (ops.getD i default) := by
 simp [kC]
theorem qT (D : Perm π inv ops) {p i : Nat} {o : Oper} (hp : p < ops.size) (hi : π.getD p 0 = i) (ho : ops[i]? = some o) : (kC π inv ops)[p]? = some (yS inv o) := by
 rw [a6J]
 have h1 : π[p]? = some i := by
  rw [cZ] at hi
  rw [dj (by rw [D.len]; exact hp)] at hi ⊢
  simpa using hi
 rw [h1]
 simp only [dK]
 rw [dU, ho]
 rfl
theorem pX (D : Perm π inv ops) : (kC π inv ops).size = ops.size := by simp [kC, D.len]
theorem a4P (D : Perm π inv ops) (tmps : Array Value) {j : Nat} (hj : j < ops.size) : yielded (kC π inv ops) tmps (inv.getD j 0) = yielded ops tmps j := by
 have ho : ops[j]? = some ops[j] := db.2 ⟨hj, rfl⟩
 unfold yielded
 rw [qT D (D.iv j hj) (D.pv j hj) ho, ho]
 rfl
theorem a6R (D : Perm π inv ops) (tmps : Array Value) {i : Nat} {o : Oper} (ho : ops[i]? = some o) : Region.wanted (yS inv o) (yielded (kC π inv ops) tmps) = Region.wanted o (yielded ops tmps) := by
 unfold Region.wanted
 have e : (yS inv o).guard = o.guard.map fun g => (inv.getD g.1 0, g.2) := rfl
 rw [e]
 cases hg : o.guard with
 | none => rfl
 | some g =>
   simp only [dK]
   rw [a4P D tmps (D.guard i o g ho hg)]
theorem b8C (ro : Option Nat) (ρ : Operand → Value) (o : Oper) : (yS inv o).semAt ro ρ = o.semAt ro ρ := by
 obtain ⟨dst, op, type, pos, after, guard⟩ := o
 rfl
theorem b2u (w : World) (ρ : Operand → Value) (o : Oper) : (yS inv o).about P w ρ = o.about P w ρ := by
 obtain ⟨dst, op, type, pos, after, guard⟩ := o
 rfl
theorem b4P (F : Fence) (n : Nat) (o : Oper) (a : Act) (next : Act → World → Prop) (Q : Exit → Act → World → Prop) (r : Result Next) : (yS inv o).uponIn F n P a next Q r = o.uponIn F n P a next Q r := by
 obtain ⟨dst, op, type, pos, after, guard⟩ := o
 cases r with
 | ok x w => cases x <;> rfl
 | halt x w => cases x <;> rfl
theorem b3n (D : Perm π inv ops) (F : Fence) (n : Nat) (Q : Exit → Act → World → Prop) {i : Nat} (hi : i < ops.size) (K : Act → World → Prop) (a : Act) (w : World) :
 wpOpIn F n P (kC π inv ops) Q (inv.getD i 0) K a w = wpOpIn F n P ops Q i K a w := by
 have ho : ops[i]? = some ops[i] := db.2 ⟨hi, rfl⟩
 unfold wpOpIn
 rw [qT D (D.iv i hi) (D.pv i hi) ho, ho]
 simp only [a6R D a.tmps ho, Oper.wpIn, b2u, b4P, b8C]
 rfl
def c0O (inv : List Nat) (n : Nat) (listed listed' : Array Bool) : Prop := listed.size = n ∧ listed'.size = n ∧ ∀ i, i < n → listed.getD i false = listed'.getD (inv.getD i 0) false
theorem wY (D : Perm π inv ops) {listed listed' : Array Bool} (hc : c0O inv ops.size listed listed') {i : Nat} (hi : i < ops.size) :
 i ∈ Region.ready .any ops listed ↔ inv.getD i 0 ∈ Region.ready .any (kC π inv ops) listed' := by
 have ho : ops[i]? = some ops[i] := db.2 ⟨hi, rfl⟩
 have ho' := qT D (D.iv i hi) (D.pv i hi) ho
 have hsz := pX D
 obtain ⟨c1, c2, c3⟩ := hc
 constructor
 ·intro h
  obtain ⟨o, h1, h2, h3⟩ := oZ c1 h
  rw [ho] at h1
  obtain rfl := cU h1
  refine a0u (by rw [hsz]; exact c2) ho' (by rw [← c3 i hi]; exact h2) ?_
  intro e he hb
  have he' : e ∈ (ops[i]).after.map (c1n inv) := he
  obtain ⟨e0, he0, rfl⟩ := Array.mem_map.1 he'
  have := h3 e0 he0 hb
  show listed'.getD (inv.getD e0.on 0) false = true
  rw [← c3 _ (D.edge i _ ho e0 he0)]
  exact this
 ·intro h
  obtain ⟨o, h1, h2, h3⟩ := oZ (by rw [hsz]; exact c2) h
  rw [ho'] at h1
  obtain rfl := cU h1
  refine a0u c1 ho (by rw [c3 i hi]; exact h2) ?_
  intro e he hb
  have := h3 (c1n inv e) (Array.mem_map.2 ⟨e, he, rfl⟩) hb
  rw [c3 _ (D.edge i _ ho e he)]
  exact this
theorem b5w (D : Perm π inv ops) (F : Fence) (k : Nat) {Q : Exit → Act → World → Prop} : ∀ (fuel : Nat) (listed listed' : Array Bool) (a : Act) (w : World), c0O inv ops.size listed listed' →
 wpAnyIn F k P .any (kC π inv ops) Q fuel listed' a w → wpAnyIn F k P .any ops Q fuel listed a w := by
 have hsz := pX D
 have nil1 : ∀ {listed listed' : Array Bool}, c0O inv ops.size listed listed' → (Region.ready .any ops listed = [] ↔ Region.ready .any (kC π inv ops) listed' = []) := by
  intro listed listed' hc
  constructor
  ·intro h
   cases hr : Region.ready .any (kC π inv ops) listed' with
   | nil => rfl
   | cons p r =>
     exfalso
     have hp : p ∈ Region.ready .any (kC π inv ops) listed' := by rw [hr]; exact dE ..
     obtain ⟨o, h1, _, _⟩ := oZ (by rw [hsz]; exact hc.2.1) hp
     have hpn : p < ops.size := by rw [← hsz]; exact (db.1 h1).1
     have := (wY D hc (D.pi p hpn)).2 (by rw [D.ip p hpn]; exact hp)
     rw [h] at this
     cases this
  ·intro h
   cases hr : Region.ready .any ops listed with
   | nil => rfl
   | cons i r =>
     exfalso
     have hi : i ∈ Region.ready .any ops listed := by rw [hr]; exact dE ..
     obtain ⟨o, h1, _, _⟩ := oZ hc.1 hi
     have := (wY D hc (db.1 h1).1).1 hi
     rw [h] at this
     cases this
 intro fuel
 induction fuel with
 | zero =>
   intro listed listed' a w hc h
   exact ⟨(nil1 hc).2 h.1, h.2⟩
 | succ fuel ih =>
   intro listed listed' a w hc h
   refine ⟨fun hn => h.1 ((nil1 hc).1 hn), fun i hi => ?_⟩
   obtain ⟨o, h1, _, _⟩ := oZ hc.1 hi
   have hin := (db.1 h1).1
   have h2 := h.2 _ ((wY D hc hin).1 hi)
   rw [b3n D F k Q hin] at h2
   refine wpOpIn_mono (fun a' w' h3 => ih _ _ a' w' ⟨by simpa using hc.1, by simpa using hc.2.1, fun j hj => ?_⟩ h3) h2
   have e1 := sW (listed := listed) (i := i) (by rw [hc.1]; exact hin) j
   have e2 := sW (listed := listed') (i := inv.getD i 0) (by rw [hc.2.1]; exact D.iv i hin) (inv.getD j 0)
   have e3 : (inv.getD j 0 = inv.getD i 0) ↔ j = i := ⟨fun h => by rw [← D.pv j hj, h, D.pv i hin], fun h => by rw [h]⟩
   rw [dV, e1, e2, e3, hc.2.2 j hj]
end
section
variable {P : Program} {H : Heap} {π inv : List Nat} {ops : Array Oper}
theorem Sim.cD (kF : P.follows .mixedOrders = true) {id : Nat} (Dp : Perm π inv ops) {fl : Fl} (D : Draw P fl (kC π inv ops)) {T : Nat → List Value × Heap} {val : Nat → Value} (X : Text P (kC π inv ops) T val)
 (hread : ∀ i m o, (i, m) ∈ mF fl (kC π inv ops) → (kC π inv ops)[i]? = some o → Region.wanted o (iT (kC π inv ops) (T i).1) = true → ∃ H2, opD P o (T i).1 (T m).2 = some (val i, H2)) :
 Sim P (.region id ops true) (T 0).1 (T 0).2 .normal (T ops.size).1 (T ops.size).2 := by
 intro ro k B ρ w a hr hE hl hM hB
 have hsz := pX Dp
 have := a3i D X hread ro k B hr hE hM
 rw [hsz] at this
 exact wpIn_region_any kF (b5w Dp (fe ro) k ops.size _ _ a _ ⟨by simp, by simp, fun i hi => by
  have := Dp.iv i hi
  simp only [dU, Array.getElem?_replicate, hi, this, if_true]⟩ this)
theorem a2K (D : Perm π inv ops) (l : List Value) {j : Nat} (hj : j < ops.size) : iT (kC π inv ops) l (inv.getD j 0) = iT ops l j := by
 have ho : ops[j]? = some ops[j] := db.2 ⟨hj, rfl⟩
 unfold iT
 rw [qT D (D.iv j hj) (D.pv j hj) ho, ho]
 rfl
theorem yH (D : Perm π inv ops) (l : List Value) {i : Nat} {o : Oper} (ho : ops[i]? = some o) : Region.wanted (yS inv o) (iT (kC π inv ops) l) = Region.wanted o (iT ops l) := by
 unfold Region.wanted
 have e : (yS inv o).guard = o.guard.map fun g => (inv.getD g.1 0, g.2) := rfl
 rw [e]
 cases hg : o.guard with
 | none => rfl
 | some g =>
   simp only [dK]
   rw [a2K D l (D.guard i o g ho hg)]
theorem b0C (o : Oper) (l : List Value) (K : Value → Heap → Prop) : lW P (yS inv o) l H K = lW P o l H K := by
 obtain ⟨dst, op, type, pos, after, guard⟩ := o
 rfl
theorem a3r (D : Perm π inv ops) : ∀ (os : List Oper) (tr : List (List Value × Heap × Value)) (l : List Value) (H : Heap) (K : List (List Value × Heap × Value) → List Value → Heap → Prop), (∀ o ∈ os, ∃ i : Nat, ops[i]? = some o) →
 mE P (kC π inv ops) (os.map (yS inv)) tr l H K = mE P ops os tr l H K
 | [], _, _, _, _, _ => rfl
 | o :: os, tr, l, H, K, h => by
   obtain ⟨i, ho⟩ := h o (by simp)
   have ih := fun tr l H => a3r D os tr l H K fun o ho => h o (by simp [ho])
   rw [eo, mE, mE, yH D l ho]
   have e : (yS inv o).dst = o.dst := rfl
   simp only [b0C, e, ih]
def c1K (o : Option Oper) (os : List Oper) : List Oper := match o with | some o => o :: os | none => os
def sel (os : List Oper) : List Nat → List Oper
 | [] => []
 | i :: π => c1K os[i]? (sel os π)
theorem b7V (os : List Oper) : sel os [] = [] := rfl
theorem a6O (os : List Oper) (i : Nat) (π : List Nat) : sel os (i :: π) = c1K os[i]? (sel os π) := rfl
theorem a3I (o : Oper) (os : List Oper) : c1K (some o) os = o :: os := rfl
theorem a9u (os : List Oper) : ∀ (π : List Nat), (∀ i ∈ π, i < os.length) → sel os π = π.map fun i => os.toArray.getD i default
 | [], _ => rfl
 | i :: π, h => by
   have hi := h i (by simp)
   rw [a6O, a9u os π fun j hj => h j (by simp [hj]), dj hi, a3I, eo]
   congr 1
   simp [dU, hi]
def zS (P : Program) (os : List Oper) (tr : List (List Value × Heap × Value)) (H1 : Heap) (π : List Nat) : List (Nat × Nat) → Prop
 | [] => True
 | (p, m) :: r => rdW P os.toArray (os[π.getD p 0]?) tr[p]? (trH tr[m]? H1) ∧ zS P os tr H1 π r
theorem a8T (os : List Oper) (tr) (H1 : Heap) (π : List Nat) : zS P os tr H1 π [] = True := rfl
theorem a7c (os : List Oper) (tr) (H1 : Heap) (π : List Nat) (p m : Nat) (r : List (Nat × Nat)) : zS P os tr H1 π ((p, m) :: r) = (rdW P os.toArray (os[π.getD p 0]?) tr[p]? (trH tr[m]? H1) ∧ zS P os tr H1 π r) := rfl
theorem a2f {os : List Oper} {tr} {H1 : Heap} {π : List Nat} : ∀ {tab : List (Nat × Nat)}, zS P os tr H1 π tab → ∀ x ∈ tab, rdW P os.toArray (os[π.getD x.1 0]?) tr[x.1]? (trH tr[x.2]? H1)
 | [], _, x, hx => by cases hx
 | (i, m) :: r, h, x, hx => by
   rcases dN.1 hx with rfl | hx
   ·exact h.1
   ·exact a2f h.2 x hx
theorem Wp.cg (kF : P.follows .mixedOrders = true) {id : Nat} {os : List Oper} {l : List Value} {Q : nO} (π inv : List Nat) (fl : Fl) (tab : List (Nat × Nat)) (hp : a9i π inv os.toArray = true)
 (htab : a1p P fl (kC π inv os.toArray) = some tab) (hn : tX (kC π inv os.toArray) tab = true)
 (h : mE P os.toArray (sel os π) [] l H fun tr l1 H1 => Q .normal l1 H1 ∧ zS P os tr H1 π tab) : Wp P (.region id os.toArray true) l H Q := by
 have Dp := b8F hp
 obtain ⟨D, htb⟩ := a2J htab
 have hsz := pX Dp
 have hmem : ∀ i ∈ π, i < os.length := fun i hi => by
  obtain ⟨p, hpl, hpe⟩ := dA.1 hi
  have := Dp.pi p (by rw [← Dp.len]; exact hpl)
  rw [cZ, dj hpl, fb, hpe] at this
  simpa using this
 have hsel : (sel os π).map (yS inv) = (kC π inv os.toArray).toList := by
  rw [a9u os π hmem]
  simp [kC]
 rw [← a3r Dp (sel os π) [] l H _ (fun o ho => by
  rw [a9u os π hmem, du] at ho
  obtain ⟨i, hi, rfl⟩ := ho
  have := hmem i hi
  exact ⟨i, by simp [dU, this]⟩), hsel] at h
 obtain ⟨T, val, l', H', ext, h0, h1, h2, h3, h4, h5, h6⟩ := tW (kC π inv os.toArray).toList 0 rfl [] l H h
 have hlen : (kC π inv os.toArray).toList.length = os.toArray.size := by rw [fy, hsz]
 rw [hlen] at h1 h2 h3 h4
 have := Sim.cD kF (id := id) Dp D (T := T) (val := val) ⟨fun k hk => by rw [hsz] at hk; simpa using h4 k hk⟩ fun i m o hm ho hw => by
  rw [← htb] at hm
  have hr := a2f h6 (i, m) hm
  have hi : i < os.toArray.size := by rw [← hsz]; exact (db.1 ho).1
  have hpi := Dp.pi i hi
  have hoo : os.toArray[π.getD i 0]? = some (os.toArray[π.getD i 0]) := db.2 ⟨hpi, rfl⟩
  have hat := qT (inv := inv) Dp hi rfl hoo
  rw [ho] at hat
  have hat := cU hat
  have hoo' : os[π.getD i 0]? = some (os.toArray[π.getD i 0]) := by rw [← hoo]; simp
  simp only [fi] at hr
  rw [hoo', h3 i hi] at hr
  unfold rdW at hr
  rw [hat, yH Dp _ hoo] at hw
  have hr := hr hw
  have hno : xS o = true := by
   unfold tX at hn
   have := dp.1 hn (i, m) hm
   simpa [ho] using this
  have hTm : trH ext[m]? H' = (T m).2 ∨ os.toArray.size < m := by
   unfold trH
   by_cases hm2 : m < os.toArray.size
   ·left; rw [h3 m hm2]
   ·by_cases hm3 : m = os.toArray.size
    ·left
     rw [ec (by omega), hm3, h1]
    ·right; omega
  rcases hTm with hTm | hTm
  ·rw [hTm, ← b0C (inv := inv), ← hat] at hr
   obtain ⟨v, H2, h7, h8⟩ := b0N hno hr
   exact ⟨H2, by rw [h7, h8]⟩
  ·exfalso
   rw [htb] at hm
   have := a1B hm
   rw [hsz] at this
   omega
 rw [h0, h1] at this
 exact ⟨_, _, _, this, h5⟩
end
def RA :=
 And.intro @b8U <| And.intro @b5M <| And.intro @b9t <| And.intro @c1f <| And.intro @c2s <| And.intro @b6K <| And.intro @b7K <| And.intro @c0v <| And.intro @b9g <| And.intro @b7J <| And.intro @b5P <| And.intro @a7B <| And.intro @b2b <| And.intro @b4X <| And.intro @b3j <| And.intro @a8q <| And.intro @b0b <| And.intro @a6w <| And.intro @b4A <| And.intro @a9m <| And.intro @b5J <| And.intro @b5s <| And.intro @b1x <| And.intro @b2o <| And.intro @b7A <| And.intro @b3o <| And.intro @a2p <| And.intro @a2Y <| And.intro @a8D <| And.intro @b5T <| And.intro @b2P <| And.intro @b7L <| And.intro @a3e <| And.intro @a3c <| And.intro @b5v <| And.intro @c1W <| And.intro @a7U <| And.intro @a5E <| And.intro @b1s <| And.intro @b5u <| And.intro @a4J <| And.intro @a9v <| And.intro @a8u <| And.intro @a8a <| And.intro @a9D <| And.intro @a6h <| And.intro @a2O <| And.intro @a4L <| And.intro @a2e <| And.intro @b1u <| And.intro @b7O <| And.intro @b8h <| And.intro @b6f <| And.intro @a9L <| And.intro @b1I <| And.intro @b2Y <| And.intro @a8j <| And.intro @a9e <| And.intro @a7u <| And.intro @a5M <| And.intro @b4H <| And.intro @b2f <| And.intro @a2Q <| And.intro @a8P <| And.intro @a5D <| And.intro @a2W <| And.intro @a5L <| And.intro @a9O <| And.intro @a6L <| @b6I
def RB :=
 And.intro @b7y <| And.intro @a9r <| And.intro @a9U <| And.intro @b2g <| And.intro @b0k <| And.intro @a5N <| And.intro @a5V <| And.intro @b4r <| And.intro @a6K <| And.intro @a6Y <| And.intro @b7z <| And.intro @b1X <| And.intro @a8h <| And.intro @b8r <| And.intro @b8Q <| And.intro @b7c <| And.intro @b7r <| And.intro @a9R <| And.intro @a6x <| And.intro @b7g <| And.intro @c1L <| And.intro @b4M <| And.intro @a6W <| And.intro @b0j <| And.intro @b8w <| And.intro @b7a <| And.intro @b4Q <| And.intro @b2r <| And.intro @b1Z <| And.intro @b3t <| And.intro @b2e <| And.intro @b2t <| And.intro @b2p <| And.intro @b3k <| And.intro @b2k <| And.intro @b2q <| And.intro @b1t <| And.intro @b2T <| And.intro @b2h <| And.intro @b5X <| And.intro @b3a <| And.intro @a4M <| And.intro @b1T <| And.intro @b2F <| And.intro @b2I <| And.intro @b3e <| And.intro @b2a <| And.intro @b6E <| And.intro @b4J <| And.intro @b4Y <| And.intro @b9i <| And.intro @b6x <| And.intro @a6Q <| And.intro @a9t <| And.intro @a8G <| And.intro @b7l <| And.intro @b4I <| And.intro @a6A <| And.intro @b3Z <| And.intro @b3A <| And.intro @b1R <| And.intro @a9Y <| And.intro @b3T <| And.intro @b2l <| And.intro @a9P <| And.intro @b1K <| And.intro @b6a <| And.intro @b0l <| And.intro @b2E <| And.intro @b2A <| And.intro @b0h <| And.intro @b1E <| And.intro @a8W <| And.intro @b7V <| And.intro @a6O <| And.intro @a3I <| And.intro @a8T <| And.intro @a7c <| And.intro @b7w <| And.intro @b5c <| And.intro @b2n <| And.intro @b4n <| And.intro @b6A <| And.intro @b1B <| And.intro @b3I <| And.intro @b2v <| And.intro @a4E <| And.intro @a8Z <| And.intro @a7N <| And.intro @a8r <| And.intro @a8I <| And.intro @b6y <| And.intro @b3R <| And.intro @b2d <| And.intro @b4U <| And.intro @a6F <| And.intro @a4w <| And.intro @a7V <| And.intro @a7k <| And.intro @a7P <| And.intro @c4j <| And.intro @c3e <| And.intro @b8B <| And.intro @b9w <| And.intro @b5K <| And.intro @b6r <| And.intro @b4F <| And.intro @a8Y <| And.intro @b7q <| And.intro @b6t <| And.intro @b7H <| And.intro @oC <| And.intro @b5b <| And.intro @qL <| @b8v
theorem RT :
 (∀ {α : Type} (l : List α), [] ++ l = l) ∧
 (∀ {α : Type} (l : List α), l ++ [] = l) ∧
 (∀ {α : Type} {a : α} {l m : List α}, a :: l ++ m = a :: (l ++ m)) ∧
 (∀ (cs : List Value) (i : Nat) (v : Value) (vs : List Value), iW cs i (v :: vs) = iW (cs.set i v) (i + 1) vs) ∧
 (∀ (cs : List Value) (i : Nat), iW cs i [] = cs) ∧
 (∀ {α : Type} {x : α} {xs : List α} {a : α}, (x :: xs).set 0 a = a :: xs) ∧
 (∀ {α : Type} {x : α} {xs : List α} {i : Nat} {a : α}, (x :: xs).set (i + 1) a = x :: xs.set i a) ∧
 (∀ (n : Nat), 0 + n = n) ∧
 (∀ (n : Nat), n * 1 = n) ∧
 (∀ (n : Nat), n + 0 = n) :=
 ⟨@List.nil_append, @List.append_nil, @List.cons_append, @pW, @uI, @List.set_cons_zero, @List.set_cons_succ, @Nat.zero_add, @Nat.mul_one, @Nat.add_zero⟩
end Go.Ds
namespace Go.Ds
open Go.Proofs Go.Proofs.Tryz
abbrev I (n : Int) : Value := .int .i64 n
theorem sR (H : Heap) : St prog H H [] := .refl ..
theorem kF : prog.follows .mixedOrders = true := by kernel_rfl
theorem tS3 : iD prog 3 = some 1 := by kernel_rfl
theorem b8o : iD prog 26 = some 3 := by kernel_rfl
theorem b8R : iD prog 27 = some 5 := by kernel_rfl
theorem c2R : iD prog 29 = some 3 := by kernel_rfl
theorem c3u : iD prog 32 = some 1 := by kernel_rfl
theorem c4M : iD prog 33 = some 1 := by kernel_rfl
theorem b9n : iD prog 34 = some 1 := by kernel_rfl
theorem mR : iD prog 36 = some 4 := by kernel_rfl
theorem c3S : iD prog 38 = some 1 := by kernel_rfl
theorem b9q : iD prog 39 = some 1 := by kernel_rfl
theorem pE : iD prog 41 = some 3 := by kernel_rfl
theorem a8o : iD prog 46 = some 1 := by kernel_rfl
theorem nI : iD prog 52 = some 2 := by kernel_rfl
theorem c2G : iD prog 58 = some 1 := by kernel_rfl
theorem pH : iD prog 70 = some 2 := by kernel_rfl
theorem zG : iD prog 88 = some 2 := by kernel_rfl
theorem b8D : iD prog 89 = some 1 := by kernel_rfl
theorem yO : iD prog 91 = some 6 := by kernel_rfl
theorem lK : iD prog 100 = some 2 := by kernel_rfl
theorem b1g : iD prog 105 = some 4 := by kernel_rfl
theorem b6u : iD prog 109 = some 9 := by kernel_rfl
theorem tN : iD prog 112 = some 2 := by kernel_rfl
theorem b9y : iD prog 113 = some 1 := by kernel_rfl
theorem tO : iD prog 115 = some 5 := by kernel_rfl
theorem vY : iD prog 116 = some 1 := by kernel_rfl
theorem nR : iD prog 118 = some 4 := by kernel_rfl
theorem b4q : iD prog 121 = some 4 := by kernel_rfl
theorem b1m : iD prog 123 = some 4 := by kernel_rfl
theorem tG : iD prog 125 = some 5 := by kernel_rfl
theorem xQ : iD prog 150 = some 3 := by kernel_rfl
theorem vX : iD prog 152 = some 2 := by kernel_rfl
theorem b5n : iD prog 173 = some 1 := by kernel_rfl
theorem b1c : iD prog 194 = some 3 := by kernel_rfl
theorem c1T : iR prog 89 = some 1 := by kernel_rfl
theorem nC : lA prog 110 = true ∧ oI prog 9 = true ∧ lA prog 9 = false := ⟨by kernel_rfl, by kernel_rfl, by kernel_rfl⟩
theorem c5s (A i e : Nat) (k : IntKind) (j : Int) (h0 : 0 ≤ j) (h1 : j < 5) : wO (iR prog 27) prog 27 (ptr A i e) (.int k j) = some (ptr A (i + j.toNat * 1) e) := a5e (n := 5) (elem := 5) (size := 1) (by kernel_rfl) (by kernel_rfl) A i e k j h0 h1
theorem c5R (A i e : Nat) (k : IntKind) (j : Int) (h0 : 0 ≤ j) (h1 : j < 3) : wO (iR prog 29) prog 29 (ptr A i e) (.int k j) = some (ptr A (i + j.toNat * 1) e) := a5e (n := 3) (elem := 28) (size := 1) (by kernel_rfl) (by kernel_rfl) A i e k j h0 h1
theorem c4A (A i e : Nat) (k : IntKind) (j : Int) (h0 : 0 ≤ j) (h1 : j < 64) : wO (iR prog 251) prog 251 (ptr A i e) (.int k j) = some (ptr A (i + j.toNat * 1) e) := a5e (n := 64) (elem := 5) (size := 1) (by kernel_rfl) (by kernel_rfl) A i e k j h0 h1
theorem c0V : mM prog 32 = some (6, 80) := by kernel_rfl
theorem c3y : ((iJ prog 32).bind (iZ prog)).any jA = true := by kernel_rfl
theorem c1b : mM prog 33 = some (5, 64) := by kernel_rfl
theorem c3G : ((iJ prog 33).bind (iZ prog)).any jA = true := by kernel_rfl
theorem a8H : mM prog 34 = some (5, 48) := by kernel_rfl
theorem b7n : ((iJ prog 34).bind (iZ prog)).any jA = true := by kernel_rfl
theorem c2n : mM prog 38 = some (1, 8) := by kernel_rfl
theorem c3v : ((iJ prog 38).bind (iZ prog)).any jA = true := by kernel_rfl
theorem b3V : mM prog 44 = some (2, 16) := by kernel_rfl
theorem c1k : ((iJ prog 44).bind (iZ prog)).any jA = true := by kernel_rfl
theorem rT : mM prog 46 = some (2, 16) := by kernel_rfl
theorem a2N : ((iJ prog 46).bind (iZ prog)).any jA = true := by kernel_rfl
theorem a2E : mM prog 58 = some (2, 16) := by kernel_rfl
theorem b7u : ((iJ prog 58).bind (iZ prog)).any jA = true := by kernel_rfl
theorem c0w : mM prog 83 = some (3, 24) := by kernel_rfl
theorem c4a : ((iJ prog 83).bind (iZ prog)).any jA = true := by kernel_rfl
theorem a1G : mM prog 89 = some (1, 8) := by kernel_rfl
theorem a7w : ((iJ prog 89).bind (iZ prog)).any jA = true := by kernel_rfl
theorem b0B : mM prog 110 = some (1, 1) := by kernel_rfl
theorem b1a : ((iJ prog 110).bind (iZ prog)).any jA = true := by kernel_rfl
theorem b3Y : mM prog 113 = some (4, 56) := by kernel_rfl
theorem c0l : ((iJ prog 113).bind (iZ prog)).any jA = true := by kernel_rfl
theorem pQ : mM prog 116 = some (3, 40) := by kernel_rfl
theorem vR : ((iJ prog 116).bind (iZ prog)).any jA = true := by kernel_rfl
theorem b5f : mM prog 127 = some (3, 40) := by kernel_rfl
theorem b6k : ((iJ prog 127).bind (iZ prog)).any jA = true := by kernel_rfl
theorem a3G : mM prog 148 = some (2, 16) := by kernel_rfl
theorem a3B : ((iJ prog 148).bind (iZ prog)).any jA = true := by kernel_rfl
theorem c4z : mM prog 155 = some (1, 16) := by kernel_rfl
theorem c2W : ((iJ prog 155).bind (iZ prog)).any jA = true := by kernel_rfl
theorem c0f : mM prog 156 = some (2, 16) := by kernel_rfl
theorem c3T : ((iJ prog 156).bind (iZ prog)).any jA = true := by kernel_rfl
theorem c0m : mM prog 205 = some (2, 16) := by kernel_rfl
theorem c0a : ((iJ prog 205).bind (iZ prog)).any jA = true := by kernel_rfl
theorem c6o : c0N prog 89 = some (8, .int .i64 0) := by kernel_rfl
theorem c4d (t2 : TypeId) (cx cy : Bool) (a0 : Int) (a1 : Int) (b0 : Int) (b1 : Int) : kT prog .eql 52 t2 cx cy (.agg #[.int .i64 a0, .int .i64 a1]) (.agg #[.int .i64 b0, .int .i64 b1]) = some (.bool (decide (a0 = b0 ∧ a1 = b1))) ∧ kT prog .neq 52 t2 cx cy (.agg #[.int .i64 a0, .int .i64 a1]) (.agg #[.int .i64 b0, .int .i64 b1]) = some (.bool (decide (¬ (a0 = b0 ∧ a1 = b1)))) := by
 have h := yL (P := prog) (t := 52) (t2 := t2) (cx := cx) (cy := cy) (xs := [.int .i64 a0, .int .i64 a1]) (ys := [.int .i64 b0, .int .i64 b1]) (by kernel_rfl) (by kernel_rfl) (by kernel_rfl) (by kernel_rfl) rfl (by kernel_rfl) rfl rfl
 have e : ((List.range [Value.int .i64 a0, .int .i64 a1].length).all fun j => eqC ([Value.int .i64 a0, .int .i64 a1].getD j undef) ([Value.int .i64 b0, .int .i64 b1].getD j undef)) = decide (a0 = b0 ∧ a1 = b1) := by
  show (eqC (Value.int .i64 a0) (.int .i64 b0) && (eqC (Value.int .i64 a1) (.int .i64 b1) && true)) = _
  rw [dV]
  simp [eqC]
 rw [e] at h
 exact ⟨h.1, by rw [h.2]; simp⟩
theorem c3j (t2 : TypeId) (cx cy : Bool) (a0 : Int) (a1 : Int) (b0 : Int) (b1 : Int) : kT prog .eql 52 t2 cx cy (.agg #[.int .i64 a0, .int .i64 a1]) (.agg #[.int .i64 b0, .int .i64 b1]) = some (.bool (decide (a0 = b0 ∧ a1 = b1))) := (c4d t2 cx cy a0 a1 b0 b1).1
theorem c4B (t2 : TypeId) (cx cy : Bool) (a0 : Int) (a1 : Int) (b0 : Int) (b1 : Int) : kT prog .neq 52 t2 cx cy (.agg #[.int .i64 a0, .int .i64 a1]) (.agg #[.int .i64 b0, .int .i64 b1]) = some (.bool (decide (¬ (a0 = b0 ∧ a1 = b1)))) := (c4d t2 cx cy a0 a1 b0 b1).2
theorem c2F (t2 : TypeId) (cx cy : Bool) (a0 : Int) (a1 : Int) (b0 : Int) (b1 : Int) : kT prog .eql 70 t2 cx cy (.agg #[.int .i64 a0, .int .i64 a1]) (.agg #[.int .i64 b0, .int .i64 b1]) = some (.bool (decide (a0 = b0 ∧ a1 = b1))) ∧ kT prog .neq 70 t2 cx cy (.agg #[.int .i64 a0, .int .i64 a1]) (.agg #[.int .i64 b0, .int .i64 b1]) = some (.bool (decide (¬ (a0 = b0 ∧ a1 = b1)))) := by
 have h := yL (P := prog) (t := 70) (t2 := t2) (cx := cx) (cy := cy) (xs := [.int .i64 a0, .int .i64 a1]) (ys := [.int .i64 b0, .int .i64 b1]) (by kernel_rfl) (by kernel_rfl) (by kernel_rfl) (by kernel_rfl) rfl (by kernel_rfl) rfl rfl
 have e : ((List.range [Value.int .i64 a0, .int .i64 a1].length).all fun j => eqC ([Value.int .i64 a0, .int .i64 a1].getD j undef) ([Value.int .i64 b0, .int .i64 b1].getD j undef)) = decide (a0 = b0 ∧ a1 = b1) := by
  show (eqC (Value.int .i64 a0) (.int .i64 b0) && (eqC (Value.int .i64 a1) (.int .i64 b1) && true)) = _
  rw [dV]
  simp [eqC]
 rw [e] at h
 exact ⟨h.1, by rw [h.2]; simp⟩
theorem c2K (t2 : TypeId) (cx cy : Bool) (a0 : Int) (a1 : Int) (b0 : Int) (b1 : Int) : kT prog .eql 70 t2 cx cy (.agg #[.int .i64 a0, .int .i64 a1]) (.agg #[.int .i64 b0, .int .i64 b1]) = some (.bool (decide (a0 = b0 ∧ a1 = b1))) := (c2F t2 cx cy a0 a1 b0 b1).1
theorem c2z (t2 : TypeId) (cx cy : Bool) (a0 : Int) (a1 : Int) (b0 : Int) (b1 : Int) : kT prog .neq 70 t2 cx cy (.agg #[.int .i64 a0, .int .i64 a1]) (.agg #[.int .i64 b0, .int .i64 b1]) = some (.bool (decide (¬ (a0 = b0 ∧ a1 = b1)))) := (c2F t2 cx cy a0 a1 b0 b1).2
theorem c0c (t2 : TypeId) (cx cy : Bool) (a0 : Int) (a1 : Int) (b0 : Int) (b1 : Int) : kT prog .eql 100 t2 cx cy (.agg #[.int .u64 a0, .int .u64 a1]) (.agg #[.int .u64 b0, .int .u64 b1]) = some (.bool (decide (a0 = b0 ∧ a1 = b1))) ∧ kT prog .neq 100 t2 cx cy (.agg #[.int .u64 a0, .int .u64 a1]) (.agg #[.int .u64 b0, .int .u64 b1]) = some (.bool (decide (¬ (a0 = b0 ∧ a1 = b1)))) := by
 have h := yL (P := prog) (t := 100) (t2 := t2) (cx := cx) (cy := cy) (xs := [.int .u64 a0, .int .u64 a1]) (ys := [.int .u64 b0, .int .u64 b1]) (by kernel_rfl) (by kernel_rfl) (by kernel_rfl) (by kernel_rfl) rfl (by kernel_rfl) rfl rfl
 have e : ((List.range [Value.int .u64 a0, .int .u64 a1].length).all fun j => eqC ([Value.int .u64 a0, .int .u64 a1].getD j undef) ([Value.int .u64 b0, .int .u64 b1].getD j undef)) = decide (a0 = b0 ∧ a1 = b1) := by
  show (eqC (Value.int .u64 a0) (.int .u64 b0) && (eqC (Value.int .u64 a1) (.int .u64 b1) && true)) = _
  rw [dV]
  simp [eqC]
 rw [e] at h
 exact ⟨h.1, by rw [h.2]; simp⟩
theorem c0x (t2 : TypeId) (cx cy : Bool) (a0 : Int) (a1 : Int) (b0 : Int) (b1 : Int) : kT prog .eql 100 t2 cx cy (.agg #[.int .u64 a0, .int .u64 a1]) (.agg #[.int .u64 b0, .int .u64 b1]) = some (.bool (decide (a0 = b0 ∧ a1 = b1))) := (c0c t2 cx cy a0 a1 b0 b1).1
theorem c2a (t2 : TypeId) (cx cy : Bool) (a0 : Int) (a1 : Int) (b0 : Int) (b1 : Int) : kT prog .neq 100 t2 cx cy (.agg #[.int .u64 a0, .int .u64 a1]) (.agg #[.int .u64 b0, .int .u64 b1]) = some (.bool (decide (¬ (a0 = b0 ∧ a1 = b1)))) := (c0c t2 cx cy a0 a1 b0 b1).2
theorem c0e (t2 : TypeId) (cx cy : Bool) (a0 : Int) (a1 : Int) (b0 : Int) (b1 : Int) : kT prog .eql 152 t2 cx cy (.agg #[.int .i64 a0, .int .i64 a1]) (.agg #[.int .i64 b0, .int .i64 b1]) = some (.bool (decide (a0 = b0 ∧ a1 = b1))) ∧ kT prog .neq 152 t2 cx cy (.agg #[.int .i64 a0, .int .i64 a1]) (.agg #[.int .i64 b0, .int .i64 b1]) = some (.bool (decide (¬ (a0 = b0 ∧ a1 = b1)))) := by
 have h := yL (P := prog) (t := 152) (t2 := t2) (cx := cx) (cy := cy) (xs := [.int .i64 a0, .int .i64 a1]) (ys := [.int .i64 b0, .int .i64 b1]) (by kernel_rfl) (by kernel_rfl) (by kernel_rfl) (by kernel_rfl) rfl (by kernel_rfl) rfl rfl
 have e : ((List.range [Value.int .i64 a0, .int .i64 a1].length).all fun j => eqC ([Value.int .i64 a0, .int .i64 a1].getD j undef) ([Value.int .i64 b0, .int .i64 b1].getD j undef)) = decide (a0 = b0 ∧ a1 = b1) := by
  show (eqC (Value.int .i64 a0) (.int .i64 b0) && (eqC (Value.int .i64 a1) (.int .i64 b1) && true)) = _
  rw [dV]
  simp [eqC]
 rw [e] at h
 exact ⟨h.1, by rw [h.2]; simp⟩
theorem c0I (t2 : TypeId) (cx cy : Bool) (a0 : Int) (a1 : Int) (b0 : Int) (b1 : Int) : kT prog .eql 152 t2 cx cy (.agg #[.int .i64 a0, .int .i64 a1]) (.agg #[.int .i64 b0, .int .i64 b1]) = some (.bool (decide (a0 = b0 ∧ a1 = b1))) := (c0e t2 cx cy a0 a1 b0 b1).1
theorem c2k (t2 : TypeId) (cx cy : Bool) (a0 : Int) (a1 : Int) (b0 : Int) (b1 : Int) : kT prog .neq 152 t2 cx cy (.agg #[.int .i64 a0, .int .i64 a1]) (.agg #[.int .i64 b0, .int .i64 b1]) = some (.bool (decide (¬ (a0 = b0 ∧ a1 = b1)))) := (c0e t2 cx cy a0 a1 b0 b1).2
theorem a8A {a1 : Int} {a2 : Int} {a3 : Int} : kS prog 29 [(0, .int .u16 a1), (1, .int .u16 a2), (2, .int .u16 a3)] = some (.agg #[.int .u16 a1, .int .u16 a2, .int .u16 a3]) := by kernel_rfl
theorem c1d {a1 : ByteArray} : kS prog 36 [(0, .string a1)] = some (.agg #[.string a1, .slice none 0 0, .slice none 0 0, .slice none 0 0]) := by kernel_rfl
theorem a5c {a1 : ByteArray} {a2 : Value} {a3 : Value} {a4 : Value} (h2 : a2.cells = #[a2] ∧ oneCell a2 = true ∧ pC a2 = true) (h3 : a3.cells = #[a3] ∧ oneCell a3 = true ∧ pC a3 = true) (h4 : a4.cells = #[a4] ∧ oneCell a4 = true ∧ pC a4 = true) : kS prog 36 [(0, .string a1), (1, a2), (2, a3), (3, a4)] = some (.agg #[.string a1, a2, a3, a4]) := by cases a2 <;> cases a3 <;> cases a4 <;> first | (exfalso; simp [oneCell] at h2; done) | (exfalso; simp [oneCell] at h3; done) | (exfalso; simp [oneCell] at h4; done) | kernel_rfl
theorem b6B {a1 : Value} {a2 : Int} (h1 : a1.cells = #[a1] ∧ oneCell a1 = true ∧ pC a1 = true) : kS prog 41 [(0, a1), (1, .int .u64 a2)] = some (.agg #[a1, .int .u64 a2, .int .u64 0]) := by cases a1 <;> first | (exfalso; simp [oneCell] at h1; done) | kernel_rfl
theorem b5e {a1 : Int} {a2 : Int} : kS prog 41 [(1, .int .u64 a1), (2, .int .u64 a2)] = some (.agg #[.slice none 0 0, .int .u64 a1, .int .u64 a2]) := by kernel_rfl
theorem qK {a1 : Int} {a2 : Int} : kS prog 52 [(0, .int .i64 a1), (1, .int .i64 a2)] = some (.agg #[.int .i64 a1, .int .i64 a2]) := by kernel_rfl
theorem b9H : kS prog 70 [] = some (.agg #[.int .i64 0, .int .i64 0]) := by kernel_rfl
theorem zA {a1 : Int} {a2 : Int} : kS prog 70 [(0, .int .i64 a1), (1, .int .i64 a2)] = some (.agg #[.int .i64 a1, .int .i64 a2]) := by kernel_rfl
theorem uH {a1 : Int} {a2 : Int} : kS prog 88 [(0, .int .i64 a1), (1, .int .i64 a2)] = some (.agg #[.int .i64 a1, .int .i64 a2]) := by kernel_rfl
theorem a5x {a1 : ByteArray} {a2 : ByteArray} {a3 : Int} {a4 : Int} {a5 : Int} : kS prog 91 [(0, .string a1), (1, .string a2), (2, .agg #[.int .i64 a3, .int .i64 a4]), (3, .int .i64 a5)] = some (.agg #[.string a1, .string a2, .int .i64 a3, .int .i64 a4, .int .i64 a5, .slice none 0 0]) := by kernel_rfl
theorem a1I {a1 : ByteArray} {a2 : ByteArray} {a3 : Int} {a4 : Int} {a5 : Int} {a6 : Value} (h6 : a6.cells = #[a6] ∧ oneCell a6 = true ∧ pC a6 = true) : kS prog 91 [(0, .string a1), (1, .string a2), (2, .agg #[.int .i64 a3, .int .i64 a4]), (3, .int .i64 a5), (4, a6)] = some (.agg #[.string a1, .string a2, .int .i64 a3, .int .i64 a4, .int .i64 a5, a6]) := by cases a6 <;> first | (exfalso; simp [oneCell] at h6; done) | kernel_rfl
theorem a7W {a1 : Int} {a2 : Int} {a3 : Int} : kS prog 94 [(0, .agg #[.int .i64 a1, .int .i64 a2]), (1, .int .i64 a3)] = some (.agg #[.int .i64 a1, .int .i64 a2, .int .i64 a3]) := by kernel_rfl
theorem b5R : kS prog 100 [] = some (.agg #[.int .u64 0, .int .u64 0]) := by kernel_rfl
theorem b1P {a1 : Int} {a2 : Int} : kS prog 100 [(0, .int .u64 a1), (1, .int .u64 a2)] = some (.agg #[.int .u64 a1, .int .u64 a2]) := by kernel_rfl
theorem a3j {a1 : Int} {a2 : Int} : kS prog 112 [(0, .int .i64 a1), (1, .int .i64 a2)] = some (.agg #[.int .i64 a1, .int .i64 a2]) := by kernel_rfl
theorem a6l {a1 : ByteArray} {a2 : Bool} {a3 : Int} {a4 : Int} : kS prog 115 [(0, .string a1), (1, .bool a2), (2, .agg #[.int .i64 a3, .int .i64 a4])] = some (.agg #[.string a1, .bool a2, .int .i64 a3, .int .i64 a4, .slice none 0 0]) := by kernel_rfl
theorem a0B {a1 : ByteArray} {a2 : Int} {a3 : Int} {a4 : Value} (h4 : a4.cells = #[a4] ∧ oneCell a4 = true ∧ pC a4 = true) : kS prog 115 [(0, .string a1), (2, .agg #[.int .i64 a2, .int .i64 a3]), (3, a4)] = some (.agg #[.string a1, .bool false, .int .i64 a2, .int .i64 a3, a4]) := by cases a4 <;> first | (exfalso; simp [oneCell] at h4; done) | kernel_rfl
theorem b3d {a1 : ByteArray} {a2 : Int} {a3 : Int} : kS prog 118 [(0, .string a1), (1, .agg #[.int .i64 a2, .int .i64 a3])] = some (.agg #[.string a1, .int .i64 a2, .int .i64 a3, .slice none 0 0]) := by kernel_rfl
theorem a7e {a1 : ByteArray} {a2 : Int} {a3 : Int} {a4 : Value} (h4 : a4.cells = #[a4] ∧ oneCell a4 = true ∧ pC a4 = true) : kS prog 118 [(0, .string a1), (1, .agg #[.int .i64 a2, .int .i64 a3]), (2, a4)] = some (.agg #[.string a1, .int .i64 a2, .int .i64 a3, a4]) := by cases a4 <;> first | (exfalso; simp [oneCell] at h4; done) | kernel_rfl
theorem a7K {a1 : ByteArray} {a2 : Int} {a3 : Int} : kS prog 125 [(0, .string a1), (1, .int .i64 a2), (2, .int .i64 a3)] = some (.agg #[.string a1, .int .i64 a2, .int .i64 a3, .int .i64 0, .bool false]) := by kernel_rfl
theorem a0P {a1 : ByteArray} {a2 : Int} {a3 : Int} {a4 : Int} {a5 : Bool} : kS prog 125 [(0, .string a1), (1, .int .i64 a2), (2, .int .i64 a3), (3, .int .i64 a4), (4, .bool a5)] = some (.agg #[.string a1, .int .i64 a2, .int .i64 a3, .int .i64 a4, .bool a5]) := by kernel_rfl
theorem c0D : kS prog 150 [] = some (.agg #[.int .i64 0, .int .i64 0, .slice none 0 0]) := by kernel_rfl
theorem lF {a1 : Int} {a2 : Int} {a3 : Value} (h3 : a3.cells = #[a3] ∧ oneCell a3 = true ∧ pC a3 = true) : kS prog 150 [(0, .int .i64 a1), (1, .int .i64 a2), (2, a3)] = some (.agg #[.int .i64 a1, .int .i64 a2, a3]) := by cases a3 <;> first | (exfalso; simp [oneCell] at h3; done) | kernel_rfl
theorem qB {a1 : Int} {a2 : Int} : kS prog 152 [(0, .int .i64 a1), (1, .int .i64 a2)] = some (.agg #[.int .i64 a1, .int .i64 a2]) := by kernel_rfl
theorem b2N {a1 : Value} {a2 : Int} {a3 : Int} (h1 : a1.cells = #[a1] ∧ oneCell a1 = true ∧ pC a1 = true) : kS prog 194 [(0, a1), (1, .agg #[.int .i64 a2, .int .i64 a3])] = some (.agg #[a1, .int .i64 a2, .int .i64 a3]) := by cases a1 <;> first | (exfalso; simp [oneCell] at h1; done) | kernel_rfl
theorem b2H {a1 : Int} {a2 : Int} : kS prog 219 [(0, .int .u64 a1), (1, .int .u64 a2)] = some (.agg #[.int .u64 a1, .int .u64 a2]) := by kernel_rfl
theorem tR6 (l : List Value) (H : Heap) : iB prog Tryz.f6 l H = some (get l 6) := rfl
theorem c6p (l : List Value) (H : Heap) : iB prog Tryz.f10 l H = some (get l 0) := rfl
theorem a9h (l : List Value) (H : Heap) : iB prog Tryz.f11 l H = some (get l 2) := rfl
theorem c5b (l : List Value) (H : Heap) : iB prog Tryz.f12 l H = pL (jQ prog 36) (iD prog 36) H (get l 2) := by
 show (Option.bind (Option.bind (lO prog H 36 (get l 2)) fun v => some [v]) fun vs => _) = _
 rw [lL]
 cases pL _ _ H (get l 2) <;> rfl
theorem c4Y (l : List Value) (H : Heap) : iB prog Tryz.f13 l H = pL (jQ prog 41) (iD prog 41) H (get l 4) := by
 show (Option.bind (Option.bind (lO prog H 41 (get l 4)) fun v => some [v]) fun vs => _) = _
 rw [lL]
 cases pL _ _ H (get l 4) <;> rfl
theorem c5C (l : List Value) (H : Heap) : iB prog Tryz.f14 l H = some (get l 4) := rfl
theorem c3Z (l : List Value) (H : Heap) : iB prog Tryz.f15 l H = if (jU (get l 6) && (jU (get l 7) && true)) = true then some (.tuple #[get l 6, get l 7]) else none := rfl
theorem c1g (l : List Value) (H : Heap) : iB prog Tryz.f16 l H = some (get l 4) := rfl
theorem c5k (l : List Value) (H : Heap) : iB prog Tryz.f17 l H = some (get l 6) := rfl
theorem b2m (l : List Value) (H : Heap) : iB prog Tryz.f18 l H = some (get l 4) := rfl
theorem b8f (l : List Value) (H : Heap) : iB prog Tryz.f19 l H = some (get l 4) := rfl
theorem c3z (l : List Value) (H : Heap) : iB prog Tryz.f20 l H = if (jU (get l 6) && (jU (get l 7) && true)) = true then some (.tuple #[get l 6, get l 7]) else none := rfl
theorem c3k (l : List Value) (H : Heap) : iB prog Tryz.f21 l H = if (jU (get l 8) && (jU (get l 9) && (jU (get l 10) && true))) = true then some (.tuple #[get l 8, get l 9, get l 10]) else none := rfl
theorem c5N (l : List Value) (H : Heap) : iB prog Tryz.f24 l H = some (get l 4) := rfl
theorem c6g (l : List Value) (H : Heap) : iB prog Tryz.f25 l H = some (get l 6) := rfl
theorem c0S (l : List Value) (H : Heap) : iB prog Tryz.f26 l H = some (get l 4) := rfl
theorem c5y (l : List Value) (H : Heap) : iB prog Tryz.f32 l H = some (get l 6) := rfl
theorem a2R (l : List Value) (H : Heap) : iB prog Tryz.f35 l H = some (get l 2) := rfl
theorem c5D (l : List Value) (H : Heap) : iB prog Tryz.f36 l H = if (jU (get l 6) && (jU (get l 7) && true)) = true then some (.tuple #[get l 6, get l 7]) else none := rfl
theorem c5M (l : List Value) (H : Heap) : iB prog Tryz.f38 l H = some (.tuple #[]) := rfl
theorem c2q (l : List Value) (H : Heap) : iB prog Tryz.f40 l H = some (get l 4) := rfl
theorem c5u (l : List Value) (H : Heap) : iB prog Tryz.f41 l H = pL (jQ prog 36) (iD prog 36) H (get l 0) := by
 show (Option.bind (Option.bind (lO prog H 36 (get l 0)) fun v => some [v]) fun vs => _) = _
 rw [lL]
 cases pL _ _ H (get l 0) <;> rfl
theorem c5a (l : List Value) (H : Heap) : iB prog Tryz.f42 l H = (pL (jQ prog 100) (iD prog 100) H (get l 2)).bind fun v => if (jU v && (jU (get l 3) && true)) = true then some (.tuple #[v, get l 3]) else none := by
 show (Option.bind (Option.bind (lO prog H 100 (get l 2)) fun v => some [v, get l 3]) fun vs => _) = _
 rw [lL]
 cases pL _ _ H (get l 2) <;> rfl
theorem c5n (l : List Value) (H : Heap) : iB prog Tryz.f43 l H = pL (jQ prog 91) (iD prog 91) H (get l 4) := by
 show (Option.bind (Option.bind (lO prog H 91 (get l 4)) fun v => some [v]) fun vs => _) = _
 rw [lL]
 cases pL _ _ H (get l 4) <;> rfl
theorem a8e (l : List Value) (H : Heap) : iB prog Tryz.f44 l H = pL (jQ prog 118) (iD prog 118) H (get l 8) := by
 show (Option.bind (Option.bind (lO prog H 118 (get l 8)) fun v => some [v]) fun vs => _) = _
 rw [lL]
 cases pL _ _ H (get l 8) <;> rfl
theorem c3r (l : List Value) (H : Heap) : iB prog Tryz.f45 l H = some (get l 6) := rfl
theorem c6n (l : List Value) (H : Heap) : iB prog Tryz.f46 l H = some (get l 6) := rfl
theorem c5v (l : List Value) (H : Heap) : iB prog Tryz.f47 l H = some (get l 2) := rfl
theorem c5B (l : List Value) (H : Heap) : iB prog Tryz.f48 l H = some (get l 4) := rfl
theorem c6r (l : List Value) (H : Heap) : iB prog Tryz.f49 l H = some (get l 6) := rfl
theorem c5Q (l : List Value) (H : Heap) : iB prog Tryz.f50 l H = some (get l 4) := rfl
theorem c4y (l : List Value) (H : Heap) : iB prog Tryz.f52 l H = some (get l 4) := rfl
theorem c5F (l : List Value) (H : Heap) : iB prog Tryz.f53 l H = (pL (jQ prog 100) (iD prog 100) H (get l 2)).bind fun v => if (jU v && (jU (get l 3) && true)) = true then some (.tuple #[v, get l 3]) else none := by
 show (Option.bind (Option.bind (lO prog H 100 (get l 2)) fun v => some [v, get l 3]) fun vs => _) = _
 rw [lL]
 cases pL _ _ H (get l 2) <;> rfl
theorem c6s (l : List Value) (H : Heap) : iB prog Tryz.f54 l H = some (get l 4) := rfl
theorem c5J (l : List Value) (H : Heap) : iB prog Tryz.f55 l H = some (get l 6) := rfl
theorem c5g (l : List Value) (H : Heap) : iB prog Tryz.f56 l H = some (get l 4) := rfl
theorem c4X (l : List Value) (H : Heap) : iB prog Tryz.f57 l H = some (get l 2) := rfl
theorem c3I (l : List Value) (H : Heap) : iB prog Tryz.f58 l H = some (get l 4) := rfl
theorem c2O (l : List Value) (H : Heap) : iB prog Tryz.f59 l H = some (get l 2) := rfl
theorem c5O (l : List Value) (H : Heap) : iB prog Tryz.f60 l H = some (get l 3) := rfl
theorem c5E (l : List Value) (H : Heap) : iB prog Tryz.f61 l H = some (get l 4) := rfl
theorem c3E (l : List Value) (H : Heap) : iB prog Tryz.f63 l H = some (get l 4) := rfl
theorem c1j (l : List Value) (H : Heap) : iB prog Tryz.f64 l H = some (get l 2) := rfl
theorem c5A (l : List Value) (H : Heap) : iB prog Tryz.f66 l H = some (get l 6) := rfl
theorem b5G (l : List Value) (H : Heap) : iB prog Tryz.f67 l H = some (get l 4) := rfl
theorem b8x (l : List Value) (H : Heap) : iB prog Tryz.f69 l H = some (get l 4) := rfl
theorem b3c (l : List Value) (H : Heap) : iB prog Tryz.f73 l H = some (get l 2) := rfl
theorem a9a (l : List Value) (H : Heap) : iB prog Tryz.f74 l H = some (get l 2) := rfl
theorem c2A (l : List Value) (H : Heap) : iB prog Tryz.f75 l H = some (get l 4) := rfl
theorem b4x (l : List Value) (H : Heap) : iB prog Tryz.f76 l H = some (get l 4) := rfl
theorem zZ (l : List Value) (H : Heap) : iB prog Tryz.f77 l H = some (get l 4) := rfl
theorem c6l (l : List Value) (H : Heap) : iB prog Tryz.f78 l H = if (jU (get l 4) && (jU (get l 5) && true)) = true then some (.tuple #[get l 4, get l 5]) else none := rfl
theorem c1e (l : List Value) (H : Heap) : iB prog Tryz.f80 l H = some (get l 4) := rfl
theorem c6h (l : List Value) (H : Heap) : iB prog Tryz.f82 l H = some (.tuple #[]) := rfl
theorem c5K (l : List Value) (H : Heap) : iB prog Tryz.f83 l H = some (get l 6) := rfl
theorem c5w (l : List Value) (H : Heap) : iB prog Tryz.f84 l H = pL (jQ prog 91) (iD prog 91) H (get l 2) := by
 show (Option.bind (Option.bind (lO prog H 91 (get l 2)) fun v => some [v]) fun vs => _) = _
 rw [lL]
 cases pL _ _ H (get l 2) <;> rfl
theorem c5e (l : List Value) (H : Heap) : iB prog Tryz.f85 l H = some (get l 2) := rfl
theorem c2M (l : List Value) (H : Heap) : iB prog Tryz.f86 l H = pL (jQ prog 100) (iD prog 100) H (get l 4) := by
 show (Option.bind (Option.bind (lO prog H 100 (get l 4)) fun v => some [v]) fun vs => _) = _
 rw [lL]
 cases pL _ _ H (get l 4) <;> rfl
theorem c6f (l : List Value) (H : Heap) : iB prog Tryz.f87 l H = pL (jQ prog 88) (iD prog 88) H (get l 2) := by
 show (Option.bind (Option.bind (lO prog H 88 (get l 2)) fun v => some [v]) fun vs => _) = _
 rw [lL]
 cases pL _ _ H (get l 2) <;> rfl
theorem c5t (l : List Value) (H : Heap) : iB prog Tryz.f88 l H = pL (jQ prog 88) (iD prog 88) H (get l 2) := by
 show (Option.bind (Option.bind (lO prog H 88 (get l 2)) fun v => some [v]) fun vs => _) = _
 rw [lL]
 cases pL _ _ H (get l 2) <;> rfl
theorem c2r (l : List Value) (H : Heap) : iB prog Tryz.f89 l H = some (get l 4) := rfl
theorem c4D (l : List Value) (H : Heap) : iB prog Tryz.f90 l H = some (.tuple #[]) := rfl
theorem c5Z (l : List Value) (H : Heap) : iB prog Tryz.f91 l H = some (get l 4) := rfl
theorem c1m (l : List Value) (H : Heap) : iB prog Tryz.f92 l H = some (get l 2) := rfl
theorem c5d (l : List Value) (H : Heap) : iB prog Tryz.f93 l H = some (.tuple #[]) := rfl
theorem c3K (l : List Value) (H : Heap) : iB prog Tryz.f94 l H = some (get l 4) := rfl
theorem b7X (l : List Value) (H : Heap) : iB prog Tryz.f97 l H = some (get l 2) := rfl
theorem c5p (l : List Value) (H : Heap) : iB prog Tryz.f98 l H = pL (jQ prog 100) (iD prog 100) H (get l 4) := by
 show (Option.bind (Option.bind (lO prog H 100 (get l 4)) fun v => some [v]) fun vs => _) = _
 rw [lL]
 cases pL _ _ H (get l 4) <;> rfl
theorem c3B (l : List Value) (H : Heap) : iB prog Tryz.f99 l H = if (jU (get l 6) && (jU (get l 7) && true)) = true then some (.tuple #[get l 6, get l 7]) else none := rfl
theorem c2S (l : List Value) (H : Heap) : iB prog Tryz.f100 l H = some (get l 4) := rfl
theorem c3l (l : List Value) (H : Heap) : iB prog Tryz.f101 l H = some (get l 2) := rfl
theorem c4p (l : List Value) (H : Heap) : iB prog Tryz.f102 l H = some (get l 2) := rfl
theorem b9O (l : List Value) (H : Heap) : iB prog Tryz.f103 l H = some (get l 4) := rfl
theorem b9D (l : List Value) (H : Heap) : iB prog Tryz.f104 l H = some (get l 4) := rfl
theorem c4K (l : List Value) (H : Heap) : iB prog Tryz.f106 l H = some (get l 6) := rfl
theorem a5K (l : List Value) (H : Heap) : iB prog Tryz.f107 l H = some (get l 2) := rfl
theorem a7m (l : List Value) (H : Heap) : iB prog Tryz.f108 l H = some (get l 2) := rfl
theorem c0i (l : List Value) (H : Heap) : iB prog Tryz.f109 l H = some (get l 2) := rfl
theorem c0h (l : List Value) (H : Heap) : iB prog Tryz.f110 l H = some (get l 2) := rfl
theorem tF (l : List Value) (H : Heap) : iB prog Tryz.f111 l H = some (get l 4) := rfl
theorem c3g (l : List Value) (H : Heap) : iB prog Tryz.f112 l H = some (get l 4) := rfl
theorem c4Q (l : List Value) (H : Heap) : iB prog Tryz.f113 l H = some (get l 3) := rfl
theorem b9U (l : List Value) (H : Heap) : iB prog Tryz.f114 l H = some (get l 4) := rfl
theorem c4H (l : List Value) (H : Heap) : iB prog Tryz.f115 l H = some (get l 4) := rfl
theorem c3H (l : List Value) (H : Heap) : iB prog Tryz.f116 l H = some (get l 2) := rfl
theorem c4w (l : List Value) (H : Heap) : iB prog Tryz.f120 l H = some (.tuple #[]) := rfl
theorem c3N (l : List Value) (H : Heap) : iB prog Tryz.f122 l H = some (get l 4) := rfl
theorem b9V (l : List Value) (H : Heap) : iB prog Tryz.f123 l H = some (get l 2) := rfl
theorem c2I (l : List Value) (H : Heap) : iB prog Tryz.f134 l H = some (get l 4) := rfl
theorem c3C (l : List Value) (H : Heap) : iB prog Tryz.f135 l H = some (.tuple #[]) := rfl
theorem c2Y (l : List Value) (H : Heap) : iB prog Tryz.f136 l H = some (get l 2) := rfl
theorem b9Z (l : List Value) (H : Heap) : iB prog Tryz.f145 l H = pL (jQ prog 150) (iD prog 150) H (get l 4) := by
 show (Option.bind (Option.bind (lO prog H 150 (get l 4)) fun v => some [v]) fun vs => _) = _
 rw [lL]
 cases pL _ _ H (get l 4) <;> rfl
theorem b0S (l : List Value) (H : Heap) : iB prog Tryz.f146 l H = (pL (jQ prog 70) (iD prog 70) H (get l 6)).bind fun v => if (jU v && (jU (get l 7) && true)) = true then some (.tuple #[v, get l 7]) else none := by
 show (Option.bind (Option.bind (lO prog H 70 (get l 6)) fun v => some [v, get l 7]) fun vs => _) = _
 rw [lL]
 cases pL _ _ H (get l 6) <;> rfl
theorem c4o (l : List Value) (H : Heap) : iB prog Tryz.f147 l H = some (get l 2) := rfl
theorem a3O (l : List Value) (H : Heap) : iB prog Tryz.f148 l H = some (get l 2) := rfl
theorem c4h (l : List Value) (H : Heap) : iB prog Tryz.f149 l H = some (get l 4) := rfl
theorem b9W (l : List Value) (H : Heap) : iB prog Tryz.f150 l H = some (get l 2) := rfl
theorem b5y (l : List Value) (H : Heap) : iB prog Tryz.f151 l H = some (get l 2) := rfl
theorem a2s (l : List Value) (H : Heap) : iB prog Tryz.f152 l H = some (get l 4) := rfl
theorem c0n (l : List Value) (H : Heap) : iB prog Tryz.f153 l H = some (get l 4) := rfl
theorem c0j (l : List Value) (H : Heap) : iB prog Tryz.f177 l H = some (get l 4) := rfl
theorem c0d (l : List Value) (H : Heap) : iB prog Tryz.f178 l H = some (get l 3) := rfl
theorem c3F (l : List Value) (H : Heap) : iB prog Tryz.f179 l H = some (get l 4) := rfl
theorem c3V (l : List Value) (H : Heap) : iB prog Tryz.f180 l H = some (get l 4) := rfl
theorem b9J (l : List Value) (H : Heap) : iB prog Tryz.f181 l H = some (get l 2) := rfl
theorem b9A (l : List Value) (H : Heap) : iB prog Tryz.f182 l H = some (get l 4) := rfl
theorem c3Y (l : List Value) (H : Heap) : iB prog Tryz.f183 l H = some (get l 4) := rfl
theorem b9G (l : List Value) (H : Heap) : iB prog Tryz.f205 l H = some (get l 4) := rfl
theorem a6y : MapK prog 158 Value.string (.bool false) := MapK.str (kt := 9) (et := 4) (by kernel_rfl) (by kernel_rfl) (by kernel_rfl) rfl
theorem a7y : MapK prog 173 (fun p : Int × Int => .agg #[I p.1, I p.2]) (.bool false) := MapK.struct (kt := 52) (et := 4) (fs := (tS prog 52).toArray) (by kernel_rfl) (by kernel_rfl) (by kernel_rfl) rfl (fun b k => by cases b <;> kernel_rfl) (fun a b => c2c (by kernel_rfl) (by kernel_rfl) (by kernel_rfl) (fun _ _ _ _ => by kernel_rfl) a b) (fun k => c0J k)
theorem tt0 : jQ prog 3 = some false ∧ jQ prog 4 = some false ∧ iD prog 4 = some 1 ∧ jQ prog 5 = some false ∧ iD prog 5 = some 1 ∧ jQ prog 9 = some false ∧ iD prog 9 = some 1 ∧ jQ prog 22 = some false ∧ iD prog 22 = some 1 ∧ jQ prog 23 = some false ∧ iD prog 23 = some 1 ∧ jQ prog 24 = some false ∧ iD prog 24 = some 1 ∧ jQ prog 26 = some true ∧ jQ prog 27 = some true ∧ jQ prog 28 = some false ∧ iD prog 28 = some 1 ∧ jQ prog 29 = some true ∧ jQ prog 32 = some false ∧ jQ prog 33 = some false ∧ jQ prog 34 = some false ∧ jQ prog 36 = some true ∧ jQ prog 38 = some false ∧ jQ prog 39 = some false ∧ jQ prog 41 = some true ∧ jQ prog 46 = some false ∧ jQ prog 52 = some true ∧ jQ prog 58 = some false ∧ jQ prog 70 = some true ∧ jQ prog 88 = some true ∧ jQ prog 89 = some false ∧ jQ prog 91 = some true ∧ jQ prog 94 = some true ∧ iD prog 94 = some 3 ∧ jQ prog 100 = some true ∧ jQ prog 103 = some false ∧ iD prog 103 = some 1 ∧ jQ prog 105 = some true ∧ jQ prog 107 = some false ∧ iD prog 107 = some 1 := by and_intros <;> kernel_rfl
theorem tt1 : jQ prog 109 = some true ∧ jQ prog 112 = some true ∧ jQ prog 113 = some false ∧ jQ prog 115 = some true ∧ jQ prog 116 = some false ∧ jQ prog 118 = some true ∧ jQ prog 121 = some true ∧ jQ prog 123 = some true ∧ jQ prog 125 = some true ∧ jQ prog 148 = some false ∧ iD prog 148 = some 1 ∧ jQ prog 150 = some true ∧ jQ prog 152 = some true ∧ jQ prog 173 = some false ∧ jQ prog 194 = some true ∧ iR prog 22 = some 9 ∧ iR prog 23 = some 4 ∧ iR prog 24 = some 4 ∧ iR prog 32 = some 6 ∧ iR prog 33 = some 5 ∧ iR prog 34 = some 5 ∧ iR prog 38 = some 1 ∧ iR prog 44 = some 2 ∧ iR prog 46 = some 2 ∧ iR prog 58 = some 2 ∧ iR prog 83 = some 3 ∧ iR prog 103 = some 4 ∧ iR prog 110 = some 1 ∧ iR prog 113 = some 4 ∧ iR prog 116 = some 3 ∧ iR prog 127 = some 3 ∧ iR prog 148 = some 2 ∧ iR prog 155 = some 1 ∧ iR prog 156 = some 2 ∧ iR prog 205 = some 2 ∧ lD prog 32 = true ∧ lD prog 33 = true ∧ lD prog 34 = true ∧ lD prog 38 = true ∧ lD prog 44 = true := by and_intros <;> kernel_rfl
theorem tt2 : lD prog 46 = true ∧ lD prog 58 = true ∧ lD prog 83 = true ∧ lD prog 89 = true ∧ lD prog 110 = true ∧ lD prog 113 = true ∧ lD prog 116 = true ∧ lD prog 127 = true ∧ lD prog 148 = true ∧ lD prog 155 = true ∧ lD prog 156 = true ∧ lD prog 205 = true ∧ iR prog 9 = none ∧ oI prog 9 = true ∧ iV prog 26 0 = some 0 ∧ iV prog 26 1 = some 1 ∧ iV prog 26 2 = some 2 ∧ iV prog 36 0 = some 0 ∧ iV prog 36 1 = some 1 ∧ iV prog 36 2 = some 2 ∧ iV prog 36 3 = some 3 ∧ iV prog 41 0 = some 0 ∧ iV prog 41 1 = some 1 ∧ iV prog 41 2 = some 2 ∧ iV prog 52 0 = some 0 ∧ iV prog 52 1 = some 1 ∧ iV prog 70 0 = some 0 ∧ iV prog 70 1 = some 1 ∧ iV prog 88 0 = some 0 ∧ iV prog 88 1 = some 1 ∧ iV prog 91 0 = some 0 ∧ iV prog 91 1 = some 1 ∧ iV prog 91 2 = some 2 ∧ iV prog 91 3 = some 4 ∧ iV prog 91 4 = some 5 ∧ iV prog 100 0 = some 0 ∧ iV prog 100 1 = some 1 ∧ iV prog 105 0 = some 0 ∧ iV prog 105 1 = some 1 ∧ iV prog 105 2 = some 2 := by and_intros <;> kernel_rfl
theorem tt3 : iV prog 105 3 = some 3 ∧ iV prog 109 0 = some 0 ∧ iV prog 109 1 = some 1 ∧ iV prog 109 2 = some 2 ∧ iV prog 109 3 = some 3 ∧ iV prog 109 4 = some 4 ∧ iV prog 112 0 = some 0 ∧ iV prog 112 1 = some 1 ∧ iV prog 115 0 = some 0 ∧ iV prog 115 2 = some 2 ∧ iV prog 115 3 = some 4 ∧ iV prog 118 0 = some 0 ∧ iV prog 118 1 = some 1 ∧ iV prog 118 2 = some 3 ∧ iV prog 121 0 = some 0 ∧ iV prog 121 1 = some 1 ∧ iV prog 121 2 = some 2 ∧ iV prog 121 3 = some 3 ∧ iV prog 123 0 = some 0 ∧ iV prog 123 1 = some 1 ∧ iV prog 123 2 = some 2 ∧ iV prog 123 3 = some 3 ∧ iV prog 125 0 = some 0 ∧ iV prog 125 1 = some 1 ∧ iV prog 125 2 = some 2 ∧ iV prog 125 3 = some 3 ∧ iV prog 125 4 = some 4 ∧ iV prog 150 0 = some 0 ∧ iV prog 150 1 = some 1 ∧ iV prog 150 2 = some 2 ∧ iV prog 152 0 = some 0 ∧ iV prog 152 1 = some 1 ∧ iV prog 194 0 = some 0 ∧ iV prog 194 1 = some 1 ∧ iZ prog 36 = some (.agg #[.string ⟨#[]⟩, .slice none 0 0, .slice none 0 0, .slice none 0 0]) ∧ jR prog 36 = none ∧ iZ prog 41 = some (.agg #[.slice none 0 0, .int .u64 0, .int .u64 0]) ∧ jR prog 41 = none ∧ iZ prog 46 = some (.slice none 0 0) ∧ jR prog 46 = none := by and_intros <;> kernel_rfl
theorem tt4 : iZ prog 52 = some (.agg #[.int .i64 0, .int .i64 0]) ∧ jR prog 52 = none ∧ iZ prog 70 = some (.agg #[.int .i64 0, .int .i64 0]) ∧ jR prog 70 = none ∧ iZ prog 88 = some (.agg #[.int .i64 0, .int .i64 0]) ∧ jR prog 88 = none ∧ iZ prog 91 = some (.agg #[.string ⟨#[]⟩, .string ⟨#[]⟩, .int .i64 0, .int .i64 0, .int .i64 0, .slice none 0 0]) ∧ jR prog 91 = none ∧ iZ prog 100 = some (.agg #[.int .u64 0, .int .u64 0]) ∧ jR prog 100 = none ∧ iZ prog 105 = some (.agg #[.int .u8 0, .int .u8 0, .bool false, .slice none 0 0]) ∧ jR prog 105 = none ∧ iZ prog 112 = some (.agg #[.int .i64 0, .int .i64 0]) ∧ jR prog 112 = none ∧ iZ prog 115 = some (.agg #[.string ⟨#[]⟩, .bool false, .int .i64 0, .int .i64 0, .slice none 0 0]) ∧ jR prog 115 = none ∧ iZ prog 118 = some (.agg #[.string ⟨#[]⟩, .int .i64 0, .int .i64 0, .slice none 0 0]) ∧ jR prog 118 = none ∧ iZ prog 123 = some (.agg #[.int .u8 0, .int .u8 0, .int .i8 0, .bool false]) ∧ jR prog 123 = none ∧ iZ prog 125 = some (.agg #[.string ⟨#[]⟩, .int .i64 0, .int .i64 0, .int .i64 0, .bool false]) ∧ jR prog 125 = none ∧ iZ prog 150 = some (.agg #[.int .i64 0, .int .i64 0, .slice none 0 0]) ∧ jR prog 150 = none ∧ iZ prog 152 = some (.agg #[.int .i64 0, .int .i64 0]) ∧ jR prog 152 = none ∧ iZ prog 173 = some (.map none) ∧ jR prog 173 = none ∧ zW prog 3 = some .i64 ∧ zW prog 5 = some .u8 ∧ zW prog 28 = some .u16 ∧ zW prog 39 = some .u64 ∧ zW prog 72 = some .u64 ∧ zW prog 107 = some .i8 := by and_intros <;> kernel_rfl
def TS := (And.intro (And.intro (And.intro (And.intro (And.intro @tt0 (And.intro @tt1 @tt2)) (And.intro @tt3 (And.intro @tt4 @tS3))) (And.intro (And.intro @b8o (And.intro @b8R @c2R)) (And.intro @c3u (And.intro @c4M @b9n)))) (And.intro (And.intro (And.intro @mR (And.intro @c3S @b9q)) (And.intro @pE (And.intro @a8o @nI))) (And.intro (And.intro @c2G (And.intro @pH @zG)) (And.intro (And.intro @b8D @yO) (And.intro @lK @b1g))))) (And.intro (And.intro (And.intro (And.intro @b6u (And.intro @tN @b9y)) (And.intro @tO (And.intro @vY @nR))) (And.intro (And.intro @b4q (And.intro @b1m @tG)) (And.intro @xQ (And.intro @vX @b5n)))) (And.intro (And.intro (And.intro @b1c (And.intro @c1T @c5s)) (And.intro @c5R (And.intro @c4A @c3j))) (And.intro (And.intro @c4B (And.intro @c2K @c2z)) (And.intro (And.intro @c0x @c2a) (And.intro @c0I @c2k))))))
def RZ := And.intro @RB (And.intro @RC @TS)
end Go.Ds
