/-
  A part of the proof of DemandLists.
-/
import Derived.Test.YtbdbnfhkdmhobaaGreatDoorVA
import Derived.Test.YtbdbnfhkdmhobaaGreatDoorVB
import Derived.Test.YtbdbnfhkdmhobaaGreatDoorProg
import Derived.KernelRfl
import Derived.Lib.LaidTab
import Derived.Stop.LaidErr
import Derived.Laws.Strings
set_option linter.unusedVariables false
set_option linter.unusedSimpArgs false
set_option linter.defProp false
set_option linter.unusedSectionVars false
namespace Go.Ds
noncomputable section
inductive Pth where
 | z
 | l (p : Pth)
 | r (p : Pth)
inductive Fr where
 | e
 | n (v : Value) (l r : Fr)
def a5O : Nat → Nat → Pth := fun f => Nat.rec (motive := fun _ => Nat → Pth) (fun _ => .z) (fun _ ih k => Nat.rec (motive := fun _ => Pth) .z (fun k _ => Bool.rec (motive := fun _ => Pth) (.r (ih (Nat.div k 2))) (.l (ih (Nat.div k 2))) (Nat.beq (Nat.mod k 2) 0)) k) f
def kO (k : Nat) : Pth := a5O k k
def oG (p : Pth) : Fr → Value := Pth.rec (motive := fun _ => Fr → Value)
 (fun f => Fr.rec (motive := fun _ => Value) undef (fun v _ _ _ _ => v) f)
 (fun _ ih f => Fr.rec (motive := fun _ => Value) undef (fun _ l _ _ _ => ih l) f)
 (fun _ ih f => Fr.rec (motive := fun _ => Value) undef (fun _ _ r _ _ => ih r) f) p
def qE {α : Type} (v : Value) (p : Pth) : Fr → (Fr → α) → α := Pth.rec (motive := fun _ => Fr → (Fr → α) → α)
 (fun f K => Fr.rec (motive := fun _ => α) (K (.n v .e .e)) (fun _ l r _ _ => K (.n v l r)) f)
 (fun _ ih f K => Fr.rec (motive := fun _ => α) (ih .e fun l => K (.n undef l .e)) (fun w l r _ _ => ih l fun l => K (.n w l r)) f)
 (fun _ ih f K => Fr.rec (motive := fun _ => α) (ih .e fun r => K (.n undef .e r)) (fun w l r _ _ => ih r fun r => K (.n w l r)) f) p
def lL {α : Type} (p : Pth) : (Pth → α) → α := Pth.rec (motive := fun _ => (Pth → α) → α) (fun K => K .z) (fun _ ih K => ih fun p => K (.l p)) (fun _ ih K => ih fun p => K (.r p)) p
inductive LArg where
 | t (p : Pth)
 | c (v : Value)
def mQ (f : Fr) (x : LArg) : Value := LArg.rec (motive := fun _ => Value) (fun p => oG p f) (fun v => v) x
inductive Rs where
 | no
 | ok (v : Value) (H : Heap)
 | th (v : Value) (H : Heap)
def oR {α : Type} (v : Value) (K : Value → α) : α :=
 match v with
 | .bool b => K (.bool b)
 | .int k n => K (.int k n)
 | .string s => K (.string s)
 | .pointer a => K (.pointer a)
 | .slice a n c => K (.slice a n c)
 | .map r => K (.map r)
 | .func fn a b => K (.func fn a b)
 | .agg cs => K (.agg cs)
 | .tuple vs => K (.tuple vs)
 | v => K v
inductive LOp where
 | bad
 | mv (x : LArg)
 | pick (c a b : LArg)
 | bin (g : IntKind → Int → Int → Option Value) (x y : LArg)
 | not (x : LArg)
 | ld1 (x : LArg)
 | ldn (n : Nat) (x : LArg)
 | st (n : Nat) (x y : LArg)
 | fa (off : Nat) (x : LArg)
 | ixs (size : Nat) (x i : LArg)
 | ixa (n size : Nat) (x i : LArg)
 | ext (i : Nat) (x : LArg)
 | f1 (off : Nat) (x : LArg)
 | fn (off n : Nat) (x : LArg)
 | len (x : LArg)
 | slen (x : LArg)
 | app (elem size bytes : Nat) (x y : LArg)
 | alloc (t : TypeId) (cs : List Value)
 | callF (f : FuncId) (p : Pth) (args : List LArg)
 | callV (g : LArg) (args : List LArg)
 | gen (o : Oper)
inductive LOps where
 | nil
 | cons (d : Option Pth) (o : LOp) (rest : LOps)
 | gcons (p : Pth) (w : Bool) (d : Option Pth) (o : LOp) (rest : LOps)
inductive LCode where
 | bad
 | skip
 | reg (ops : LOps)
 | drw (ops : LOps) (tab : List (Nat × Option Nat × Option (Pth × Bool) × LOp))
 | seq (a b : LCode)
 | cond (c : LArg) (x y : LCode)
 | block (id : Nat) (b : LCode)
 | loop (b : LCode)
 | exit (id : Nat)
 | ret
 | range (g : LArg) (ps : List Pth) (pp : List Pth) (params : Array Tmp) (assign body : Code) (a b : LCode)
inductive LRes where
 | t (p : Pth)
 | c1 (p : Pth)
 | cn (n : Nat) (p : Pth)
structure LFunc where
 ps : List Pth
 body : LCode
 res : List LRes
inductive LT where
 | e
 | n (g : Option LFunc) (l r : LT)
def a2h (p : Pth) : LT → Option LFunc := Pth.rec (motive := fun _ => LT → Option LFunc)
 (fun f => LT.rec (motive := fun _ => Option LFunc) none (fun v _ _ _ _ => v) f)
 (fun _ ih f => LT.rec (motive := fun _ => Option LFunc) none (fun _ l _ _ _ => ih l) f)
 (fun _ ih f => LT.rec (motive := fun _ => Option LFunc) none (fun _ _ r _ _ => ih r) f) p
def sH {α : Type} (v : LFunc) (p : Pth) : LT → (LT → α) → α := Pth.rec (motive := fun _ => LT → (LT → α) → α)
 (fun f K => LT.rec (motive := fun _ => α) (K (.n (some v) .e .e)) (fun _ l r _ _ => K (.n (some v) l r)) f)
 (fun _ ih f K => LT.rec (motive := fun _ => α) (ih .e fun l => K (.n none l .e)) (fun w l r _ _ => ih l fun l => K (.n w l r)) f)
 (fun _ ih f K => LT.rec (motive := fun _ => α) (ih .e fun r => K (.n none .e r)) (fun w l r _ _ => ih r fun r => K (.n w l r)) f) p
structure LEnv where
 L : Nat
 ps : List Pth
 pp : List Pth
 a : LCode
 b : LCode
def c0i (P : Program) (o : Oper) (ρ : Operand → Value) (H : Heap) : Option (Value × Heap) :=
 if o.op.operands.toList.all (fun x => flat (ρ x)) then
  match iM P (execOp ρ o) with
  | some (.value v) => if flat v then some (v, H) else none
  | _ => none
 else none
def c1m (P : Program) (o : Oper) (ρ : Operand → Value) (H : Heap) : Option (Value × Heap) :=
 let keep (v : Option Value) : Option (Value × Heap) := v.map fun v => (v, H)
 let plain : Option (Value × Heap) := c0i P o ρ H
 match o.op with
 | .move x | .assign x => some (ρ x, H)
 | .pick c a b => match ρ c with | .bool t => some (if t then ρ a else ρ b, H) | _ => none
 | .alloc t => (jA P t).bind fun z => if jB z then qD P H t z else none
 | .box t x => xI P H t (ρ x)
 | .build t parts =>
   let ps := parts.toList.map fun (i, x) => (i, ρ x)
   if (jA P t).any jB && ps.all (fun x => x.2.cells.toList.all oneCell) then
    (P.built t ps).map fun cs => (.agg cs, H)
   else none
 | .buildSlice t len parts =>
   (iJ P t).bind fun elem => (iE P elem).bind fun size => (jA P elem).bind fun z =>
   let ps := parts.toList.map fun (i, x) => (i, ρ x)
   if len == 0 && ps.isEmpty && size != 0 then some (.slice (some ⟨H.length, 0, some 0⟩) 0 size, rU H elem []) else
   if jB z && ps.all (fun x => x.2.cells.toList.all oneCell) && len * size ≤ 2 ^ 24 && len * size != 0 && z.cells.size == size then
    (Instr.fill (fun i => some (i * size, size)) ((Array.range (len * size)).map (z.cells[· % z.cells.size]!)) ps).map fun cs =>
      (.slice (some ⟨H.length, 0, some cs.toList.length⟩) len size, rU H elem cs.toList)
   else none
 | .makeSlice t n c =>
   (iJ P t).bind fun elem => (iE P elem).bind fun size => (nX P elem).bind fun bytes => (jA P elem).bind fun z =>
   match ρ n, ρ c with
   | .int .i64 a, .int .i64 b =>
     if jB z && decide (a ≤ b) && 0 ≤ a && b * (bytes + 1) ≤ (pF : Int) && size != 0 && z.cells.size == size then
      let cs := if size = 1 then List.replicate b.toNat (z.cells[0]!) else (madeCells z.cells (b.toNat * size)).toList
      some (.slice (some ⟨H.length, 0, some cs.length⟩) a.toNat size, rU H elem cs)
     else none
   | _, _ => none
 | .load t a => keep (lN P H t (ρ a))
 | .store t a x => (qV P H t (ρ a) (ρ x)).map fun H => (undef, H)
 | .nilCheck x => match ρ x with
   | .pointer (some a) => some (.pointer (some a), H)
   | .func (.func f) a b => some (.func (.func f) a b, H)
   | _ => none
 | .fieldAddr s x f => match ρ x with
   | .pointer (some ⟨A, i, some e⟩) => (oN P s f).bind fun fd => (iE P fd.type).bind fun n => if n == 0 then none else some (.pointer (some ⟨A, i + fd.offset, some e⟩), H)
   | _ => none
 | .indexAddr t x ix => match P.underlying t, ρ x, ρ ix with
   | some (.slice elem), .slice (some ⟨A, i, some e⟩) n _, .int _ j => (iE P elem).bind fun size =>
     if 0 ≤ j && j < n then some (.pointer (some ⟨A, i + j.toNat * size, some e⟩), H) else none
   | some (.array n elem), .pointer (some ⟨A, i, some e⟩), .int _ j => (iE P elem).bind fun size =>
     if 0 ≤ j && j < n then some (.pointer (some ⟨A, i + j.toNat * size, some e⟩), H) else none
   | some (.array n elem), .pointer (some ⟨A, i, none⟩), .int _ j => (iE P elem).bind fun size =>
     if 0 ≤ j && j < n then some (.pointer (some ⟨A, i + j.toNat * size, none⟩), H) else none
   | _, _, _ => none
 | .slice t x lo hi none => if flat (ρ x) then plain else match jP P t with
   | some (n, elem) => keep (a5o P H n elem (ρ x) (lo.map ρ) (hi.map ρ))
   | none => keep (xM P t (ρ x) (lo.map ρ) (hi.map ρ))
 | .field t x f => if flat (ρ x) then plain else
   match ρ x with
   | .agg cs => (oN P t f).bind fun fd => match jQ P fd.type with
     | some true => (iE P fd.type).map fun n => (.agg (cs.extract fd.offset (fd.offset + n)), H)
     | some false => (cs[fd.offset]?).map fun v => (v, H)
     | none => none
   | _ => none
 | .extract t i => match ρ t with
   | .tuple vs => (vs[i]?).map fun v => (v, H)
   | _ => none
 | .makeFunc fn first captured => match fn with
   | .func f => if (first ++ captured).toList.all (fun x => pW (ρ x)) then some (.func (.func f) (first.map ρ) (captured.map ρ), H) else none
   | _ => none
 | .binOp op t x y _ => match op, ρ x, ρ y with
   | .eql, .slice (some _) _ _, .slice none 0 0 => if ((P.underlying t).map vS) == some true then some (.bool false, H) else none
   | .neq, .slice (some _) _ _, .slice none 0 0 => if ((P.underlying t).map vS) == some true then some (.bool true, H) else none
   | op, .int k a, .int k' b => if k = k' then (match mP op k a b with | some v => some (v, H) | none => plain) else plain
   | .eql, .pointer (some _), .pointer none => if tR P t then some (.bool false, H) else none
   | .neq, .pointer (some _), .pointer none => if tR P t then some (.bool true, H) else none
   | .eql, .pointer (some ⟨A, i, some e⟩), .pointer (some ⟨A', i', some e'⟩) => if tR P t && A == A' && i == i' && e == e' then some (.bool true, H) else none
   | .neq, .pointer (some ⟨A, i, some e⟩), .pointer (some ⟨A', i', some e'⟩) => if tR P t && A == A' && i == i' && e == e' then some (.bool false, H) else none
   | _, _, _ => plain
 | .call c => match c.callee with
   | .builtin .len => if c.args.size == 1 && c.argTypes.size == 1 then
      match (P.underlying (c.argTypes.getD 0 0)), ρ (c.args.getD 0 (.tmp 0)) with
      | some (.slice _), .slice a n k => keep (xJ H (.slice a n k))
      | some .string, .string s => keep (xJ H (.string s))
      | some (.map _ _), .map r => keep (xJ H (.map r))
      | _, _ => none
     else none
   | .builtin .append => if c.args.size == 2 && c.argTypes.size == 2 && ((P.underlying (c.argTypes.getD 1 0)).map qA) == some true then
      nS P H (c.argTypes.getD 0 0) (ρ (c.args.getD 0 (.tmp 0))) (ρ (c.args.getD 1 (.tmp 0)))
     else none
   | .builtin .copy => if c.args.size == 2 && c.argTypes.size == 2 then a0U P H (c.argTypes.getD 0 0) (ρ (c.args.getD 0 (.tmp 0))) (ρ (c.args.getD 1 (.tmp 0))) else none
   | .builtin .clear => if c.args.size == 1 && c.argTypes.size == 1 then tO P H (c.argTypes.getD 0 0) (ρ (c.args.getD 0 (.tmp 0))) else none
   | .builtin .cap => plain
   | .builtin .unsafeSliceData => if c.args.size == 1 && c.argTypes.size == 1 then match ρ (c.args.getD 0 (.tmp 0)) with
      | .slice (some a) n _ => if n == 0 then none else some (.pointer (some a), H)
      | _ => none
     else none
   | .builtin .unsafeString => if c.args.size == 2 && c.argTypes.size == 2 then vR P H (c.argTypes.getD 0 0) (ρ (c.args.getD 0 (.tmp 0))) (ρ (c.args.getD 1 (.tmp 0))) else none
   | .builtin .max => plain
   | .builtin .min => plain
   | _ => none
 | .unOp op _ x => match op, ρ x with
   | .not, .bool b => some (.bool (!b), H)
   | _, _ => plain
 | .makeMap t r => pV P H t (r.map ρ)
 | .lookup t x k c => keep (pS P H t (ρ x) (ρ k) c)
 | .mapUpdate t m k v => (a1t P H t (ρ m) (ρ k) (ρ v)).map fun H => (undef, H)
 | .mapEntry t m k => sX P H t (ρ m) (ρ k)
 | .entryStore _ m b v => (rT H (ρ m) (ρ b) (ρ v)).map fun H => (undef, H)
 | .convert s t x => if flat (ρ x) && !(lA P t) then plain else match ρ x with
   | .slice (some ⟨A, i, some e⟩) n _ => if lA P s && oO P t then keep ((jE H A i e n).bind fun l => (nK l).map .string) else none
   | .string b => if lA P t && oO P s && b.size ≤ 2 ^ 40 then (iJ P t).bind fun elem => some (.slice (some ⟨H.length, 0, some b.size⟩) b.size 1, b6L H elem (b.data.toList.map fun c => .int .u8 c.toNat)) else none
   | .pointer (some ⟨A, 0, some e⟩) => if a4v P H s t A e then some (.pointer (some ⟨A, 0, some e⟩), H) else none
   | _ => none
 | .index _ _ _ => plain
 | .makeInterface _ _ => plain
 | _ => none
def oD {α : Type} (b : Bool) (no : α) (x : α) : α := Bool.rec (motive := fun _ => α) no x b
def a8a {α : Type} (cs : List α) : Nat → Bool := List.rec (motive := fun _ => Nat → Bool) (fun e => Nat.beq e 0) (fun _ _ ih e => Nat.rec (motive := fun _ => Bool) true (fun m _ => ih m) e) cs
def a4C {α : Type} (cs : List α) : Nat → Bool := List.rec (motive := fun _ => Nat → Bool) (fun e => Nat.beq e 0) (fun _ _ ih e => Nat.rec (motive := fun _ => Bool) false (fun m _ => ih m) e) cs
def a1u {α : Type} (cs : List α) : Nat → Option α := List.rec (motive := fun _ => Nat → Option α) (fun _ => none) (fun v _ ih e => Nat.rec (motive := fun _ => Option α) (some v) (fun m _ => ih m) e) cs
def a1P {α : Type} (cs : List α) : Nat → (List α → Rs) → Rs := List.rec (motive := fun _ => Nat → (List α → Rs) → Rs) (fun n K => Nat.rec (motive := fun _ => Rs) (K []) (fun _ _ => .no) n) (fun v _ ih n K => Nat.rec (motive := fun _ => Rs) (K []) (fun m _ => ih m fun l => K (v :: l)) n) cs
def b1f {α : Type} (cs : List α) : Nat → List α := List.rec (motive := fun _ => Nat → List α) (fun _ => []) (fun v t ih n => Nat.rec (motive := fun _ => List α) (v :: t) (fun m _ => ih m) n) cs
def kIx (k : IntKind) : Nat := IntKind.rec (motive := fun _ => Nat) 0 1 2 3 4 5 6 7 k
def hMv (x : LArg) (f : Fr) (H : Heap) : Rs := oR (mQ f x) fun v => .ok v H
def b4v (c a b : LArg) (f : Fr) (H : Heap) : Rs := match mQ f c with
 | .bool t => oR (mQ f (Bool.rec (motive := fun _ => LArg) b a t)) fun v => .ok v H
 | _ => .no
def oV (v : Option Value) (H : Heap) : Rs := Option.rec (motive := fun _ => Rs) .no (fun v => .th v H) v
def c0Z (g : IntKind → Int → Int → Option Value) (k : IntKind) (a : Int) (H : Heap) (y : Value) : Rs := match y with
 | .int k' b => oD (Nat.beq (kIx k) (kIx k')) .no (oV (g k a b) H)
 | _ => .no
def c1u (g : IntKind → Int → Int → Option Value) (x y : LArg) (f : Fr) (H : Heap) : Rs := match mQ f x with
 | .int k a => c0Z g k a H (mQ f y)
 | _ => .no
def c6s (x : LArg) (f : Fr) (H : Heap) : Rs := match mQ f x with
 | .bool b => .ok (.bool (Bool.rec (motive := fun _ => Bool) true false b)) H
 | _ => .no
def b9z (b : Option Blk) (i e : Nat) (H : Heap) : Rs := match b with
 | some (.cells cs _ _ lo _) => oD (Nat.ble lo e) .no (oD (a8a cs e) .no (oD (Nat.ble (Nat.succ i) e) .no (Option.rec (motive := fun _ => Rs) .no (fun v => oR v fun v => .ok v H) (a1u cs i))))
 | _ => .no
def c1I (b : Option Blk) (i : Nat) (H : Heap) : Rs := match b with
 | some (.cells cs _ false lo 1) => oD (a8a cs lo) .no (Option.rec (motive := fun _ => Rs) .no (fun v => oR v fun v => .ok v H) (a1u cs i))
 | _ => .no
def b3U (x : LArg) (f : Fr) (H : Heap) : Rs := match mQ f x with
 | .pointer (some ⟨A, i, some e⟩) => b9z (iS H A) i e H
 | .pointer (some ⟨A, i, none⟩) => c1I (iS H A) i H
 | _ => .no
def b8E (b : Option Blk) (n i e : Nat) (H : Heap) : Rs := match b with
 | some (.cells cs _ _ lo _) => oD (Nat.ble lo e) .no (oD (a8a cs e) .no (oD (Nat.ble (Nat.add i n) e) .no (a1P (b1f cs i) n fun l => .ok (.agg ⟨l⟩) H)))
 | _ => .no
def b2A (n : Nat) (x : LArg) (f : Fr) (H : Heap) : Rs := match mQ f x with
 | .pointer (some ⟨A, i, some e⟩) => b8E (iS H A) n i e H
 | _ => .no
def stB (b : Option Blk) (n A i e : Nat) (vs : List Value) (H : Heap) : Rs := match b with
 | some (.cells cs ty true lo ver) => oD (a4C vs n) .no (oD (vs.all oneCell) .no (oD (a4C cs e) .no (oD (Nat.ble (Nat.add i n) e) .no (oD (Nat.ble lo e) .no
    (.th undef (hset H A (.cells (iZ cs i vs) ty true e ver)))))))
 | _ => .no
def hSt (n : Nat) (x y : LArg) (f : Fr) (H : Heap) : Rs := match mQ f x with
 | .pointer (some ⟨A, i, some e⟩) => stB (iS H A) n A i e (mQ f y).cells.toList H
 | _ => .no
def hFa (off : Nat) (x : LArg) (f : Fr) (H : Heap) : Rs := match mQ f x with
 | .pointer (some ⟨A, i, some e⟩) => kD (Nat.add i off) fun i => .ok (.pointer (some ⟨A, i, some e⟩)) H
 | _ => .no
def ixP (A i e size n : Nat) (H : Heap) (j : Value) : Rs := match j with
 | .int _ (.ofNat j) => oD (Nat.blt j n) .no (kD (Nat.add i (Nat.mul j size)) fun i => .ok (.pointer (some ⟨A, i, some e⟩)) H)
 | _ => .no
def c2B (size : Nat) (x i : LArg) (f : Fr) (H : Heap) : Rs := match mQ f x with
 | .slice (some ⟨A, a, some e⟩) n _ => ixP A a e size n H (mQ f i)
 | _ => .no
def ixG (A i size n : Nat) (H : Heap) (j : Value) : Rs := match j with
 | .int _ (.ofNat j) => oD (Nat.blt j n) .no (kD (Nat.add i (Nat.mul j size)) fun i => .ok (.pointer (some ⟨A, i, none⟩)) H)
 | _ => .no
def c2H (n size : Nat) (x i : LArg) (f : Fr) (H : Heap) : Rs := match mQ f x with
 | .pointer (some ⟨A, a, some e⟩) => ixP A a e size n H (mQ f i)
 | .pointer (some ⟨A, a, none⟩) => ixG A a size n H (mQ f i)
 | _ => .no
def okV (v : Option Value) (H : Heap) : Rs := Option.rec (motive := fun _ => Rs) .no (fun v => oR v fun v => .ok v H) v
def c1N (i : Nat) (x : LArg) (f : Fr) (H : Heap) : Rs := match mQ f x with
 | .tuple ⟨vs⟩ => okV (a1u vs i) H
 | _ => .no
def hF1 (off : Nat) (x : LArg) (f : Fr) (H : Heap) : Rs := match mQ f x with
 | .agg ⟨cs⟩ => okV (a1u cs off) H
 | _ => .no
def hFn (off n : Nat) (x : LArg) (f : Fr) (H : Heap) : Rs := match mQ f x with
 | .agg ⟨cs⟩ => a1P (b1f cs off) n fun l => .ok (.agg ⟨l⟩) H
 | _ => .no
def c2D (x : LArg) (f : Fr) (H : Heap) : Rs := match mQ f x with
 | .slice _ n _ => .th (goInt n) H
 | _ => .no
def b6d (x : LArg) (f : Fr) (H : Heap) : Rs := match mQ f x with
 | .string s => .th (goInt s.size) H
 | _ => .no
def c5C (b : Option Blk) (elem size bytes A i e k : Nat) (n : Nat) (l : List Value) (P : Program) (H : Heap) : Rs := match b with
 | some (.cells cs ty true lo ver) => oD (Bool.rec (motive := fun _ => Bool) (iE P ty == some size) true (Nat.beq ty elem)) .no (oD (a4C cs e) .no (oD (Nat.ble lo e) .no
    (oD (Nat.beq (Nat.add i (Nat.mul k size)) e)
      (oD (Nat.beq n 0) (oD (Nat.ble (Nat.add i (Nat.mul (Nat.add k n) size)) e) .no (.th (.slice (some ⟨A, i, some e⟩) (k + n) size) (hset H A (.cells (iZ cs (i + k * size) l) ty true e ver)))) .no)
      (oD (Nat.ble (Nat.mul (Nat.add k n) (Nat.succ bytes)) pF) .no (.th (.slice (some ⟨A, i, some (e + l.length)⟩) (k + n) size) (hset H A (.cells (a4T cs l) ty true lo (Bool.rec (motive := fun _ => Nat) 2 ver (Nat.beq ty elem)))))))))
 | _ => .no
def c5h (P : Program) (elem size bytes : Nat) (s : Value) (H : Heap) (n : Nat) (l : List Value) : Rs := match s with
 | .slice none k c => oD (Nat.beq k 0) .no (oD (Nat.beq c 0) .no (oD (Nat.ble (Nat.mul n (Nat.succ bytes)) pF) .no (oD (Nat.beq n 0) (.th (.slice (some ⟨H.length, 0, some l.length⟩) n size) (rU H elem l)) (.ok (.slice none 0 0) H))))
 | .slice (some ⟨A, i, some e⟩) k _ => c5C (iS H A) elem size bytes A i e k n l P H
 | _ => .no
def c2j (P : Program) (elem size bytes : Nat) (x y : LArg) (f : Fr) (H : Heap) : Rs := match a0R H size (mQ f y) with
 | some (n, l) => c5h P elem size bytes (mQ f x) H n l
 | none => .no
def c1j (t : TypeId) (cs : List Value) (_ : Fr) (H : Heap) : Rs := .th (.pointer (some ⟨H.length, 0, some cs.length⟩)) (rU H t cs)
def evF (f : Fr) : Operand → Value
 | .tmp t => oG (kO t) f
 | .const v => v
 | .global g => .pointer (some ⟨g, 0, none⟩)
 | .func k => .func (.func k) #[] #[]
def c6S (P : Program) (o : Oper) (f : Fr) (H : Heap) : Rs := match c1m P o (evF f) H with
 | some (v, H1) => .th v H1
 | none => .no
def a4b {α : Type} (f : Fr) (l : List LArg) : (List Value → α) → α := List.rec (motive := fun _ => (List Value → α) → α) (fun K => K []) (fun x _ ih K => oR (mQ f x) fun v => ih fun l => K (v :: l)) l
structure Calls' where
 fn : Pth → FuncId → List Value → Heap → Rs
 rd : Nat → List Value → Heap → Rs
def c2z (C : Calls') (k : FuncId) (p : Pth) (args : List LArg) (f : Fr) (H : Heap) : Rs := a4b f args fun l => C.fn p k l H
def a9Q (C : Calls') (l : List Value) (H : Heap) (g : Value) : Rs := match g with
 | .func (.func k) ⟨a⟩ ⟨b⟩ => kD k fun k => lL (kO k) fun p => C.fn p k (a4T a (a4T l b)) H
 | .func (.yield L) _ _ => C.rd L l H
 | _ => .no
def c2N (C : Calls') (g : LArg) (args : List LArg) (f : Fr) (H : Heap) : Rs := a4b f args fun l => a9Q C l H (mQ f g)
def c7s (_ : Fr) (_ : Heap) : Rs := .no
def opF (P : Program) (C : Calls') (o : LOp) : Fr → Heap → Rs :=
 LOp.rec (motive := fun _ => Fr → Heap → Rs) c7s hMv b4v c1u c6s b3U b2A hSt hFa c2B c2H c1N hF1 hFn c2D b6d (c2j P) c1j (c2z C) (c2N C) (c6S P) o
inductive Rf where
 | no
 | ok (f : Fr) (H : Heap)
def uI {α : Type} (d : Option Pth) (v : Value) (f : Fr) (K : Fr → α) : α := Option.rec (motive := fun _ => α) (K f) (fun p => qE v p f K) d
def b0O {α : Type} (no : α) (d : Option Pth) (f : Fr) (K : Fr → Heap → α) (r : Rs) : α :=
 Rs.rec (motive := fun _ => α) no (fun v H => uI d v f fun f => K f H) (fun v H => zQ v fun v => oA H fun H => uI d v f fun f => K f H) r
def isB (v : Value) (w : Bool) : Bool := match v with
 | .bool b => Bool.rec (motive := fun _ => Bool) (Bool.rec (motive := fun _ => Bool) true false w) w b
 | _ => false
def xY (P : Program) (C : Calls') (ops : LOps) : Fr → Heap → Rf := LOps.rec (motive := fun _ => Fr → Heap → Rf)
 (fun f H => .ok f H)
 (fun d o _ ih f H => b0O .no d f ih (opF P C o f H))
 (fun p w d o _ ih f H => oD (isB (oG p f) w) (uI d undef f fun f => ih f H) (b0O .no d f ih (opF P C o f H))) ops
inductive Rt where
 | no
 | ok (tr : List (Fr × Heap × Value)) (f : Fr) (H : Heap)
def b1e (tr : List (Fr × Heap × Value)) (f0 : Fr) (H0 : Heap) (d : Option Pth) (K : List (Fr × Heap × Value) → Fr → Heap → Rt) (r : Rs) : Rt :=
 Rs.rec (motive := fun _ => Rt) .no (fun v H => uI d v f0 fun f => K ((f0, H0, v) :: tr) f H) (fun v H => zQ v fun v => oA H fun H => uI d v f0 fun f => K ((f0, H0, v) :: tr) f H) r
def rK (P : Program) (C : Calls') (ops : LOps) : List (Fr × Heap × Value) → Fr → Heap → Rt := LOps.rec (motive := fun _ => List (Fr × Heap × Value) → Fr → Heap → Rt)
 (fun tr f H => .ok tr f H)
 (fun d o _ ih tr f H => b1e tr f H d ih (opF P C o f H))
 (fun p w d o _ ih tr f H => oD (isB (oG p f) w) (uI d undef f fun f1 => ih ((f, H, undef) :: tr) f1 H) (b1e tr f H d ih (opF P C o f H))) ops
def b9r (v : Value) (r : Rs) : Bool := Rs.rec (motive := fun _ => Bool) false (fun w _ => veq w v) (fun w _ => veq w v) r
def b4d (f : Fr) (g : Option (Pth × Bool)) : Bool := match g with
 | none => true
 | some (p, w) => isB (oG p f) w
def b4h (P : Program) (C : Calls') (tr : List (Fr × Heap × Value)) (H1 : Heap) (x : Nat × Option Nat × Option (Pth × Bool) × LOp) : Bool :=
 match a1u tr x.1 with
 | some (f, _, v) => oD (b4d f x.2.2.1) true (match x.2.1 with
   | none => b9r v (opF P C x.2.2.2 f H1)
   | some m => match a1u tr m with
     | some (_, H, _) => b9r v (opF P C x.2.2.2 f H)
     | none => false)
 | none => false
def b5l {α : Type} (p : α → Bool) (l : List α) : Bool := List.rec (motive := fun _ => Bool) true (fun x _ ih => oD (p x) false ih) l
inductive Rc where
 | no
 | ok (e : Ex) (f : Fr) (H : Heap)
def c5N (r : Rf) : Rc := Rf.rec (motive := fun _ => Rc) .no (fun f H => .ok .normal f H) r
def c0K (P : Program) (C : Calls') (tab : List (Nat × Option Nat × Option (Pth × Bool) × LOp)) (r : Rt) : Rc := Rt.rec (motive := fun _ => Rc) .no (fun tr f H => oD (b5l (b4h P C tr H) tab) .no (.ok .normal f H)) r
def pN {α : Type} (no : α) (l : List Value) : List Pth → Fr → (Fr → α) → α := List.rec (motive := fun _ => List Pth → Fr → (Fr → α) → α) (fun _ f K => K f)
 (fun v _ ih ps f K => List.rec (motive := fun _ => α) no (fun p ps _ => qE v p f fun f => ih ps f K) ps) l
def a4m (H : Heap) (f : Fr) (r : LRes) : Rs := LRes.rec (motive := fun _ => Rs) (fun p => oR (oG p f) fun v => .ok v H) (fun p => b3U (.t p) f H) (fun n p => b2A n (.t p) f H) r
def b6s (H : Heap) (f : Fr) (l : List LRes) : (List Value → Rs) → Rs := List.rec (motive := fun _ => (List Value → Rs) → Rs) (fun K => K []) (fun r _ ih K => Rs.rec (motive := fun _ => Rs) .no (fun v _ => ih fun l => K (v :: l)) (fun _ _ => .no) (a4m H f r)) l
def noT (v : Value) : Bool := match v with | .tuple _ => false | _ => true
def a7L (l : List LRes) (f : Fr) (H : Heap) : Rs := match l with
 | [r] => a4m H f r
 | l => b6s H f l fun vs => oD (b5l noT vs) .no (.ok (.tuple ⟨vs⟩) H)
def c1p (l : List LRes) (r : Rc) : Rs := match r with
 | .ok .normal f H => a7L l f H
 | .ok .ret f H => a7L l f H
 | _ => .no
abbrev qN := List LEnv → LCode → Fr → Heap → Rc
def c1g (P : Program) (k : FuncId) (args : List Value) (H : Heap) : Rs := match qL P k args H with
 | some (v, H1) => .th v H1
 | none => .no
def mB (T : LT) (ih : qN) (E : List LEnv) (p : Pth) (args : List Value) (H : Heap) : Rs := match a2h p T with
 | some g => pN .no args g.ps .e fun f => c1p g.res (ih E g.body f H)
 | none => .no
def b5r (P : Program) (T : LT) (ih : qN) (E : List LEnv) (p : Pth) (k : FuncId) (args : List Value) (H : Heap) : Rs := match a2h p T with
 | some g => pN .no args g.ps .e fun f => c1p g.res (ih E g.body f H)
 | none => c1g P k args H
def b7w (E : List LEnv) (L : Nat) : Option LEnv := List.rec (motive := fun _ => Option LEnv) none (fun e _ ih => oD (Nat.beq e.L L) ih (some e)) E
def c0v (e : Ex) : Option Code := match e with | .normal => none | .ret => some .ret | .exit id => some (.exit id)
def a1N (L : Nat) (e : Ex) (H : Heap) : Rs := match iS H L with
 | some (.loop ⟨_, _, fn, tmps, ps, a, b, d⟩) => match c0v e with
   | none => .th (.bool true) (hset H L (.loop ⟨.ready, none, fn, tmps, ps, a, b, d⟩))
   | some c => .th (.bool false) (hset H L (.loop ⟨.done, some c, fn, tmps, ps, a, b, d⟩))
 | _ => .no
def b1T (L : Nat) (r : Rc) : Rs := match r with
 | .ok e _ H => a1N L e H
 | .no => .no
def a0G (ih : qN) (E : List LEnv) (en : LEnv) (f : Fr) (H : Heap) : Rs := match iS H en.L with
 | some (.loop ⟨.ready, p, fn, tmps, ps, a, b, d⟩) => oA (hset H en.L (.loop ⟨.busy, p, fn, tmps, ps, a, b, d⟩)) fun H => b1T en.L (ih E en.b f H)
 | _ => .no
def tN (ih : qN) (E : List LEnv) (en : LEnv) (r : Rc) : Rs := match r with
 | .ok .normal f H => a0G ih E en f H
 | _ => .no
def b0e (ih : qN) (E : List LEnv) (L : Nat) (args : List Value) (H : Heap) : Rs := match b7w E L with
 | some en => match iS H L with
   | some (.loop ⟨.ready, _, _, ⟨tmps⟩, ps, _, _, _⟩) => oD (a4C args ps.size) .no (pN .no tmps en.ps .e fun f => pN .no args en.pp f fun f => tN ih E en (ih E en.a f H))
   | _ => .no
 | none => .no
def a0w (P : Program) (T : LT) (ih : qN) (E : List LEnv) : Calls' := ⟨b5r P T ih E, b0e ih E⟩
def c7i (_ : Fr) (_ : Heap) : Rc := .no
def c3R (f : Fr) (H : Heap) : Rc := .ok .normal f H
def c6P (P : Program) (T : LT) (ih : qN) (E : List LEnv) (ops : LOps) (f : Fr) (H : Heap) : Rc := c5N (xY P (a0w P T ih E) ops f H)
def c7r (P : Program) (T : LT) (ih : qN) (E : List LEnv) (ops : LOps) (tab : List (Nat × Option Nat × Option (Pth × Bool) × LOp)) (f : Fr) (H : Heap) : Rc := c0K P (a0w P T ih E) tab (rK P (a0w P T ih E) ops [] f H)
def b9D (ih : qN) (E : List LEnv) (b : LCode) (r : Rc) : Rc := match r with
 | .ok .normal f H => ih E b f H
 | r => r
def c7o (ih : qN) (E : List LEnv) (a b : LCode) (_ _ : Fr → Heap → Rc) (f : Fr) (H : Heap) : Rc := b9D ih E b (ih E a f H)
def b6g (ih : qN) (E : List LEnv) (c : LArg) (x y : LCode) (_ _ : Fr → Heap → Rc) (f : Fr) (H : Heap) : Rc := match mQ f c with
 | .bool t => ih E (Bool.rec (motive := fun _ => LCode) y x t) f H
 | _ => .no
def c4u (id : Nat) (r : Rc) : Rc := match r with
 | .ok (.exit i) f H => .ok (Bool.rec (motive := fun _ => Ex) (.exit i) .normal (Nat.beq i id)) f H
 | r => r
def c3v (ih : qN) (E : List LEnv) (id : Nat) (b : LCode) (_ : Fr → Heap → Rc) (f : Fr) (H : Heap) : Rc := c4u id (ih E b f H)
def c4z (ih : qN) (E : List LEnv) (b : LCode) (_ : Fr → Heap → Rc) (f : Fr) (H : Heap) : Rc := b9D ih E (.loop b) (ih E b f H)
def c5m (id : Nat) (f : Fr) (H : Heap) : Rc := .ok (.exit id) f H
def c6u (f : Fr) (H : Heap) : Rc := .ok .ret f H
def frL {α : Type} (f : Fr) (ps : List Pth) : (List Value → α) → α := List.rec (motive := fun _ => (List Value → α) → α) (fun K => K []) (fun p _ ih K => oR (oG p f) fun v => ih fun l => K (v :: l)) ps
def uM (L : Nat) (f : Fr) (H : Heap) : Rc := match iS H L with
 | some (.loop ⟨.ready, none, fn, tmps, ps, a, b, d⟩) => oA (hset H L (.loop ⟨.exhausted, none, fn, tmps, ps, a, b, d⟩)) fun H => .ok .normal f H
 | some (.loop ⟨.done, none, fn, tmps, ps, a, b, d⟩) => oA (hset H L (.loop ⟨.exhausted, none, fn, tmps, ps, a, b, d⟩)) fun H => .ok .normal f H
 | some (.loop ⟨.done, some .ret, fn, tmps, ps, a, b, d⟩) => oA (hset H L (.loop ⟨.exhausted, some .ret, fn, tmps, ps, a, b, d⟩)) fun H => .ok .ret f H
 | some (.loop ⟨.done, some (.exit id), fn, tmps, ps, a, b, d⟩) => oA (hset H L (.loop ⟨.exhausted, some (.exit id), fn, tmps, ps, a, b, d⟩)) fun H => .ok (.exit id) f H
 | _ => .no
def b3K (L : Nat) (f : Fr) (r : Rs) : Rc := match r with
 | .no => .no
 | .ok _ H => uM L f H
 | .th _ H => oA H fun H => uM L f H
def b1r (T : LT) (ih : qN) (E : List LEnv) (f : Fr) (L : Nat) (k : FuncId) (args : List Value) (H : Heap) : Rc := lL (kO k) fun p => b3K L f (mB T ih E p args H)
def a9I (T : LT) (ih : qN) (E : List LEnv) (g : LArg) (ps pp : List Pth) (params : Array Tmp) (assign body : Code) (a b : LCode) (_ _ : Fr → Heap → Rc) (f : Fr) (H : Heap) : Rc := match mQ f g with
 | .func (.func k) ⟨x⟩ ⟨y⟩ => kD H.length fun L => frL f ps fun l => oA (H.cons (.loop ⟨.ready, none, 0, ⟨l⟩, params, assign, body, 0⟩)) fun H1 =>
    kD k fun k => b1r T ih (⟨L, ps, pp, a, b⟩ :: E) f L k (a4T x (.func (.yield L) #[] #[] :: y)) H1
 | _ => .no
def b0T (P : Program) (T : LT) (ih : qN) (E : List LEnv) (c : LCode) : Fr → Heap → Rc :=
 LCode.rec (motive := fun _ => Fr → Heap → Rc) c7i c3R (c6P P T ih E) (c7r P T ih E) (c7o ih E) (b6g ih E) (c3v ih E) (c4z ih E) c5m c6u (a9I T ih E) c
def zX (P : Program) (T : LT) (n : Nat) : qN := Nat.rec (motive := fun _ => qN) (fun _ _ _ _ => .no) (fun _ ih => b0T P T ih) n
section
variable {α : Type}
def lP (x : Operand) (K : LArg → α) : α := match x with
 | .tmp t => lL (kO t) fun p => K (.t p)
 | .const v => K (.c v)
 | .global g => K (.c (.pointer (some ⟨g, 0, none⟩)))
 | .func k => K (.c (.func (.func k) #[] #[]))
def a5j (l : List Operand) : (List LArg → α) → α := List.rec (motive := fun _ => (List LArg → α) → α) (fun K => K []) (fun x _ ih K => lP x fun x => ih fun l => K (x :: l)) l
def a3s (o : Option Nat) (d : α) (K : Nat → α) : α := match o with
 | some n => kD n K
 | none => d
def c6I (k : IntKind) (a b : Int) : Option Value := some (.int k (wN k (b8G a b)))
def c7J (k : IntKind) (a b : Int) : Option Value := some (.int k (wN k (b9B a b)))
def c3Z (a b : Int) : Int := match a, b with
 | .ofNat a, .ofNat b => .ofNat (Nat.mul a b)
 | a, b => a * b
def c5v (k : IntKind) (a b : Int) : Option Value := some (.int k (wN k (c3Z a b)))
def c4m (a b : Int) : Int := match a, b with
 | .ofNat a, .ofNat b => .ofNat (Nat.div a b)
 | a, b => a.tdiv b
def c5R (a b : Int) : Int := match a, b with
 | .ofNat a, .ofNat b => .ofNat (Nat.mod a b)
 | a, b => a.tmod b
def b8U (k : IntKind) (a b : Int) : Option Value := match eqI b 0 with | true => none | false => some (.int k (wN k (c4m a b)))
def b8g (k : IntKind) (a b : Int) : Option Value := match eqI b 0 with | true => none | false => some (.int k (c5R a b))
def c7a (_ : IntKind) (a b : Int) : Option Value := some (.bool (eqI a b))
def c7v (_ : IntKind) (a b : Int) : Option Value := some (.bool (!eqI a b))
def c7F (_ : IntKind) (a b : Int) : Option Value := some (.bool (ltI a b))
def c6Z (_ : IntKind) (a b : Int) : Option Value := some (.bool (!ltI b a))
def c7d (_ : IntKind) (a b : Int) : Option Value := some (.bool (ltI b a))
def c6M (_ : IntKind) (a b : Int) : Option Value := some (.bool (!ltI a b))
def b9S (op : BinOp) : Option (IntKind → Int → Int → Option Value) := match op with
 | .add => some c6I
 | .sub => some c7J
 | .mul => some c5v
 | .quo => some b8U
 | .rem => some b8g
 | .eql => some c7a
 | .neq => some c7v
 | .lss => some c7F
 | .leq => some c6Z
 | .gtr => some c7d
 | .geq => some c6M
 | _ => none
def c3e (d : Option TypeDesc) : Bool := match d with | some (.int _) => true | _ => false
def c7R (P : Program) (s : TypeId) (f : Nat) (d : α) (K1 : Nat → α) (Kn : Nat → Nat → α) : α := match oN P s f with
 | some fd => kD fd.offset fun off => match jQ P fd.type with
   | some true => a3s (iE P fd.type) d fun n => Kn off n
   | some false => K1 off
   | none => d
 | none => d
def b4o (P : Program) (o : Oper) (c : Call) (K : LOp → α) : α := match c.callee with
 | .value (.func k) => lL (kO k) fun p => a5j c.args.toList fun l => K (.callF k p l)
 | .value g => lP g fun g => a5j c.args.toList fun l => K (.callV g l)
 | .builtin .len => oD (c.args.size == 1 && c.argTypes.size == 1) (K (.gen o)) (match P.underlying (c.argTypes.getD 0 0) with
    | some (.slice _) => lP (c.args.getD 0 (.tmp 0)) fun x => K (.len x)
    | some .string => lP (c.args.getD 0 (.tmp 0)) fun x => K (.slen x)
    | _ => K (.gen o))
 | .builtin .append => oD (c.args.size == 2 && c.argTypes.size == 2 && ((P.underlying (c.argTypes.getD 1 0)).map qA) == some true) (K (.gen o))
    (match iJ P (c.argTypes.getD 0 0) with
     | some elem => a3s (iE P elem) (K (.gen o)) fun size => a3s (nX P elem) (K (.gen o)) fun bytes => match jA P elem with
       | some z => oD (z.cells.size == size && size != 0) (K (.gen o)) (kD elem fun elem => lP (c.args.getD 0 (.tmp 0)) fun x => lP (c.args.getD 1 (.tmp 0)) fun y => K (.app elem size bytes x y))
       | none => K (.gen o)
     | none => K (.gen o))
 | _ => K (.gen o)
def c5K (P : Program) (o : Oper) (K : LOp → α) : α := match o.op with
 | .move x => lP x fun x => K (.mv x)
 | .assign x => lP x fun x => K (.mv x)
 | .pick c a b => lP c fun c => lP a fun a => lP b fun b => K (.pick c a b)
 | .binOp op t x y _ => oD (c3e (P.underlying t)) (K (.gen o)) (match b9S op with
   | some g => lP x fun x => lP y fun y => K (.bin g x y)
   | none => K (.gen o))
 | .load t x => match jQ P t with
   | some true => a3s (iE P t) (K (.gen o)) fun n => lP x fun x => K (.ldn n x)
   | some false => lP x fun x => K (.ld1 x)
   | none => K (.gen o)
 | .store t x y => a3s (iE P t) (K (.gen o)) fun n => lP x fun x => lP y fun y => K (.st n x y)
 | .fieldAddr s x f => match oN P s f with
   | some fd => match iE P fd.type with
     | some 0 => K (.gen o)
     | some _ => kD fd.offset fun off => lP x fun x => K (.fa off x)
     | none => K (.gen o)
   | none => K (.gen o)
 | .indexAddr t x i => match P.underlying t with
   | some (.slice elem) => a3s (iE P elem) (K (.gen o)) fun size => lP x fun x => lP i fun i => K (.ixs size x i)
   | some (.array n elem) => a3s (iE P elem) (K (.gen o)) fun size => lP x fun x => lP i fun i => K (.ixa n size x i)
   | _ => K (.gen o)
 | .extract t i => kD i fun i => lP t fun t => K (.ext i t)
 | .call c => b4o P o c K
 | _ => K (.gen o)
def zG (P : Program) (o : Oper) (K : LOp → α) : α := oD (o.op.operands.toList.all iP) (K .bad) (c5K P o K)
def a6r (k : Nat) (d : Option Tmp) (no : α) (K : Option Pth → α) : α := match d with
 | none => K none
 | some t => oD (Nat.blt t k) no (lL (kO t) fun p => K (some p))
def uL (P : Program) (k : Nat) (ops : Array Oper) (l : List Oper) : (LOps → α) → α → α := List.rec (motive := fun _ => (LOps → α) → α → α) (fun K _ => K .nil)
 (fun o _ ih K no => a6r k o.dst no fun d => zG P o fun o' => match o.guard with
   | none => ih (fun r => K (.cons d o' r)) no
   | some (j, w) => match (ops[j]?).bind (·.dst) with
     | some t => oD (Nat.blt t k) no (lL (kO t) fun p => a0D w fun w => ih (fun r => K (.gcons p w d o' r)) no)
     | none => no) l
def loG (k : Nat) (ops : Array Oper) (g : Option (Nat × Bool)) (no : α) (K : Option (Pth × Bool) → α) : α := match g with
 | none => K none
 | some (j, w) => match (ops[j]?).bind (·.dst) with
   | some t => oD (Nat.blt t k) no (lL (kO t) fun p => a0D w fun w => K (some (p, w)))
   | none => no
def tU (P : Program) (k : Nat) (ops : Array Oper) (N : Nat) (tab : List (Nat × Nat)) : (List (Nat × Option Nat × Option (Pth × Bool) × LOp) → α) → α → α := List.rec (motive := fun _ => (List (Nat × Option Nat × Option (Pth × Bool) × LOp) → α) → α → α) (fun K _ => K [])
 (fun x _ ih K no => match ops[x.1]? with
   | some o => loG k ops o.guard no fun g => zG P o fun o' => kD (N - 1 - x.1) fun i => oD (Nat.blt x.2 N) (ih (fun l => K ((i, none, g, o') :: l)) no) (kD (N - 1 - x.2) fun m => ih (fun l => K ((i, some m, g, o') :: l)) no)
   | none => no) tab
def b6x (k : Nat) : (List Pth → α) → α := Nat.rec (motive := fun _ => (List Pth → α) → α) (fun K => K []) (fun n ih K => lL (kO n) fun p => ih fun l => K (p :: l)) k
def c1T {β : Type} (l : List β) : List β → (List β → α) → α := List.rec (motive := fun _ => List β → (List β → α) → α) (fun a K => K a) (fun x _ ih a K => ih (x :: a) K) l
def b2I (k : Nat) (K : List Pth → α) : α := b6x k fun l => c1T l [] K
def xQ (k : Nat) (l : List Tmp) : (List Pth → α) → α → α := List.rec (motive := fun _ => (List Pth → α) → α → α) (fun K _ => K []) (fun t _ ih K no => oD (Nat.blt t k) no (lL (kO t) fun p => ih (fun l => K (p :: l)) no)) l
def nG (P : Program) (k : Nat) (c : Code) : (LCode → α) → α := Code.rec (motive := fun _ => (LCode → α) → α)
 (fun K => K .skip)
 (fun _ ops d K => Bool.rec (motive := fun _ => α) (uL P k ops ops.toList (fun l => K (.reg l)) (K .bad))
   (match nA P ops with
     | some [] => uL P k ops ops.toList (fun l => K (.reg l)) (K .bad)
     | some tab => uL P k ops ops.toList (fun l => tU P k ops ops.size tab (fun t => K (.drw l t)) (K .bad)) (K .bad)
     | none => K .bad) d)
 (fun _ _ iha ihb K => iha fun a => ihb fun b => K (.seq a b))
 (fun c _ _ ihx ihy K => oD (iP c) (K .bad) (lP c fun c => ihx fun x => ihy fun y => K (.cond c x y)))
 (fun id _ ih K => kD id fun id => ih fun b => K (.block id b))
 (fun _ ih K => ih fun b => K (.loop b))
 (fun g ps assign body iha ihb K => oD (iP g) (K .bad) (lP g fun g' => b2I k fun pp => xQ k ps.toList (fun q => iha fun a => ihb fun b => K (.range g' pp q ps assign body a b)) (K .bad)))
 (fun id K => kD id fun id => K (.exit id))
 (fun _ _ K => K .bad)
 (fun _ K => K .skip)
 (fun _ K => K .bad)
 (fun K => K .ret)
 (fun _ K => K .bad) c
def a1b (P : Program) (l : List ResultVar) : (List LRes → α) → α → α := List.rec (motive := fun _ => (List LRes → α) → α → α) (fun K _ => K [])
 (fun r _ ih K no => match r with
   | .tmp t => lL (kO t) fun p => ih (fun l => K (.t p :: l)) no
   | .cell a t => match jQ P t with
     | some true => a3s (iE P t) no fun n => lL (kO a) fun p => ih (fun l => K (.cn n p :: l)) no
     | some false => lL (kO a) fun p => ih (fun l => K (.c1 p :: l)) no
     | none => no) l
def a2P (P : Program) (f : FuncId) (no : α) (K : LFunc → α) : α := match P.funcs[f]? with
 | some fn => match fn.body with
   | some c => oD (fn.name == "runtime.NumGoroutine") (a1b P fn.results.toList (fun res => b2I fn.ntmps fun ps => nG P fn.ntmps c fun b => K ⟨ps, b, res⟩) no) no
   | none => no
 | none => no
def sM (P : Program) (fs : List FuncId) : LT → (LT → α) → α := List.rec (motive := fun _ => LT → (LT → α) → α) (fun T K => K T)
 (fun f _ ih T K => a2P P f (ih T K) fun g => lL (kO f) fun p => sH g p T fun T => ih T K) fs
end
end
end Go.Ds
namespace Go.Ds
section
variable {α : Type}
theorem vZ (f k : Nat) : a5O (f + 1) (k + 1) = if k % 2 = 0 then .l (a5O f (k / 2)) else .r (a5O f (k / 2)) := by
 show Bool.rec (motive := fun _ => Pth) (.r (a5O f (k / 2))) (.l (a5O f (k / 2))) (Nat.beq (k % 2) 0) = _
 by_cases h : k % 2 = 0
 ·rw [if_pos h, h]; rfl
 ·rw [if_neg h]
  have : Nat.beq (k % 2) 0 = false := fS.2 fun e => h (dY e)
  rw [this]
theorem a4j (f : Nat) : a5O f 0 = .z := by cases f <;> rfl
theorem a1Z : ∀ (f g a b : Nat), a ≤ f → b ≤ g → a5O f a = a5O g b → a = b
 | _, _, 0, 0, _, _, _ => rfl
 | 0, _, a + 1, _, h, _, _ => by omega
 | _, 0, _, b + 1, _, h, _ => by omega
 | f, g + 1, 0, b + 1, _, _, h => by
   rw [a4j, vZ] at h
   split at h <;> cases h
 | f + 1, g, a + 1, 0, _, _, h => by
   rw [a4j, vZ] at h
   split at h <;> cases h
 | f + 1, g + 1, a + 1, b + 1, ha, hb, h => by
   rw [vZ, vZ] at h
   by_cases h1 : a % 2 = 0
   ·rw [if_pos h1] at h
    by_cases h2 : b % 2 = 0
    ·rw [if_pos h2] at h
     injection h with h
     have := a1Z f g (a / 2) (b / 2) (by omega) (by omega) h
     omega
    ·rw [if_neg h2] at h; cases h
   ·rw [if_neg h1] at h
    by_cases h2 : b % 2 = 0
    ·rw [if_pos h2] at h; cases h
    ·rw [if_neg h2] at h
     injection h with h
     have := a1Z f g (a / 2) (b / 2) (by omega) (by omega) h
     omega
theorem b1k {a b : Nat} (h : kO a = kO b) : a = b := a1Z _ _ _ _ (dg _) (dg _) h
theorem lJ (p : Pth) (K : Pth → α) : lL p K = K p := by
 induction p generalizing K with
 | z => rfl
 | l p ih => exact ih _
 | r p ih => exact ih _
theorem mX (v : Value) (K : Value → α) : oR v K = K v := by cases v <;> rfl
theorem sV (v : Value) (p : Pth) (f : Fr) (K : Fr → α) : qE v p f K = K (qE v p f fun f => f) := by
 induction p generalizing f α with
 | z => cases f <;> rfl
 | l p ih =>
   cases f with
   | e =>
     show qE v p .e (fun l => K (.n undef l .e)) = K (qE v p .e fun l => .n undef l .e)
     rw [ih, ih (K := fun l => Fr.n undef l .e)]
   | n w l r =>
     show qE v p l (fun l => K (.n w l r)) = K (qE v p l fun l => .n w l r)
     rw [ih, ih (K := fun l => Fr.n w l r)]
 | r p ih =>
   cases f with
   | e =>
     show qE v p .e (fun l => K (.n undef .e l)) = K (qE v p .e fun l => .n undef .e l)
     rw [ih, ih (K := fun l => Fr.n undef .e l)]
   | n w l r =>
     show qE v p r (fun r => K (.n w l r)) = K (qE v p r fun r => .n w l r)
     rw [ih, ih (K := fun r => Fr.n w l r)]
theorem vK (p : Pth) : oG p .e = undef := by
 cases p <;> rfl
theorem b3u (v : Value) (p q : Pth) (f : Fr) : (q = p → oG q (qE v p f fun f => f) = v) ∧ (q ≠ p → oG q (qE v p f fun f => f) = oG q f) := by
 induction p generalizing f q with
 | z =>
   refine ⟨fun h => ?_, fun h => ?_⟩
   ·subst h; cases f <;> rfl
   ·cases q with
    | z => exact absurd rfl h
    | l q =>
      cases f with
      | e => show oG q .e = undef; exact vK q
      | n => rfl
    | r q =>
      cases f with
      | e => show oG q .e = undef; exact vK q
      | n => rfl
 | l p ih =>
   have h1 : ∀ f, qE v (.l p) f (fun f => f) = match f with | .e => .n undef (qE v p .e fun f => f) .e | .n w l r => .n w (qE v p l fun f => f) r := fun f => by
    cases f with
    | e => exact sV v p .e fun l => Fr.n undef l .e
    | n w l r => exact sV v p l fun l => Fr.n w l r
   rw [h1]
   cases q with
   | z => exact ⟨fun h => (nomatch h), fun _ => by cases f <;> rfl⟩
   | r q =>
     refine ⟨fun h => (nomatch h), fun _ => ?_⟩
     cases f with
     | e => show oG q .e = undef; exact vK q
     | n => rfl
   | l q =>
     refine ⟨fun h => ?_, fun h => ?_⟩
     ·injection h with h
      cases f with
      | e => exact (ih q .e).1 h
      | n w l r => exact (ih q l).1 h
     ·have h : q ≠ p := fun e => h (by rw [e])
      cases f with
      | e => show oG q (qE v p .e fun f => f) = undef; rw [(ih q .e).2 h, vK]
      | n w l r => exact (ih q l).2 h
 | r p ih =>
   have h1 : ∀ f, qE v (.r p) f (fun f => f) = match f with | .e => .n undef .e (qE v p .e fun f => f) | .n w l r => .n w l (qE v p r fun f => f) := fun f => by
    cases f with
    | e => exact sV v p .e fun l => Fr.n undef .e l
    | n w l r => exact sV v p r fun r => Fr.n w l r
   rw [h1]
   cases q with
   | z => exact ⟨fun h => (nomatch h), fun _ => by cases f <;> rfl⟩
   | l q =>
     refine ⟨fun h => (nomatch h), fun _ => ?_⟩
     cases f with
     | e => show oG q .e = undef; exact vK q
     | n => rfl
   | r q =>
     refine ⟨fun h => ?_, fun h => ?_⟩
     ·injection h with h
      cases f with
      | e => exact (ih q .e).1 h
      | n w l r => exact (ih q r).1 h
     ·have h : q ≠ p := fun e => h (by rw [e])
      cases f with
      | e => show oG q (qE v p .e fun f => f) = undef; rw [(ih q .e).2 h, vK]
      | n w l r => exact (ih q r).2 h
def FAg (f : Fr) (l : List Value) : Prop := ∀ t, oG (kO t) f = get l t
def FRel (k : Nat) (f : Fr) (l : List Value) : Prop := l.length = k ∧ FAg f l
noncomputable def b6m (f : Fr) (t : Tmp) (v : Value) : Fr := qE v (kO t) f fun f => f
theorem a4D (f : Fr) (t u : Tmp) (v : Value) : oG (kO u) (b6m f t v) = if u = t then v else oG (kO u) f := by
 have h := b3u v (kO t) (kO u) f
 by_cases he : u = t
 ·rw [if_pos he]; exact h.1 (by rw [he])
 ·rw [if_neg he]; exact h.2 (fun e => he (b1k e))
theorem FRel.put {k : Nat} {f : Fr} {l : List Value} (h : FRel k f l) {t : Tmp} (ht : t < k) (v : Value) : FRel k (b6m f t v) (Go.Ds.put l (some t) v) := by
 refine ⟨by simp [Go.Ds.put, nE, h.1], fun u => ?_⟩
 rw [a4D, b1u]
 by_cases he : u = t
 ·subst he; rw [if_pos rfl, if_pos ⟨rfl, by rw [h.1]; exact ht⟩]
 ·rw [if_neg he, if_neg (fun hh => he (cU hh.1).symm)]; exact h.2 u
theorem FRel.set {k : Nat} {f : Fr} {l : List Value} (h : FRel k f l) {t : Tmp} (ht : t < k) (v : Value) : FRel k (b6m f t v) (l.set t v) := by
 have := h.put ht v
 simpa [Go.Ds.put, nE] using this
def Rs.Is (r : Rs) (v : Value) (H : Heap) : Prop := r = .ok v H ∨ r = .th v H
theorem Rs.ar {v : Value} {H : Heap} : ¬ Rs.no.Is v H := by rintro (h | h) <;> cases h
theorem Rs.aL {v w : Value} {H H1 : Heap} (h : (Rs.ok v H).Is w H1) : w = v ∧ H1 = H := by
 rcases h with h | h
 ·injection h with a b; exact ⟨a.symm, b.symm⟩
 ·cases h
theorem Rs.aQ {v w : Value} {H H1 : Heap} (h : (Rs.th v H).Is w H1) : w = v ∧ H1 = H := by
 rcases h with h | h
 ·cases h
 ·injection h with a b; exact ⟨a.symm, b.symm⟩
theorem kM (b : Bool) (no x : α) : oD b no x = if b = true then x else no := by cases b <;> rfl
theorem lC {b : Bool} {x : Rs} {v : Value} {H : Heap} (h : (oD b Rs.no x).Is v H) : b = true ∧ x.Is v H := by
 cases b with
 | false => exact absurd h Rs.ar
 | true => exact ⟨rfl, h⟩
theorem yI {β : Type} : ∀ (cs : List β) (e : Nat), a8a cs e = decide (e ≤ cs.length)
 | [], 0 => rfl
 | [], e + 1 => by simp; rfl
 | _ :: _, 0 => rfl
 | _ :: cs, e + 1 => by show a8a cs e = _; rw [yI cs e]; simp
theorem zB {β : Type} : ∀ (cs : List β) (e : Nat), a4C cs e = decide (e = cs.length)
 | [], 0 => rfl
 | [], e + 1 => by simp; rfl
 | _ :: _, 0 => by simp; rfl
 | _ :: cs, e + 1 => by show a4C cs e = _; rw [zB cs e]; simp
theorem zJ {β : Type} : ∀ (cs : List β) (e : Nat), a1u cs e = cs[e]?
 | [], _ => rfl
 | _ :: _, 0 => rfl
 | _ :: cs, e + 1 => by show a1u cs e = _; rw [zJ cs e]; simp
theorem a7R {β : Type} : ∀ (cs : List β) (e : Nat), b1f cs e = cs.drop e
 | [], e => by cases e <;> rfl
 | _ :: _, 0 => rfl
 | _ :: cs, e + 1 => by show b1f cs e = _; rw [a7R cs e]; rfl
theorem a7i {β : Type} : ∀ {cs : List β} {n : Nat} {K : List β → Rs} {v : Value} {H : Heap}, (a1P cs n K).Is v H → n ≤ cs.length ∧ (K (cs.take n)).Is v H
 | [], 0, K, v, H, h => ⟨dg _, h⟩
 | [], n + 1, K, v, H, h => absurd h Rs.ar
 | _ :: _, 0, K, v, H, h => ⟨eU _, h⟩
 | c :: cs, n + 1, K, v, H, h => by
   have h' : (a1P cs n fun l => K (c :: l)).Is v H := h
   obtain ⟨h1, h2⟩ := a7i h'
   exact ⟨by simp; omega, h2⟩
theorem b7X {a b : IntKind} (h : Nat.beq (kIx a) (kIx b) = true) : a = b := by
 cases a <;> cases b <;> first | rfl | (exact absurd h (by decide))
theorem b5C (k : Nat) (K : List Pth → α) : b6x k K = K ((List.range k).map kO).reverse := by
 induction k generalizing K with
 | zero => rfl
 | succ n ih =>
   show lL (kO n) (fun p => b6x n fun l => K (p :: l)) = _
   rw [lJ, ih, dX]
   simp
theorem b9h {β : Type} (l : List β) : ∀ (a : List β) (K : List β → α), c1T l a K = K (l.reverse ++ a) := by
 induction l with
 | nil => intro a K; rfl
 | cons x l ih => intro a K; show c1T l (x :: a) K = _; rw [ih]; simp
theorem b0Y (k : Nat) (K : List Pth → α) : b2I k K = K ((List.range k).map kO) := by
 unfold b2I; rw [b5C, b9h]; simp
theorem pP (n : Nat) (d : α) (K : Nat → α) : a3s (some n) d K = K n := kA n K
def LK (H H' : Heap) : Prop := H.length ≤ H'.length ∧ ∀ A r', A < H.length → iS H' A = some (.loop r') →
 ∃ r, iS H A = some (.loop r) ∧ r'.assign = r.assign ∧ r'.body = r.body ∧ r'.params = r.params ∧ r'.tmps = r.tmps
theorem LK.refl (H : Heap) : LK H H := ⟨dg _, fun _ r _ h => ⟨r, h, rfl, rfl, rfl, rfl⟩⟩
theorem LK.trans {H H1 H2 : Heap} (h : LK H H1) (k : LK H1 H2) : LK H H2 := ⟨dA h.1 k.1, fun A r' hA hr => by
 obtain ⟨r1, h1, a1, b1, c1, d1⟩ := k.2 A r' (dI hA h.1) hr
 obtain ⟨r, h2, a2, b2, c2, d2⟩ := h.2 A r1 hA h1
 exact ⟨r, h2, a1.trans a2, b1.trans b2, c1.trans c2, d1.trans d2⟩⟩
def Blk.cd : Blk → Bool
 | .loop _ => true
 | _ => false
theorem LK.hset (H : Heap) (A : Nat) {b : Blk} (hb : b.cd = false) : LK H (hset H A b) := by
 refine ⟨by rw [jN]; exact dg _, fun B r' hB h => ?_⟩
 by_cases he : A = B
 ·subst he; rw [iT _ hB] at h; injection h with h; subst h; cases hb
 ·rw [iY _ he] at h; exact ⟨r', h, rfl, rfl, rfl, rfl⟩
theorem LK.cons (H : Heap) (b : Blk) : LK H (H.cons b) := by
 refine ⟨by rw [length_cons]; omega, fun B r' hB h => ?_⟩
 rw [jM b hB] at h; exact ⟨r', h, rfl, rfl, rfl, rfl⟩
theorem LK.row (H : Heap) (ty : TypeId) (cs : List Value) : LK H (rU H ty cs) := by rw [lH]; exact .cons _ _
theorem LK.loop {H : Heap} {L : Nat} {r r' : Loop} (h : iS H L = some (.loop r)) (e : r'.assign = r.assign ∧ r'.body = r.body ∧ r'.params = r.params ∧ r'.tmps = r.tmps) : LK H (Go.Ds.hset H L (.loop r')) := by
 refine ⟨by rw [jN]; exact dg _, fun B r2 hB hg => ?_⟩
 by_cases he : L = B
 ·subst he; rw [iT _ hB] at hg; injection hg with hg; injection hg with hg; subst hg; exact ⟨r, h, e⟩
 ·rw [iY _ he] at hg; exact ⟨r2, hg, rfl, rfl, rfl, rfl⟩
variable {P : Program}
theorem a7a {H H' : Heap} {t : TypeId} {p v : Value} (h : qV P H t p v = some H') : LK H H' := by
 unfold qV at h
 split at h
 ·split at h
  ·dsimp only at h
   split at h
   ·injection h with h; subst h; exact .hset _ _ rfl
   ·cases h
  ·cases h
 ·cases h
theorem a4B {H H' : Heap} {t : TypeId} {v r : Value} (h : xI P H t v = some (r, H')) : LK H H' := by
 unfold xI at h
 dsimp only at h
 split at h
 ·injection h with h; injection h with _ h; subst h; exact .row _ _ _
 ·cases h
theorem a5l {H H' : Heap} {t : TypeId} {s x r : Value} (h : nS P H t s x = some (r, H')) : LK H H' := by
 unfold nS at h
 simp only [cX] at h
 obtain ⟨elem, _, size, _, bytes, _, z, _, ⟨n, l⟩, _, h⟩ := h
 try dsimp only at h
 split at h
 ·split at h
  ·split at h
   ·injection h with h; injection h with _ h; subst h; exact .refl _
   ·injection h with h; injection h with _ h; subst h; exact .row _ _ _
  ·cases h
 ·split at h
  ·split at h
   ·injection h with h; injection h with _ h; subst h; exact .hset _ _ rfl
   ·split at h
    ·injection h with h; injection h with _ h; subst h; exact .hset _ _ rfl
    ·cases h
  ·cases h
 ·cases h
theorem a7F {H H' : Heap} {t : TypeId} {v r : Value} (h : qD P H t v = some (r, H')) : LK H H' := by
 unfold qD at h
 split at h
 ·dsimp only at h
  rename_i n elem _
  have key : ∀ (b : Bool), (if b = true then some (Value.pointer (some ⟨H.length, 0, some v.cells.toList.length⟩), b6F H elem v.cells.toList) else none) = some (r, H') → LK H H' := by
   intro b h
   cases b
   ·cases h
   ·injection h with h; injection h with _ h; subst h; rw [yZ]; exact .cons _ _
  exact key _ h
 ·exact a4B h
theorem a4N {H H' : Heap} {t : TypeId} {x y r : Value} (h : vR P H t x y = some (r, H')) : LK H H' := by
 unfold vR at h
 split at h
 ·split at h
  ·split at h
   ·simp only [dh] at h
    obtain ⟨_, _, h⟩ := h
    injection h with _ h; subst h; exact .hset _ _ rfl
   ·cases h
  ·cases h
 ·cases h
theorem a4X {H H' : Heap} {k : FuncId} {args : List Value} {r : Value} (h : qL P k args H = some (r, H')) : LK H H' := by
 unfold qL at h
 simp only [cX] at h
 obtain ⟨fn, _, h⟩ := h
 split at h
 case isFalse => cases h
 split at h
 ·split at h
  ·injection h with h; injection h with _ h; subst h; exact .refl _
  ·cases h
 split at h
 ·split at h
  ·split at h
   ·simp only [cX] at h
    obtain ⟨_, _, h⟩ := h
    split at h
    ·injection h with h; injection h with _ h; subst h; exact .row _ _ _
    ·cases h
   ·cases h
  ·cases h
 split at h
 ·split at h
  ·split at h
   ·split at h
    ·injection h with h; injection h with _ h; subst h; exact .refl _
    ·cases h
   ·cases h
  ·cases h
 ·cases h
theorem a9W {H H' : Heap} {t : TypeId} {s x r : Value} (h : a0U P H t s x = some (r, H')) : LK H H' := by
 unfold a0U at h
 simp only [cX] at h
 obtain ⟨elem, _, size, _, m, _, h⟩ := h
 try dsimp only at h
 split at h
 ·split at h
  ·injection h with h; injection h with _ h; subst h; exact .refl _
  ·cases h
 ·split at h
  ·injection h with h; injection h with _ h; subst h; exact .refl _
  ·simp only [cX] at h
   obtain ⟨l, _, h⟩ := h
   split at h
   ·split at h
    ·injection h with h; injection h with _ h; subst h; exact .hset _ _ rfl
    ·cases h
   ·cases h
 ·cases h
theorem a8i {H H' : Heap} {t : TypeId} {x r : Value} (h : tO P H t x = some (r, H')) : LK H H' := by
 unfold tO at h
 simp only [cX] at h
 obtain ⟨elem, _, z, _, h⟩ := h
 split at h
 ·injection h with h; injection h with _ h; subst h; exact .refl _
 ·split at h
  ·injection h with h; injection h with _ h; subst h; exact .refl _
  ·try dsimp only at h
   split at h
   ·split at h
    ·injection h with h; injection h with _ h; subst h; exact .hset _ _ rfl
    ·cases h
   ·cases h
 ·cases h
theorem b1R {H H' : Heap} {t : TypeId} {m k v : Value} (h : a1t P H t m k v = some H') : LK H H' := by
 unfold a1t at h
 simp only [cX] at h
 obtain ⟨⟨kt, et⟩, _, h⟩ := h
 dsimp only at h
 split at h
 ·split at h
  ·split at h
   ·simp only [cX] at h
    obtain ⟨r, _, h⟩ := h
    split at h
    ·simp only [cX] at h
     obtain ⟨e, _, h⟩ := h
     split at h
     ·injection h with h; subst h; exact .hset _ _ rfl
     ·cases h
    ·injection h with h; subst h; exact .hset _ _ rfl
   ·cases h
  ·cases h
 ·cases h
theorem a7d {H H' : Heap} {t : TypeId} {m k r : Value} (h : sX P H t m k = some (r, H')) : LK H H' := by
 unfold sX at h
 simp only [cX] at h
 obtain ⟨⟨kt, et⟩, _, h⟩ := h
 dsimp only at h
 split at h
 ·split at h
  ·split at h
   ·simp only [cX] at h
    obtain ⟨r, _, h⟩ := h
    split at h
    ·simp only [cX] at h
     obtain ⟨e, _, h⟩ := h
     split at h
     ·injection h with h; injection h with _ h; subst h; exact .hset _ _ rfl
     ·cases h
    ·simp only [cX] at h
     obtain ⟨z, _, h⟩ := h
     split at h
     ·injection h with h; injection h with _ h; subst h; exact .hset _ _ rfl
     ·cases h
   ·cases h
  ·cases h
 ·cases h
theorem a7g {H H' : Heap} {m b v : Value} (h : rT H m b v = some H') : LK H H' := by
 unfold rT at h
 split at h
 ·split at h
  ·split at h
   ·simp only [cX] at h
    obtain ⟨e, _, h⟩ := h
    injection h with h; subst h; exact .hset _ _ rfl
   ·cases h
  ·cases h
 ·cases h
theorem a3v {H H' : Heap} {t : TypeId} {o : Option Value} {r : Value} (h : pV P H t o = some (r, H')) : LK H H' := by
 unfold pV at h
 simp only [cX] at h
 obtain ⟨_, _, h⟩ := h
 split at h
 ·injection h with h; injection h with _ h; subst h; exact .cons _ _
 ·injection h with h; injection h with _ h; subst h; exact .cons _ _
 ·cases h
theorem a6R {H H' : Heap} {o : Oper} {l : List Value} {r : Value} (h : kP P o l H = some (r, H')) : H' = H := by
 unfold kP at h
 split at h
 ·split at h
  ·split at h
   ·injection h with h; injection h with _ h; exact h.symm
   ·cases h
  ·cases h
 ·cases h
theorem vV {H H' : Heap} {v r : Value} (h : some (v, H) = some (r, H')) : LK H H' := by injection h with h; injection h with _ h; subst h; exact .refl _
theorem vG {H H' : Heap} {v : Option Value} {r : Value} (h : v.map (fun v => (v, H)) = some (r, H')) : LK H H' := by
 cases v with
 | none => cases h
 | some v => exact vV h
set_option maxHeartbeats 1000000 in
theorem b6u {H H' : Heap} {o : Oper} {l : List Value} {r : Value} (h : opD P o l H = some (r, H')) : LK H H' := by
 obtain ⟨dst, op, type, pos, after, guard⟩ := o
 have pl : ∀ {o : Oper}, kP P o l H = some (r, H') → LK H H' := fun h => by rw [a6R h]; exact .refl _
 cases op with
 | alloc t =>
   simp only [opD, cX] at h
   obtain ⟨z, _, h⟩ := h
   split at h
   ·exact a7F h
   ·cases h
 | box t x => simp only [opD] at h; exact a4B h
 | store t x y =>
   simp only [opD, dh] at h
   obtain ⟨H1, h, e⟩ := h
   injection e with _ e; subst e
   exact a7a h
 | mapUpdate t m x y =>
   simp only [opD, dh] at h
   obtain ⟨H1, h, e⟩ := h
   injection e with _ e; subst e
   exact b1R h
 | mapEntry t m x => simp only [opD] at h; exact a7d h
 | entryStore t m x y =>
   simp only [opD, dh] at h
   obtain ⟨H1, h, e⟩ := h
   injection e with _ e; subst e
   exact a7g h
 | makeMap t x => simp only [opD] at h; exact a3v h
 | buildSlice t len parts =>
   simp only [opD, cX] at h
   obtain ⟨elem, _, size, _, z, _, h⟩ := h
   split at h
   ·injection h with h; injection h with _ h; subst h; exact .row _ _ _
   split at h
   ·simp only [dh] at h
    obtain ⟨cs, _, e⟩ := h
    injection e with _ e; subst e
    exact .row _ _ _
   ·cases h
 | makeSlice t n c =>
   simp only [opD, cX] at h
   obtain ⟨elem, _, size, _, bytes, _, z, _, h⟩ := h
   split at h
   ·split at h
    ·injection h with h; injection h with _ h; subst h; exact .row _ _ _
    ·cases h
   ·cases h
 | call c =>
   simp only [opD] at h
   split at h
   ·split at h
    ·split at h
     all_goals first | exact vG h | cases h
    ·cases h
   ·split at h
    ·exact a5l h
    ·cases h
   ·split at h
    ·exact a9W h
    ·cases h
   ·split at h
    ·exact a8i h
    ·cases h
   ·exact pl h
   ·split at h
    ·split at h
     ·split at h
      ·cases h
      ·exact vV h
     ·cases h
    ·cases h
   ·split at h
    ·exact a4N h
    ·cases h
   ·exact pl h
   ·exact pl h
   ·cases h
 | convert s t x =>
   simp only [opD] at h
   split at h
   ·exact pl h
   ·split at h
    ·split at h
     ·exact vG h
     ·cases h
    ·split at h
     ·simp only [cX] at h
      obtain ⟨_, _, h⟩ := h
      injection h with h; injection h with _ h; subst h
      rw [b1i]; exact .cons _ _
     ·cases h
    ·split at h
     ·exact vV h
     ·cases h
    ·cases h
 | slice t x lo hi mx =>
   cases mx with
   | some _ => simp only [opD] at h; cases h
   | none =>
     simp only [opD] at h
     split at h
     ·exact pl h
     ·split at h
      ·exact vG h
      ·exact vG h
 | _ =>
   simp only [opD] at h
   repeat' first
    | exact LK.refl _
    | exact vV h
    | exact vG h
    | exact pl h
    | (cases h; done)
    | split at h
    | (simp only [cX, dh] at h; obtain ⟨_, _, h⟩ := h)
    | (obtain ⟨_, _, h⟩ := h)
    | (injection h with h; injection h with _ h; subst h; exact LK.refl _)
    | (injection h with _ h; subst h; exact LK.refl _)
    | (cases h; exact LK.refl _)
end
end Go.Ds
namespace Go.Ds
variable {P : Program}
structure CallsOk (P : Program) (C : Calls') (H0 : Heap) : Prop where
 fn : ∀ p f args H v H1, LK H0 H → (C.fn p f args H).Is v H1 → p = kO f → (FnS P f args H (fun v' H' => v' = v ∧ H' = H1) ∨ qL P f args H = some (v, H1)) ∧ LK H H1
 rd : ∀ L args H v H1, LK H0 H → (C.rd L args H).Is v H1 → xZ P L args H v H1 ∧ LK H H1
noncomputable def iV (x : Operand) : LArg := match x with
 | .tmp t => .t (kO t)
 | .const v => .c v
 | .global g => .c (.pointer (some ⟨g, 0, none⟩))
 | .func k => .c (.func (.func k) #[] #[])
theorem kY {α : Type} (x : Operand) (K : LArg → α) : lP x K = K (iV x) := by
 cases x with
 | tmp t => exact lJ _ _
 | _ => rfl
theorem jS {f : Fr} {l : List Value} (h : FAg f l) (x : Operand) : mQ f (iV x) = ev l x := by
 cases x with
 | tmp t => exact h t
 | _ => rfl
theorem a3Z {α : Type} (l : List Operand) (K : List LArg → α) : a5j l K = K (l.map iV) := by
 induction l generalizing K with
 | nil => rfl
 | cons x l ih =>
   show lP x (fun x => a5j l fun l => K (x :: l)) = _
   rw [kY, ih]; rfl
theorem a8d {α : Type} {f : Fr} {l : List Value} (h : FAg f l) (xs : List Operand) (K : List Value → α) : a4b f (xs.map iV) K = K (xs.map (ev l)) := by
 induction xs generalizing K with
 | nil => rfl
 | cons x xs ih =>
   show oR (mQ f (iV x)) (fun v => a4b f (xs.map iV) fun l => K (v :: l)) = _
   rw [mX, ih, jS h]; rfl
theorem c2I {f : Fr} {l : List Value} (h : FAg f l) : evF f = ev l := by
 funext x
 cases x with
 | tmp t => exact h t
 | _ => rfl
def wH (P : Program) (o : Oper) (lo : LOp) : Prop := ∀ C H0 f l H v H1, CallsOk P C H0 → LK H0 H → FAg f l → (opF P C lo f H).Is v H1 → StepR P o l H v H1 ∧ LK H H1
def LowPl (P : Program) (o : Oper) (lo : LOp) : Prop := ∀ C f l H v H1, FAg f l → (opF P C lo f H).Is v H1 → opD P o l H = some (v, H1)
theorem LowPl.low {o : Oper} {lo : LOp} (hok : o.op.operands.toList.all iP = true) (h : LowPl P o lo) : wH P o lo :=
 fun C _ f l H v H1 _ _ hf hr => by have := h C f l H v H1 hf hr; exact ⟨.op hok this, b6u this⟩
theorem b9Q (o : Oper) : wH P o .bad := fun _ _ _ _ _ _ _ _ _ _ h => absurd h Rs.ar
theorem c0b (o : Oper) : LowPl P o (.gen o) := fun C f l H v H1 hf hr => by
 have hr : (match c1m P o (evF f) H with | some (v, H1) => Rs.th v H1 | none => .no).Is v H1 := hr
 rw [c2I hf] at hr
 have e : c1m P o (ev l) H = opD P o l H := rfl
 rw [e] at hr
 split at hr
 ·rename_i v2 H2 h2
  obtain ⟨rfl, rfl⟩ := Rs.aQ hr
  exact h2
 ·exact absurd hr Rs.ar
section
variable {dst : Option Tmp} {type : TypeId} {pos : String} {after : Array Edge} {guard : Option (Nat × Bool)}
theorem c1V (x : Operand) : LowPl P ⟨dst, .move x, type, pos, after, guard⟩ (.mv (iV x)) := fun C f l H v H1 hf hr => by
 have hr : (oR (mQ f (iV x)) fun v => Rs.ok v H).Is v H1 := hr
 rw [mX, jS hf] at hr
 obtain ⟨rfl, rfl⟩ := Rs.aL hr
 rfl
theorem c2V (x : Operand) : LowPl P ⟨dst, .assign x, type, pos, after, guard⟩ (.mv (iV x)) := fun C f l H v H1 hf hr => by
 have hr : (oR (mQ f (iV x)) fun v => Rs.ok v H).Is v H1 := hr
 rw [mX, jS hf] at hr
 obtain ⟨rfl, rfl⟩ := Rs.aL hr
 rfl
theorem b6q (c a b : Operand) : LowPl P ⟨dst, .pick c a b, type, pos, after, guard⟩ (.pick (iV c) (iV a) (iV b)) := fun C f l H v H1 hf hr => by
 have hr : (b4v (iV c) (iV a) (iV b) f H).Is v H1 := hr
 unfold b4v at hr
 rw [jS hf] at hr
 split at hr
 ·rename_i t ht
  rw [mX] at hr
  simp only [opD, ht]
  cases t
  ·have hr : (Rs.ok (mQ f (iV b)) H).Is v H1 := hr
   rw [jS hf] at hr
   obtain ⟨rfl, rfl⟩ := Rs.aL hr; rfl
  ·have hr : (Rs.ok (mQ f (iV a)) H).Is v H1 := hr
   rw [jS hf] at hr
   obtain ⟨rfl, rfl⟩ := Rs.aL hr; rfl
 ·exact absurd hr Rs.ar
theorem b9g (a b : Int) : c3Z a b = a * b := by cases a <;> cases b <;> rfl
theorem a5K (a b : Int) : c4m a b = a.tdiv b := by cases a <;> cases b <;> rfl
theorem a5T (a b : Int) : c5R a b = a.tmod b := by cases a <;> cases b <;> rfl
theorem c0q {op : BinOp} {g : IntKind → Int → Int → Option Value} (h : b9S op = some g) (k : IntKind) (a b : Int) : mP op k a b = g k a b := by
 cases op <;> simp only [b9S] at h <;> first | (cases h; done) | (injection h with h; subst h)
 all_goals first
  | rfl
  | (simp only [mP, c5v, b9g]; done)
  | (simp only [mP, b8U, a5K]; done)
  | (simp only [mP, b8g, a5T]; done)
  | (simp only [mP, b8U, a5K]; rfl)
  | (simp only [mP, b8g, a5T]; rfl)
  | (simp only [mP, b8U, a5K]; cases eqI b 0 <;> rfl)
  | (simp only [mP, b8g, a5T]; cases eqI b 0 <;> rfl)
theorem c4q {o : Option Value} {H H1 : Heap} {v : Value} (h : (oV o H).Is v H1) : o = some v ∧ H1 = H := by
 cases o with
 | none => exact absurd h Rs.ar
 | some w => obtain ⟨rfl, rfl⟩ := Rs.aQ h; exact ⟨rfl, rfl⟩
theorem b5n {o : Option Value} {H H1 : Heap} {v : Value} (h : (okV o H).Is v H1) : o = some v ∧ H1 = H := by
 cases o with
 | none => exact absurd h Rs.ar
 | some w =>
   have h : (oR w fun v => Rs.ok v H).Is v H1 := h
   rw [mX] at h
   obtain ⟨rfl, rfl⟩ := Rs.aL h; exact ⟨rfl, rfl⟩
theorem b8y {op : BinOp} {g : IntKind → Int → Int → Option Value} (hg : b9S op = some g) (t yt : TypeId) (x y : Operand) : LowPl P ⟨dst, .binOp op t x y yt, type, pos, after, guard⟩ (.bin g (iV x) (iV y)) := fun C f l H v H1 hf hr => by
 have hr : (c1u g (iV x) (iV y) f H).Is v H1 := hr
 unfold c1u at hr
 rw [jS hf] at hr
 split at hr
 ·rename_i k a hx
  unfold c0Z at hr
  rw [jS hf] at hr
  split at hr
  ·rename_i k' b hy
   obtain ⟨hk, hq⟩ := lC hr
   obtain rfl := b7X hk
   obtain ⟨hv, rfl⟩ := c4q hq
   rw [← c0q hg] at hv
   have : opD P ⟨dst, .binOp op t x y yt, type, pos, after, guard ⟩ l H1 = if k = k then (match mP op k a b with | some v => some (v, H1) | none => kP P ⟨dst, .binOp op t x y yt, type, pos, after, guard ⟩ l H1) else kP P ⟨dst, .binOp op t x y yt, type, pos, after, guard ⟩ l H1 := by
    simp only [opD, hx, hy]
    cases op <;> rfl
   rw [this, if_pos rfl, hv]
  ·exact absurd hr Rs.ar
 ·exact absurd hr Rs.ar
theorem b8k {b : Option Blk} {i e : Nat} {H H1 : Heap} {v : Value} (h : (b9z b i e H).Is v H1) : H1 = H ∧ ∃ cs ty rw lo ver, b = some (.cells cs ty rw lo ver) ∧ lo ≤ e ∧ e ≤ cs.length ∧ i + 1 ≤ e ∧ cs[i]? = some v := by
 unfold b9z at h
 split at h
 ·rename_i cs ty rw lo ver
  obtain ⟨h1, h⟩ := lC h
  obtain ⟨h2, h⟩ := lC h
  obtain ⟨h3, h⟩ := lC h
  have h : (okV (a1u cs i) H).Is v H1 := h
  obtain ⟨h4, h5⟩ := b5n h
  rw [yI] at h2
  rw [zJ] at h4
  exact ⟨h5, cs, ty, rw, lo, ver, rfl, ez h1, by simpa using h2, ez h3, h4⟩
 ·exact absurd h Rs.ar
theorem b7L {b : Option Blk} {n i e : Nat} {H H1 : Heap} {v : Value} (h : (b8E b n i e H).Is v H1) : H1 = H ∧ ∃ cs ty rw lo ver, b = some (.cells cs ty rw lo ver) ∧ lo ≤ e ∧ e ≤ cs.length ∧ i + n ≤ e ∧ v = .agg ((cs.drop i).take n).toArray := by
 unfold b8E at h
 split at h
 ·rename_i cs ty rw lo ver
  obtain ⟨h1, h⟩ := lC h
  obtain ⟨h2, h⟩ := lC h
  obtain ⟨h3, h⟩ := lC h
  obtain ⟨h4, h⟩ := a7i h
  obtain ⟨rfl, rfl⟩ := Rs.aL h
  rw [yI] at h2
  exact ⟨rfl, cs, ty, rw, lo, ver, rfl, ez h1, by simpa using h2, ez h3, by rw [a7R]⟩
 ·exact absurd h Rs.ar
theorem b1I {X : LArg} {f : Fr} {H H1 : Heap} {v w : Value} {t : TypeId} (ht : jQ P t = some false) (hw : mQ f X = w) (h : (b3U X f H).Is v H1) : H1 = H ∧ lN P H t w = some v := by
 unfold b3U at h
 rw [hw] at h
 split at h
 ·rename_i A i e
  obtain ⟨h1, cs, ty, rw', lo, ver, h2, h3, h4, h5, h6⟩ := b8k h
  refine ⟨h1, ?_⟩
  simp only [lN, ht, jE, h2]
  rw [if_pos (by simp; omega)]
  simp [h6]
 ·rename_i A i
  unfold c1I at h
  split at h
  ·rename_i cs ty lo hg
   obtain ⟨h1, h⟩ := lC h
   rw [yI] at h1
   have h1 : lo ≤ cs.length := by simpa using h1
   cases hn : a1u cs i with
   | none => rw [hn] at h; exact absurd h Rs.ar
   | some c =>
     rw [hn] at h
     have h : (oR c fun v => Rs.ok v H).Is v H1 := h
     rw [mX] at h
     obtain ⟨rfl, rfl⟩ := Rs.aL h
     rw [zJ] at hn
     have hi := (dr.1 hn).1
     refine ⟨rfl, ?_⟩
     simp only [lN, ht, jE, hg]
     rw [if_pos (by simp; omega)]
     simp [hn]
  ·exact absurd h Rs.ar
 ·exact absurd h Rs.ar
theorem b1m {X : LArg} {f : Fr} {H H1 : Heap} {v w : Value} {t : TypeId} {n : Nat} (ht : jQ P t = some true) (hn : iE P t = some n) (hw : mQ f X = w) (h : (b2A n X f H).Is v H1) : H1 = H ∧ lN P H t w = some v := by
 unfold b2A at h
 rw [hw] at h
 split at h
 ·rename_i A i e
  obtain ⟨h1, cs, ty, rw', lo, ver, h2, h3, h4, h5, h6⟩ := b7L h
  refine ⟨h1, ?_⟩
  simp only [lN, ht, hn, cW, jE, h2]
  rw [if_pos (by simp; omega), h6]
  rfl
 ·exact absurd h Rs.ar
theorem b9x {t : TypeId} (ht : jQ P t = some false) (x : Operand) : LowPl P ⟨dst, .load t x, type, pos, after, guard⟩ (.ld1 (iV x)) := fun C f l H v H1 hf hr => by
 obtain ⟨rfl, h⟩ := b1I (P := P) ht (jS hf x) hr
 simp only [opD, h, dN]
theorem b7T {t : TypeId} {n : Nat} (ht : jQ P t = some true) (hn : iE P t = some n) (x : Operand) : LowPl P ⟨dst, .load t x, type, pos, after, guard⟩ (.ldn n (iV x)) := fun C f l H v H1 hf hr => by
 obtain ⟨rfl, h⟩ := b1m (P := P) ht hn (jS hf x) hr
 simp only [opD, h, dN]
theorem c1h {t : TypeId} {n : Nat} (hn : iE P t = some n) (x y : Operand) : LowPl P ⟨dst, .store t x y, type, pos, after, guard⟩ (.st n (iV x) (iV y)) := fun C f l H v H1 hf hr => by
 have hr : (hSt n (iV x) (iV y) f H).Is v H1 := hr
 unfold hSt at hr
 rw [jS hf, jS hf] at hr
 split at hr
 ·rename_i A i e hx
  unfold stB at hr
  split at hr
  ·rename_i cs ty lo ver hg
   obtain ⟨h1, hr⟩ := lC hr
   obtain ⟨h2, hr⟩ := lC hr
   obtain ⟨h3, hr⟩ := lC hr
   obtain ⟨h4, hr⟩ := lC hr
   obtain ⟨h5, hr⟩ := lC hr
   obtain ⟨rfl, rfl⟩ := Rs.aQ hr
   rw [zB] at h1 h3
   have h1 : n = (ev l y).cells.toList.length := by simpa only [decide_eq_true_eq] using h1
   have h3 : e = cs.length := by simpa only [decide_eq_true_eq] using h3
   have h4 : i + n ≤ e := ez h4
   have h5 : lo ≤ e := ez h5
   simp only [opD, qV, hx, hg]
   rw [if_pos ⟨by rw [hn, h1], h2, h3, by omega, h5⟩]
   simp only [dN]
   rw [h3]
  ·exact absurd hr Rs.ar
 ·exact absurd hr Rs.ar
theorem c2y {s : TypeId} {k n : Nat} {fd : Field} (hf' : oN P s k = some fd) (hn : iE P fd.type = some n) (hn0 : n ≠ 0) (x : Operand) : LowPl P ⟨dst, .fieldAddr s x k, type, pos, after, guard⟩ (.fa fd.offset (iV x)) := fun C f l H v H1 hf hr => by
 have hr : (hFa fd.offset (iV x) f H).Is v H1 := hr
 unfold hFa at hr
 rw [jS hf] at hr
 split at hr
 ·rename_i A i e hx
  rw [kA] at hr
  obtain ⟨rfl, rfl⟩ := Rs.aL hr
  simp only [opD, hx, hf', cW, hn]
  rw [if_neg (by simpa using hn0)]; rfl
 ·exact absurd hr Rs.ar
theorem b6Y {A i e size n : Nat} {H H1 : Heap} {j v : Value} (h : (ixP A i e size n H j).Is v H1) : H1 = H ∧ ∃ k m, j = .int k (.ofNat m) ∧ m < n ∧ v = .pointer (some ⟨A, i + m * size, some e⟩) := by
 unfold ixP at h
 split at h
 ·rename_i k m
  obtain ⟨h1, h⟩ := lC h
  rw [kA] at h
  obtain ⟨rfl, rfl⟩ := Rs.aL h
  rw [blt_eq] at h1
  exact ⟨rfl, k, m, rfl, by simpa using h1, rfl⟩
 ·exact absurd h Rs.ar
theorem c0l {t elem : TypeId} {size : Nat} (ht : P.underlying t = some (.slice elem)) (hs : iE P elem = some size) (x i : Operand) : LowPl P ⟨dst, .indexAddr t x i, type, pos, after, guard⟩ (.ixs size (iV x) (iV i)) := fun C f l H v H1 hf hr => by
 have hr : (c2B size (iV x) (iV i) f H).Is v H1 := hr
 unfold c2B at hr
 rw [jS hf, jS hf] at hr
 split at hr
 ·rename_i A a e n c hx
  obtain ⟨rfl, k, m, hj, hm, rfl⟩ := b6Y hr
  simp only [opD, ht, hx, hj, hs, cW]
  rw [if_pos (by simp; omega)]
  rfl
 ·exact absurd hr Rs.ar
theorem c4O (a b : Nat) : Nat.beq a b = (a == b) := by
 cases h : Nat.beq a b with
 | true => rw [dY h]; simp
 | false => have := Nat.ne_of_beq_eq_false h; simp [this]
theorem c2x {A i size n : Nat} {H H1 : Heap} {j v : Value} (h : (ixG A i size n H j).Is v H1) : H1 = H ∧ ∃ k m, j = .int k (.ofNat m) ∧ m < n ∧ v = .pointer (some ⟨A, i + m * size, none⟩) := by
 unfold ixG at h
 split at h
 ·rename_i k m
  obtain ⟨h1, h⟩ := lC h
  rw [kA] at h
  obtain ⟨rfl, rfl⟩ := Rs.aL h
  exact ⟨rfl, k, m, rfl, by simpa [ib] using h1, rfl⟩
 ·exact absurd h Rs.ar
theorem b7W {t elem : TypeId} {n size : Nat} (ht : P.underlying t = some (.array n elem)) (hs : iE P elem = some size) (x i : Operand) : LowPl P ⟨dst, .indexAddr t x i, type, pos, after, guard⟩ (.ixa n size (iV x) (iV i)) := fun C f l H v H1 hf hr => by
 have hr : (c2H n size (iV x) (iV i) f H).Is v H1 := hr
 unfold c2H at hr
 rw [jS hf, jS hf] at hr
 split at hr
 ·rename_i A a e hx
  obtain ⟨rfl, k, m, hj, hm, rfl⟩ := b6Y hr
  simp only [opD, ht, hx, hj, hs, cW]
  rw [if_pos (by simp; omega)]
  rfl
 ·rename_i A a hx
  obtain ⟨rfl, k, m, hj, hm, rfl⟩ := c2x hr
  simp only [opD, ht, hx, hj, hs, cW]
  rw [if_pos (by simp; omega)]
  rfl
 ·exact absurd hr Rs.ar
theorem b9G (i : Nat) (x : Operand) : LowPl P ⟨dst, .extract x i, type, pos, after, guard⟩ (.ext i (iV x)) := fun C f l H v H1 hf hr => by
 have hr : (c1N i (iV x) f H).Is v H1 := hr
 unfold c1N at hr
 rw [jS hf] at hr
 split at hr
 ·rename_i vs hx
  obtain ⟨h1, rfl⟩ := b5n hr
  rw [zJ] at h1
  simp only [opD, hx]
  simp [h1]
 ·exact absurd hr Rs.ar
theorem b9a {c : Call} {elem : TypeId} (hc : c.callee = .builtin .len) (h1 : c.args.size = 1) (h2 : c.argTypes.size = 1) (ht : P.underlying (c.argTypes.getD 0 0) = some (.slice elem)) : LowPl P ⟨dst, .call c, type, pos, after, guard⟩ (.len (iV (c.args.getD 0 (.tmp 0)))) := fun C f l H v H1 hf hr => by
 have hr : (c2D (iV (c.args.getD 0 (.tmp 0))) f H).Is v H1 := hr
 unfold c2D at hr
 rw [jS hf] at hr
 split at hr
 ·rename_i a n k hx
  obtain ⟨rfl, rfl⟩ := Rs.aQ hr
  simp only [opD, hc, h1, h2, ht, hx, xJ]; rfl
 ·exact absurd hr Rs.ar
theorem b4E {c : Call} (hc : c.callee = .builtin .len) (h1 : c.args.size = 1) (h2 : c.argTypes.size = 1) (ht : P.underlying (c.argTypes.getD 0 0) = some .string) : LowPl P ⟨dst, .call c, type, pos, after, guard⟩ (.slen (iV (c.args.getD 0 (.tmp 0)))) := fun C f l H v H1 hf hr => by
 have hr : (b6d (iV (c.args.getD 0 (.tmp 0))) f H).Is v H1 := hr
 unfold b6d at hr
 rw [jS hf] at hr
 split at hr
 ·rename_i s hx
  obtain ⟨rfl, rfl⟩ := Rs.aQ hr
  simp only [opD, hc, h1, h2, ht, hx, xJ]; rfl
 ·exact absurd hr Rs.ar
theorem b7V {c : Call} {elem : TypeId} {size bytes : Nat} {z : Value} (hc : c.callee = .builtin .append) (h1 : c.args.size = 2) (h2 : c.argTypes.size = 2) (hi : ((P.underlying (c.argTypes.getD 1 0)).map qA) = some true)
 (he : iJ P (c.argTypes.getD 0 0) = some elem) (hs : iE P elem = some size) (hb : nX P elem = some bytes) (hz : jA P elem = some z) (hzs : z.cells.size = size) (hs0 : size ≠ 0) :
 LowPl P ⟨dst, .call c, type, pos, after, guard⟩ (.app elem size bytes (iV (c.args.getD 0 (.tmp 0))) (iV (c.args.getD 1 (.tmp 0)))) := fun C f l H v H1 hf hr => by
 have hr : (c2j P elem size bytes (iV (c.args.getD 0 (.tmp 0))) (iV (c.args.getD 1 (.tmp 0))) f H).Is v H1 := hr
 unfold c2j at hr
 rw [jS hf, jS hf] at hr
 have hD : opD P ⟨dst, .call c, type, pos, after, guard⟩ l H = nS P H (c.argTypes.getD 0 0) (ev l (c.args.getD 0 (.tmp 0))) (ev l (c.args.getD 1 (.tmp 0))) := by
  simp only [opD, hc, h1, h2, hi]; rfl
 rw [hD]
 unfold nS
 rw [he, cW, hs, cW, hb, cW, hz, cW]
 split at hr
 ·rename_i n m hsrc
  rw [hsrc, cW]
  unfold c5h at hr
  split at hr
  ·rename_i k cc hx
   obtain ⟨g1, hq1⟩ := lC hr
   obtain ⟨g2, hq2⟩ := lC hq1
   obtain ⟨g3, hq⟩ := lC hq2
   clear hr hq1 hq2
   obtain rfl : k = 0 := dY g1
   obtain rfl : cc = 0 := dY g2
   have g3 : n * (bytes + 1) ≤ pF := ez g3
   simp only [hx]
   rw [if_pos (by simp [hs0, hzs, g3])]
   rw [kM] at hq
   by_cases hn : n = 0
   ·subst hn
    rw [if_pos (by rfl)] at hq
    obtain ⟨rfl, rfl⟩ := Rs.aL hq
    simp
   ·rw [if_neg (fun e => hn (dY e))] at hq
    obtain ⟨rfl, rfl⟩ := Rs.aQ hq
    simp [hn]
  ·rename_i A i e k cc hx
   unfold c5C at hr
   split at hr
   ·rename_i cs ty lo ver hg
    obtain ⟨g2, hr⟩ := lC hr
    obtain ⟨g4, hr⟩ := lC hr
    obtain ⟨g5, hr⟩ := lC hr
    have g2 : (ty == elem || iE P ty == some size) = true := by
     rw [c4O] at g2
     cases hh : (ty == elem) with
     | true => rfl
     | false => rw [hh] at g2; exact g2
    rw [zB] at g4
    have g4 : e = cs.length := by simpa only [decide_eq_true_eq] using g4
    have g5 : lo ≤ e := ez g5
    simp only [hx, hg]
    rw [kM] at hr
    by_cases g3 : i + k * size = e
    ·rw [if_pos (by simpa using g3)] at hr
     obtain ⟨g1, hr⟩ := lC hr
     obtain ⟨rfl, rfl⟩ := Rs.aQ hr
     have g1 : (k + n) * (bytes + 1) ≤ pF := ez g1
     have et : (Bool.rec (motive := fun _ => Nat) 2 ver (Nat.beq ty elem)) = (if (ty == elem) = true then ver else 2) := by
      rw [c4O]
      cases hh : (ty == elem) with
      | true => rfl
      | false => rfl
     rw [et, if_pos (by simp only [g2, fu, cV, bne_iff_ne, beq_iff_eq, decide_eq_true_eq]; exact ⟨⟨⟨⟨⟨hs0, g1⟩, by simpa using hzs⟩, g3⟩, g4⟩, g5⟩)]
    ·rw [if_neg (by simpa using g3)] at hr
     rw [kM] at hr
     by_cases hn : n = 0
     ·rw [if_pos (by simpa using hn)] at hr
      exact absurd hr Rs.ar
     ·rw [if_neg (by simpa using hn)] at hr
      obtain ⟨g6, hr⟩ := lC hr
      obtain ⟨rfl, rfl⟩ := Rs.aQ hr
      have g6 : i + (k + n) * size ≤ e := ez g6
      rw [if_neg (by simp [g3]), if_pos (by simp only [g2, fu, cV, bne_iff_ne, beq_iff_eq, decide_eq_true_eq]; exact ⟨⟨⟨⟨⟨hs0, hn⟩, by simpa using hzs⟩, g6⟩, g4⟩, g5⟩), g4]
   ·exact absurd hr Rs.ar
  ·exact absurd hr Rs.ar
 ·exact absurd hr Rs.ar
theorem b2W {c : Call} {k : FuncId} (hc : c.callee = .value (.func k)) (hok : (Op.call c).operands.toList.all iP = true) : wH P ⟨dst, .call c, type, pos, after, guard⟩ (.callF k (kO k) (c.args.toList.map iV)) := fun C H0 f l H v H1 hC hk hf hr => by
 have hr : (a4b f (c.args.toList.map iV) fun l => C.fn (kO k) k l H).Is v H1 := hr
 rw [a8d hf] at hr
 obtain ⟨h1 | hx, h2⟩ := hC.fn _ _ _ _ _ _ hk hr rfl
 case inr => exact ⟨.ext hok c (.func k) k #[] #[] rfl hc rfl (by simpa using hx), h2⟩
 obtain ⟨he, v', H', hcall, rfl, rfl⟩ := h1.fn
 exact ⟨.call hok c (.func k) k #[] #[] rfl hc rfl he (by simpa using hcall), h2⟩
theorem b3w {c : Call} {g : Operand} (hc : c.callee = .value g) (hok : (Op.call c).operands.toList.all iP = true) : wH P ⟨dst, .call c, type, pos, after, guard⟩ (.callV (iV g) (c.args.toList.map iV)) := fun C H0 f l H v H1 hC hk hf hr => by
 have hr : (a4b f (c.args.toList.map iV) fun l => a9Q C l H (mQ f (iV g))).Is v H1 := hr
 rw [a8d hf, jS hf] at hr
 unfold a9Q at hr
 split at hr
 ·rename_i k a b hg
  rw [kA, lJ] at hr
  obtain ⟨h1 | hx, h2⟩ := hC.fn _ _ _ _ _ _ hk hr rfl
  case inr => exact ⟨.ext hok c g k ⟨a⟩ ⟨b⟩ rfl hc hg (by simpa [zP] using hx), h2⟩
  obtain ⟨he, v', H', hcall, rfl, rfl⟩ := h1.fn
  exact ⟨.call hok c g k ⟨a⟩ ⟨b⟩ rfl hc hg he (by simpa [zP] using hcall), h2⟩
 ·rename_i L a b hg
  obtain ⟨h1, h2⟩ := hC.rd _ _ _ _ _ hk hr
  exact ⟨.round hok c g L _ _ rfl hc hg h1, h2⟩
 ·exact absurd hr Rs.ar
end
set_option maxHeartbeats 1000000 in
theorem b1j {α : Type} (o : Oper) (K : LOp → α) : ∃ lo, wH P o lo ∧ zG P o K = K lo := by
 unfold zG
 rw [kM]
 by_cases hok : o.op.operands.toList.all iP = true
 case neg => rw [if_neg hok]; exact ⟨_, b9Q o, rfl⟩
 rw [if_pos hok]
 have gen : ∃ lo, wH P o lo ∧ K (.gen o) = K lo := ⟨_, (c0b o).low hok, rfl⟩
 obtain ⟨dst, op, type, pos, after, guard⟩ := o
 unfold c5K
 cases op with
 | move x => simp only [kY]; exact ⟨_, (c1V x).low hok, rfl⟩
 | assign x => simp only [kY]; exact ⟨_, (c2V x).low hok, rfl⟩
 | pick c a b => simp only [kY]; exact ⟨_, (b6q c a b).low hok, rfl⟩
 | binOp op t x y yt =>
   simp only [kY, kM]
   split
   ·split
    ·rename_i g hg; exact ⟨_, (b8y hg t yt x y).low hok, rfl⟩
    ·exact gen
   ·exact gen
 | load t x =>
   simp only [kY]
   split
   ·rename_i ht
    cases hn : iE P t with
    | none => exact gen
    | some n => rw [pP]; exact ⟨_, (b7T ht hn x).low hok, rfl⟩
   ·rename_i ht; exact ⟨_, (b9x ht x).low hok, rfl⟩
   ·exact gen
 | store t x y =>
   simp only [kY]
   cases hn : iE P t with
   | none => exact gen
   | some n => rw [pP]; exact ⟨_, (c1h hn x y).low hok, rfl⟩
 | fieldAddr s x k =>
   simp only [kY]
   split
   ·rename_i fd hfd
    split
    ·exact gen
    ·rename_i n hn0 hn
     rw [kA]
     exact ⟨_, (c2y hfd hn (fun e => hn0 e) x).low hok, rfl⟩
    ·exact gen
   ·exact gen
 | indexAddr t x i =>
   simp only [kY]
   split
   ·rename_i elem ht
    cases hs : iE P elem with
    | none => exact gen
    | some n => rw [pP]; exact ⟨_, (c0l ht hs x i).low hok, rfl⟩
   ·rename_i n elem ht
    cases hs : iE P elem with
    | none => exact gen
    | some m => rw [pP]; exact ⟨_, (b7W ht hs x i).low hok, rfl⟩
   ·exact gen
 | extract t i => simp only [kY]; rw [kA]; exact ⟨_, (b9G i t).low hok, rfl⟩
 | call c =>
   simp only
   unfold b4o
   split
   ·rename_i k hc
    rw [lJ, a3Z]
    exact ⟨_, b2W hc hok, rfl⟩
   ·rename_i g _ hc
    rw [kY, a3Z]
    exact ⟨_, b3w hc hok, rfl⟩
   ·rename_i hc
    rw [kM]
    split
    ·rename_i h1
     simp only [cV, beq_iff_eq] at h1
     split
     ·rename_i elem ht; rw [kY]; exact ⟨_, (b9a hc h1.1 h1.2 ht).low hok, rfl⟩
     ·rename_i ht; rw [kY]; exact ⟨_, (b4E hc h1.1 h1.2 ht).low hok, rfl⟩
     ·exact gen
    ·exact gen
   ·rename_i hc
    rw [kM]
    split
    ·rename_i h1
     simp only [cV, beq_iff_eq] at h1
     split
     ·rename_i elem he
      cases hs : iE P elem with
      | none => exact gen
      | some size =>
        rw [pP]
        cases hb : nX P elem with
        | none => exact gen
        | some bytes =>
          rw [pP]
          split
          ·rename_i z hz
           rw [kM]
           split
           ·rename_i h2
            simp only [cV, beq_iff_eq, bne_iff_ne] at h2
            rw [kA, kY, kY]
            exact ⟨_, (b7V hc h1.1.1 h1.1.2 h1.2 he hs hb hz h2.1 h2.2).low hok, rfl⟩
           ·exact gen
          ·exact gen
     ·exact gen
    ·exact gen
   ·exact gen
 | _ => exact gen
def DOk (k : Nat) (dst : Option Tmp) (d : Option Pth) : Prop := (dst = none ∧ d = none) ∨ ∃ t, dst = some t ∧ t < k ∧ d = some (kO t)
inductive LowOps (P : Program) (k : Nat) (ops : Array Oper) : List Oper → LOps → Prop
 | nil : LowOps P k ops [] .nil
 | cons {o : Oper} {os : List Oper} {d : Option Pth} {lo : LOp} {r : LOps} (hd : DOk k o.dst d) (ho : wH P o lo) (hg : o.guard = none) (hr : LowOps P k ops os r) : LowOps P k ops (o :: os) (.cons d lo r)
 | gcons {o : Oper} {os : List Oper} {d : Option Pth} {lo : LOp} {r : LOps} {j t : Nat} {w : Bool} (hd : DOk k o.dst d) (ho : wH P o lo) (hg : o.guard = some (j, w)) (ht : (ops[j]?).bind (·.dst) = some t) (htk : t < k) (hr : LowOps P k ops os r) : LowOps P k ops (o :: os) (.gcons (kO t) w d lo r)
def GOk (ops : Array Oper) (o : Oper) (g : Option (Pth × Bool)) : Prop := (o.guard = none ∧ g = none) ∨ ∃ j w t, o.guard = some (j, w) ∧ (ops[j]?).bind (·.dst) = some t ∧ g = some (kO t, w)
theorem GOk.runs {ops : Array Oper} {o : Oper} {g : Option (Pth × Bool)} (h : GOk ops o g) {f : Fr} {l : List Value} (hf : FAg f l) (hw : Region.wanted o (iU ops l) = true) : b4d f g = true := by
 rcases h with ⟨_, rfl⟩ | ⟨j, w, t, hg, ht, rfl⟩
 ·rfl
 ·simp only [Region.wanted, hg, iU, ht] at hw
  show isB (oG (kO t) f) w = true
  rw [hf t, oT, cZ]
  cases hl : l[t]? with
  | none => rw [hl] at hw; simp at hw
  | some v =>
    rw [hl] at hw
    cases v <;> simp at hw
    subst hw
    rename_i b
    cases b <;> rfl
inductive LowTab (P : Program) (ops : Array Oper) : List (Nat × Nat) → List (Nat × Option Nat × Option (Pth × Bool) × LOp) → Prop
 | nil : LowTab P ops [] []
 | cons {i m : Nat} {o : Oper} {lo : LOp} {tab : List (Nat × Nat)} {t : List (Nat × Option Nat × Option (Pth × Bool) × LOp)} {g : Option (Pth × Bool)} (ho : ops[i]? = some o) (hgd : GOk ops o g) (hl : wH P o lo) (hr : LowTab P ops tab t) :
    LowTab P ops ((i, m) :: tab) ((ops.size - 1 - i, if m < ops.size then some (ops.size - 1 - m) else none, g, lo) :: t)
inductive Low (P : Program) (k : Nat) : Code → LCode → Prop
 | bad (c : Code) : Low P k c .bad
 | skip : Low P k .skip .skip
 | label (t : Nat) : Low P k (.label t) .skip
 | reg {id : Nat} {ops : Array Oper} {d : Bool} {lo : LOps} (h : LowOps P k ops ops.toList lo) (hd : d = true → nA P ops = some []) : Low P k (.region id ops d) (.reg lo)
 | drw {id : Nat} {ops : Array Oper} {lo : LOps} {tab : List (Nat × Nat)} {t : List (Nat × Option Nat × Option (Pth × Bool) × LOp)} (h : LowOps P k ops ops.toList lo) (ht : nA P ops = some tab) (hl : LowTab P ops tab t) : Low P k (.region id ops true) (.drw lo t)
 | seq {a b : Code} {A B : LCode} (ha : Low P k a A) (hb : Low P k b B) : Low P k (.seq a b) (.seq A B)
 | cond {c : Operand} {x y : Code} {X Y : LCode} (hc : iP c = true) (hx : Low P k x X) (hy : Low P k y Y) : Low P k (.cond c x y) (.cond (iV c) X Y)
 | block {id : Nat} {b : Code} {B : LCode} (hb : Low P k b B) : Low P k (.block id b) (.block id B)
 | loop {b : Code} {B : LCode} (hb : Low P k b B) : Low P k (.loop b) (.loop B)
 | exit (id : Nat) : Low P k (.exit id) (.exit id)
 | ret : Low P k .ret .ret
 | range {g : Operand} {ps : Array Tmp} {assign body : Code} {A B : LCode} (hg : iP g = true) (hps : ∀ t ∈ ps.toList, t < k) (ha : Low P k assign A) (hb : Low P k body B) :
    Low P k (.rangeFunc g ps assign body) (.range (iV g) ((List.range k).map kO) (ps.toList.map kO) ps assign body A B)
section
variable {α : Type}
theorem b7t (k : Nat) (dst : Option Tmp) (no : α) (K : Option Pth → α) : (∃ d, DOk k dst d ∧ a6r k dst no K = K d) ∨ a6r k dst no K = no := by
 cases dst with
 | none => exact .inl ⟨none, .inl ⟨rfl, rfl⟩, rfl⟩
 | some t =>
   simp only [a6r, kM]
   split
   ·rename_i h
    rw [lJ]
    rw [blt_eq] at h
    exact .inl ⟨_, .inr ⟨t, rfl, by simpa using h, rfl⟩, rfl⟩
   ·exact .inr rfl
theorem a2s (k : Nat) (ops : Array Oper) (l : List Oper) (K : LOps → α) (no : α) : (∃ L, LowOps P k ops l L ∧ uL P k ops l K no = K L) ∨ uL P k ops l K no = no := by
 induction l generalizing K with
 | nil => exact .inl ⟨_, .nil, rfl⟩
 | cons o l ih =>
   let K2 : Option Pth → LOp → α := fun d o' => match o.guard with
    | none => uL P k ops l (fun r => K (.cons d o' r)) no
    | some (j, w) => match (ops[j]?).bind (·.dst) with
      | some t => oD (Nat.blt t k) no (lL (kO t) fun p => a0D w fun w => uL P k ops l (fun r => K (.gcons p w d o' r)) no)
      | none => no
   have e : uL P k ops (o :: l) K no = a6r k o.dst no fun d => zG P o fun o' => K2 d o' := rfl
   rw [e]
   rcases b7t k o.dst no (fun d => zG P o fun o' => K2 d o') with ⟨d, hd, h1⟩ | h1
   ·rw [h1]
    obtain ⟨lo, hlo, h2⟩ := b1j (P := P) o (fun o' => K2 d o')
    rw [h2]
    simp only [K2]
    split
    ·rename_i hg
     rcases ih (fun r => K (.cons d lo r)) with ⟨L, hL, h3⟩ | h3
     ·exact .inl ⟨_, .cons hd hlo hg hL, h3⟩
     ·exact .inr h3
    ·rename_i j w hg
     split
     ·rename_i t ht
      rw [kM]
      split
      ·rename_i htk
       rw [lJ, vY]
       rw [blt_eq] at htk
       rcases ih (fun r => K (.gcons (kO t) w d lo r)) with ⟨L, hL, h3⟩ | h3
       ·exact .inl ⟨_, .gcons hd hlo hg ht (by simpa using htk) hL, h3⟩
       ·exact .inr h3
      ·exact .inr rfl
     ·exact .inr rfl
   ·exact .inr h1
theorem c2E (k : Nat) (ops : Array Oper) (o : Oper) (no : α) (K : Option (Pth × Bool) → α) : (∃ g, GOk ops o g ∧ loG k ops o.guard no K = K g) ∨ loG k ops o.guard no K = no := by
 cases hg : o.guard with
 | none => exact .inl ⟨none, .inl ⟨hg, rfl⟩, rfl⟩
 | some x =>
   obtain ⟨j, w⟩ := x
   unfold loG
   cases ht : (ops[j]?).bind (·.dst) with
   | none => exact .inr (by simp only [ht])
   | some t =>
     simp only [ht, kM]
     split
     ·refine .inl ⟨some (kO t, w), .inr ⟨j, w, t, hg, ht, rfl⟩, ?_⟩
      rw [lJ, vY]
     ·exact .inr rfl
theorem b4X (k : Nat) (ops : Array Oper) (tab : List (Nat × Nat)) (K : List (Nat × Option Nat × Option (Pth × Bool) × LOp) → α) (no : α) : (∃ t, LowTab P ops tab t ∧ tU P k ops ops.size tab K no = K t) ∨ tU P k ops ops.size tab K no = no := by
 induction tab generalizing K with
 | nil => exact .inl ⟨_, .nil, rfl⟩
 | cons x tab ih =>
   obtain ⟨i, m⟩ := x
   cases ho : ops[i]? with
   | none =>
     refine .inr ?_
     show (match ops[i]? with
      | some o => _
      | none => no) = no
     rw [ho]
   | some o =>
     let K2 : Option (Pth × Bool) → LOp → α := fun g o' => kD (ops.size - 1 - i) fun i => oD (Nat.blt m ops.size) (tU P k ops ops.size tab (fun l => K ((i, none, g, o') :: l)) no) (kD (ops.size - 1 - m) fun m => tU P k ops ops.size tab (fun l => K ((i, some m, g, o') :: l)) no)
     have e : tU P k ops ops.size ((i, m) :: tab) K no = loG k ops o.guard no fun g => zG P o fun o' => K2 g o' := by
      show (match ops[i]? with
       | some o => loG k ops o.guard no fun g => zG P o fun o' => K2 g o'
       | none => no) = _
      rw [ho]
     rw [e]
     rcases c2E k ops o no (fun g => zG P o fun o' => K2 g o') with ⟨g, hgd, h1⟩ | h1
     ·rw [h1]
      obtain ⟨lo, hlo, h2⟩ := b1j (P := P) o (fun o' => K2 g o')
      rw [h2]
      show (∃ t, _ ∧ kD (ops.size - 1 - i) (fun i => oD (Nat.blt m ops.size) (tU P k ops ops.size tab (fun l => K ((i, none, g, lo) :: l)) no) (kD (ops.size - 1 - m) fun m => tU P k ops ops.size tab (fun l => K ((i, some m, g, lo) :: l)) no)) = K t) ∨ kD (ops.size - 1 - i) (fun i => oD (Nat.blt m ops.size) (tU P k ops ops.size tab (fun l => K ((i, none, g, lo) :: l)) no) (kD (ops.size - 1 - m) fun m => tU P k ops ops.size tab (fun l => K ((i, some m, g, lo) :: l)) no)) = no
      rw [kA, kM, kA, blt_eq]
      by_cases hm : m < ops.size
      ·rw [if_pos (by simpa using hm)]
       rcases ih (fun l => K ((ops.size - 1 - i, some (ops.size - 1 - m), g, lo) :: l)) with ⟨t, ht, h3⟩ | h3
       ·have := LowTab.cons (m := m) ho hgd hlo ht
        rw [if_pos hm] at this
        exact .inl ⟨_, this, h3⟩
       ·exact .inr h3
      ·rw [if_neg (by simpa using hm)]
       rcases ih (fun l => K ((ops.size - 1 - i, none, g, lo) :: l)) with ⟨t, ht, h3⟩ | h3
       ·have := LowTab.cons (m := m) ho hgd hlo ht
        rw [if_neg hm] at this
        exact .inl ⟨_, this, h3⟩
       ·exact .inr h3
     ·exact .inr h1
theorem b2M (k : Nat) (l : List Tmp) (K : List Pth → α) (no : α) : ((∀ t ∈ l, t < k) ∧ xQ k l K no = K (l.map kO)) ∨ xQ k l K no = no := by
 induction l generalizing K with
 | nil => exact .inl ⟨by simp, rfl⟩
 | cons t l ih =>
   show _ ∨ oD (Nat.blt t k) no (lL (kO t) fun p => xQ k l (fun l => K (p :: l)) no) = no
   have e : xQ k (t :: l) K no = oD (Nat.blt t k) no (lL (kO t) fun p => xQ k l (fun l => K (p :: l)) no) := rfl
   rw [e, kM, lJ, blt_eq]
   by_cases h : t < k
   ·rw [if_pos (by simpa using h)]
    rcases ih (fun l => K (kO t :: l)) with ⟨h1, h2⟩ | h2
    ·exact .inl ⟨by simpa using ⟨h, h1⟩, h2⟩
    ·exact .inr h2
   ·rw [if_neg (by simpa using h)]; exact .inr rfl
theorem b2b (k : Nat) (c : Code) (K : LCode → α) : ∃ C, Low P k c C ∧ nG P k c K = K C := by
 induction c generalizing K with
 | skip => exact ⟨_, .skip, rfl⟩
 | region id ops d =>
   cases d with
   | false =>
     show ∃ C, _ ∧ uL P k ops ops.toList (fun l => K (.reg l)) (K .bad) = K C
     rcases a2s (P := P) k ops ops.toList (fun l => K (.reg l)) (K .bad) with ⟨L, hL, h⟩ | h
     ·exact ⟨_, .reg hL (fun h => by cases h), h⟩
     ·exact ⟨_, .bad _, h⟩
   | true =>
     show ∃ C, _ ∧ (match nA P ops with
      | some [] => uL P k ops ops.toList (fun l => K (.reg l)) (K .bad)
      | some tab => uL P k ops ops.toList (fun l => tU P k ops ops.size tab (fun t => K (.drw l t)) (K .bad)) (K .bad)
      | none => K .bad) = K C
     split
     ·rename_i hd
      rcases a2s (P := P) k ops ops.toList (fun l => K (.reg l)) (K .bad) with ⟨L, hL, h⟩ | h
      ·exact ⟨_, .reg hL (fun _ => hd), h⟩
      ·exact ⟨_, .bad _, h⟩
     ·rename_i tab _ hd
      rcases a2s (P := P) k ops ops.toList (fun l => tU P k ops ops.size tab (fun t => K (.drw l t)) (K .bad)) (K .bad) with ⟨L, hL, h⟩ | h
      ·rw [h]
       rcases b4X (P := P) k ops tab (fun t => K (.drw L t)) (K .bad) with ⟨t, ht, h2⟩ | h2
       ·exact ⟨_, .drw hL hd ht, h2⟩
       ·exact ⟨_, .bad _, h2⟩
      ·exact ⟨_, .bad _, h⟩
     ·exact ⟨_, .bad _, rfl⟩
 | seq a b iha ihb =>
   show ∃ C, _ ∧ nG P k a (fun a => nG P k b fun b => K (.seq a b)) = K C
   obtain ⟨A, hA, h1⟩ := iha (fun a => nG P k b fun b => K (.seq a b))
   obtain ⟨B, hB, h2⟩ := ihb (fun b => K (.seq A b))
   exact ⟨_, .seq hA hB, h1.trans h2⟩
 | cond c x y ihx ihy =>
   show ∃ C, _ ∧ oD (iP c) (K .bad) (lP c fun c => nG P k x fun x => nG P k y fun y => K (.cond c x y)) = K C
   rw [kM]
   split
   ·rename_i hc
    rw [kY]
    obtain ⟨X, hX, h1⟩ := ihx (fun x => nG P k y fun y => K (.cond (iV c) x y))
    obtain ⟨Y, hY, h2⟩ := ihy (fun y => K (.cond (iV c) X y))
    exact ⟨_, .cond hc hX hY, h1.trans h2⟩
   ·exact ⟨_, .bad _, rfl⟩
 | block id b ih =>
   show ∃ C, _ ∧ kD id (fun id => nG P k b fun b => K (.block id b)) = K C
   rw [kA]
   obtain ⟨B, hB, h1⟩ := ih (fun b => K (.block id b))
   exact ⟨_, .block hB, h1⟩
 | loop b ih =>
   show ∃ C, _ ∧ nG P k b (fun b => K (.loop b)) = K C
   obtain ⟨B, hB, h1⟩ := ih (fun b => K (.loop b))
   exact ⟨_, .loop hB, h1⟩
 | rangeFunc g ps assign body iha ihb =>
   show ∃ C, _ ∧ oD (iP g) (K .bad) (lP g fun g' => b2I k fun pp => xQ k ps.toList (fun q => nG P k assign fun a => nG P k body fun b => K (.range g' pp q ps assign body a b)) (K .bad)) = K C
   rw [kM]
   split
   ·rename_i hg
    rw [kY, b0Y]
    rcases b2M k ps.toList (fun q => nG P k assign fun a => nG P k body fun b => K (.range (iV g) ((List.range k).map kO) q ps assign body a b)) (K .bad) with ⟨hps, h⟩ | h
    ·obtain ⟨A, hA, h1⟩ := iha (fun a => nG P k body fun b => K (.range (iV g) ((List.range k).map kO) (ps.toList.map kO) ps assign body a b))
     obtain ⟨B, hB, h2⟩ := ihb (fun b => K (.range (iV g) ((List.range k).map kO) (ps.toList.map kO) ps assign body A b))
     exact ⟨_, .range hg hps hA hB, h.trans (h1.trans h2)⟩
    ·exact ⟨_, .bad _, h⟩
   ·exact ⟨_, .bad _, rfl⟩
 | exit id =>
   show ∃ C, _ ∧ kD id (fun id => K (.exit id)) = K C
   rw [kA]
   exact ⟨_, .exit id, rfl⟩
 | label t => exact ⟨_, .label t, rfl⟩
 | ret => exact ⟨_, .ret, rfl⟩
 | scope b _ => exact ⟨_, .bad _, rfl⟩
 | goto t => exact ⟨_, .bad _, rfl⟩
 | refuse w => exact ⟨_, .bad _, rfl⟩
end
theorem vU {α : Type} {k : Nat} {f : Fr} {l : List Value} (h : FRel k f l) {dst : Option Tmp} {d : Option Pth} (hd : DOk k dst d) (v : Value) (K : Fr → α) : ∃ f', uI d v f K = K f' ∧ FRel k f' (put l dst v) := by
 rcases hd with ⟨rfl, rfl⟩ | ⟨t, rfl, ht, rfl⟩
 ·exact ⟨f, rfl, h⟩
 ·exact ⟨b6m f t v, sV v (kO t) f K, h.put ht v⟩
theorem xU {ops : Array Oper} {l : List Value} {j t : Nat} (ht : (ops[j]?).bind (·.dst) = some t) (htl : t < l.length) (w : Bool) : (iU ops l j == some w) = isB (get l t) w := by
 have hg : get l t = l[t] := by rw [oT]; simp [htl]
 unfold iU
 rw [ht, hg]
 simp only [dp htl]
 cases hv : l[t] <;> simp [isB]
 rename_i b
 cases b <;> cases w <;> rfl
theorem b8z {k : Nat} {ops : Array Oper} {C : Calls'} {H0 : Heap} (hC : CallsOk P C H0) {os : List Oper} {lo : LOps} (hlo : LowOps P k ops os lo) : ∀ {i : Nat}, ops.toList.drop i = os → ∀ {f : Fr} {l : List Value} {H : Heap} {f1 : Fr} {H1 : Heap},
 FRel k f l → LK H0 H → xY P C lo f H = .ok f1 H1 → ∃ l1, FRel k f1 l1 ∧ OpsR P ops (List.range' i os.length) l H l1 H1 ∧ LK H H1 := by
 induction hlo with
 | nil =>
   intro i _ f l H f1 H1 hf _ h
   injection h with h1 h2
   subst h1 h2
   exact ⟨l, hf, .nil l H, .refl H⟩
 | @cons o os d lo r hd ho hg hr ih =>
   intro i hi f l H f1 H1 hf hk h
   have hio : ops[i]? = some o := by
    have : (ops.toList.drop i)[0]? = some o := by rw [hi]; rfl
    rw [dF] at this
    simpa using this
   have hi' : ops.toList.drop (i + 1) = os := by rw [← fx, hi]; rfl
   have hw : Region.wanted o (iU ops l) = true := by simp [Region.wanted, hg]
   have h : b0O Rf.no d f (xY P C r) (opF P C lo f H) = .ok f1 H1 := h
   have key : ∀ v H2, (opF P C lo f H).Is v H2 → (uI d v f fun f => xY P C r f H2) = .ok f1 H1 → ∃ l1, FRel k f1 l1 ∧ OpsR P ops (List.range' i (o :: os).length) l H l1 H1 ∧ LK H H1 := by
    intro v H2 hop hrest
    obtain ⟨hs, hk2⟩ := ho C H0 f l H v H2 hC hk hf.2 hop
    obtain ⟨f', e, hf'⟩ := vU hf hd v (fun f => xY P C r f H2)
    rw [e] at hrest
    obtain ⟨l1, h1, h2, h3⟩ := ih hi' hf' (hk.trans hk2) hrest
    exact ⟨l1, h1, .step hio hw hs h2, hk2.trans h3⟩
   cases hop : opF P C lo f H with
   | no => rw [hop] at h; cases h
   | ok v H2 => rw [hop] at h; exact key v H2 (.inl hop) h
   | th v H2 =>
     rw [hop] at h
     have h : zQ v (fun v => oA H2 fun H2 => uI d v f fun f => xY P C r f H2) = .ok f1 H1 := h
     rw [yH, lZ] at h
     exact key v H2 (.inr hop) h
 | @gcons o os d lo r j t w hd ho hg ht htk hr ih =>
   intro i hi f l H f1 H1 hf hk h
   have hio : ops[i]? = some o := by
    have : (ops.toList.drop i)[0]? = some o := by rw [hi]; rfl
    rw [dF] at this
    simpa using this
   have hi' : ops.toList.drop (i + 1) = os := by rw [← fx, hi]; rfl
   have hwi : Region.wanted o (iU ops l) = isB (oG (kO t) f) w := by
    simp only [Region.wanted, hg]
    rw [xU ht (by rw [hf.1]; exact htk) w, hf.2 t]
   have h : oD (isB (oG (kO t) f) w) (uI d undef f fun f => xY P C r f H) (b0O Rf.no d f (xY P C r) (opF P C lo f H)) = .ok f1 H1 := h
   rw [kM] at h
   split at h
   ·rename_i hb
    have key : ∀ v H2, (opF P C lo f H).Is v H2 → (uI d v f fun f => xY P C r f H2) = .ok f1 H1 → ∃ l1, FRel k f1 l1 ∧ OpsR P ops (List.range' i (o :: os).length) l H l1 H1 ∧ LK H H1 := by
     intro v H2 hop hrest
     obtain ⟨hs, hk2⟩ := ho C H0 f l H v H2 hC hk hf.2 hop
     obtain ⟨f', e, hf'⟩ := vU hf hd v (fun f => xY P C r f H2)
     rw [e] at hrest
     obtain ⟨l1, h1, h2, h3⟩ := ih hi' hf' (hk.trans hk2) hrest
     exact ⟨l1, h1, .step hio (by rw [hwi, hb]) hs h2, hk2.trans h3⟩
    cases hop : opF P C lo f H with
    | no => rw [hop] at h; cases h
    | ok v H2 => rw [hop] at h; exact key v H2 (.inl hop) h
    | th v H2 =>
      rw [hop] at h
      have h : zQ v (fun v => oA H2 fun H2 => uI d v f fun f => xY P C r f H2) = .ok f1 H1 := h
      rw [yH, lZ] at h
      exact key v H2 (.inr hop) h
   ·rename_i hb
    obtain ⟨f', e, hf'⟩ := vU hf hd undef (fun f => xY P C r f H)
    rw [e] at h
    obtain ⟨l1, h1, h2, h3⟩ := ih hi' hf' hk h
    exact ⟨l1, h1, .past hio (by rw [hwi]; simpa using hb) h2, h3⟩
structure Noted (P : Program) (k : Nat) (ops : Array Oper) (H : Heap) (i n : Nat) (T : Nat → List Value × Heap) (val : Nat → Value) (tr0 tr : List (Fr × Heap × Value)) : Prop where
 step : ∀ j, i ≤ j → j < i + n → wE P ops j (T j) (T (j + 1)) (val j)
 new : ∀ j, i ≤ j → j < i + n → ∃ g, tr[i + n - 1 - j]? = some (g, (T j).2, val j) ∧ FAg g (T j).1
 old : ∀ m, tr[n + m]? = tr0[m]?
 lk : ∀ j, i ≤ j → j ≤ i + n → LK H (T j).2
theorem b5H {k : Nat} {ops : Array Oper} {C : Calls'} {H0 : Heap} (hC : CallsOk P C H0) {os : List Oper} {lo : LOps} (hlo : LowOps P k ops os lo) : ∀ {i : Nat}, ops.toList.drop i = os → ∀ {tr0 tr : List (Fr × Heap × Value)} {f : Fr} {l : List Value} {H : Heap} {f1 : Fr} {H1 : Heap},
 FRel k f l → LK H0 H → rK P C lo tr0 f H = .ok tr f1 H1 → ∃ T val l1, T i = (l, H) ∧ T (i + os.length) = (l1, H1) ∧ FRel k f1 l1 ∧ Noted P k ops H i os.length T val tr0 tr := by
 have more : ∀ {i n : Nat} {o : Oper} {tr0 tr : List (Fr × Heap × Value)} {f : Fr} {l : List Value} {H : Heap} {v : Value} {l2 : List Value} {H2 : Heap} {l1 : List Value} {H1 : Heap} {f1 : Fr}, FRel k f l → wE P ops i (l, H) (l2, H2) v → LK H H2 →
  (∃ T val l1, T (i + 1) = (l2, H2) ∧ T (i + 1 + n) = (l1, H1) ∧ FRel k f1 l1 ∧ Noted P k ops H2 (i + 1) n T val ((f, H, v) :: tr0) tr) →
  ∃ T val l1, T i = (l, H) ∧ T (i + (n + 1)) = (l1, H1) ∧ FRel k f1 l1 ∧ Noted P k ops H i (n + 1) T val tr0 tr := by
  intro i n o tr0 tr f l H v l2 H2 _ H1 f1 hf hst hk ⟨T, val, l1, h1, h2, h3, hN⟩
  refine ⟨fun j => if j ≤ i then (l, H) else T j, fun j => if j ≤ i then v else val j, l1, by simp, ?_, h3, ?_⟩
  ·show (if i + (n + 1) ≤ i then (l, H) else T (i + (n + 1))) = _
   rw [if_neg (by omega), ← h2]; congr 1; omega
  ·refine ⟨fun j hj hn => ?_, fun j hj hn => ?_, fun m => ?_, fun j hj hn => ?_⟩
   ·by_cases he : j = i
    ·subst he
     simp only [dg, if_true]
     rw [if_neg (by omega), h1]
     exact hst
    ·rw [if_neg (by omega), if_neg (by omega), if_neg (by omega)]
     exact hN.step j (by omega) (by omega)
   ·by_cases he : j = i
    ·subst he
     simp only [dg, if_true]
     refine ⟨f, ?_, hf.2⟩
     have := hN.old 0
     rw [show j + (n + 1) - 1 - j = n + 0 by omega, this]; rfl
    ·rw [if_neg (by omega), if_neg (by omega)]
     obtain ⟨g, hg, hag⟩ := hN.new j (by omega) (by omega)
     exact ⟨g, by rw [← hg]; congr 1; omega, hag⟩
   ·have := hN.old (m + 1)
    rw [show n + 1 + m = n + (m + 1) by omega, this]; rfl
   ·by_cases he : j = i
    ·subst he; simp only [dg, if_true]; exact .refl H
    ·rw [if_neg (by omega)]; exact hk.trans (hN.lk j (by omega) (by omega))
 induction hlo with
 | nil =>
   intro i _ tr0 tr f l H f1 H1 hf _ h
   injection h with h1 h2 h3
   subst h1 h2 h3
   exact ⟨fun _ => (l, H), fun _ => undef, l, rfl, rfl, hf, fun j _ h => absurd h (by simp; omega), fun j _ h => absurd h (by simp; omega), fun m => by simp, fun _ _ _ => .refl H⟩
 | @cons o os d lo r hd ho hg hr ih =>
   intro i hi tr0 tr f l H f1 H1 hf hk h
   have hio : ops[i]? = some o := by
    have : (ops.toList.drop i)[0]? = some o := by rw [hi]; rfl
    rw [dF] at this
    simpa using this
   have hi' : ops.toList.drop (i + 1) = os := by rw [← fx, hi]; rfl
   have hw : Region.wanted o (iU ops l) = true := by simp [Region.wanted, hg]
   have h : b1e tr0 f H d (rK P C r) (opF P C lo f H) = .ok tr f1 H1 := h
   have key : ∀ v H2, (opF P C lo f H).Is v H2 → (uI d v f fun f2 => rK P C r ((f, H, v) :: tr0) f2 H2) = .ok tr f1 H1 → ∃ T val l1, T i = (l, H) ∧ T (i + (o :: os).length) = (l1, H1) ∧ FRel k f1 l1 ∧ Noted P k ops H i (o :: os).length T val tr0 tr := by
    intro v H2 hop hrest
    obtain ⟨hs, hk2⟩ := ho C H0 f l H v H2 hC hk hf.2 hop
    obtain ⟨f', e, hf'⟩ := vU hf hd v (fun f2 => rK P C r ((f, H, v) :: tr0) f2 H2)
    rw [e] at hrest
    have := ih hi' hf' (hk.trans hk2) hrest
    exact more (o := o) (l1 := l) hf ⟨o, hio, rfl, .inl ⟨hw, hs⟩⟩ hk2 this
   cases hop : opF P C lo f H with
   | no => rw [hop] at h; cases h
   | ok v H2 => rw [hop] at h; exact key v H2 (.inl hop) h
   | th v H2 =>
     rw [hop] at h
     have h : zQ v (fun v => oA H2 fun H2 => uI d v f fun f2 => rK P C r ((f, H, v) :: tr0) f2 H2) = .ok tr f1 H1 := h
     rw [yH, lZ] at h
     exact key v H2 (.inr hop) h
 | @gcons o os d lo r j t w hd ho hg ht htk hr ih =>
   intro i hi tr0 tr f l H f1 H1 hf hk h
   have hio : ops[i]? = some o := by
    have : (ops.toList.drop i)[0]? = some o := by rw [hi]; rfl
    rw [dF] at this
    simpa using this
   have hi' : ops.toList.drop (i + 1) = os := by rw [← fx, hi]; rfl
   have hwi : Region.wanted o (iU ops l) = isB (oG (kO t) f) w := by
    simp only [Region.wanted, hg]
    rw [xU ht (by rw [hf.1]; exact htk) w, hf.2 t]
   have h : oD (isB (oG (kO t) f) w) (uI d undef f fun f2 => rK P C r ((f, H, undef) :: tr0) f2 H) (b1e tr0 f H d (rK P C r) (opF P C lo f H)) = .ok tr f1 H1 := h
   rw [kM] at h
   split at h
   ·rename_i hb
    have key : ∀ v H2, (opF P C lo f H).Is v H2 → (uI d v f fun f2 => rK P C r ((f, H, v) :: tr0) f2 H2) = .ok tr f1 H1 → ∃ T val l1, T i = (l, H) ∧ T (i + (o :: os).length) = (l1, H1) ∧ FRel k f1 l1 ∧ Noted P k ops H i (o :: os).length T val tr0 tr := by
     intro v H2 hop hrest
     obtain ⟨hs, hk2⟩ := ho C H0 f l H v H2 hC hk hf.2 hop
     obtain ⟨f', e, hf'⟩ := vU hf hd v (fun f2 => rK P C r ((f, H, v) :: tr0) f2 H2)
     rw [e] at hrest
     exact more (o := o) (l1 := l) hf ⟨o, hio, rfl, .inl ⟨by rw [hwi, hb], hs⟩⟩ hk2 (ih hi' hf' (hk.trans hk2) hrest)
    cases hop : opF P C lo f H with
    | no => rw [hop] at h; cases h
    | ok v H2 => rw [hop] at h; exact key v H2 (.inl hop) h
    | th v H2 =>
      rw [hop] at h
      have h : zQ v (fun v => oA H2 fun H2 => uI d v f fun f2 => rK P C r ((f, H, v) :: tr0) f2 H2) = .ok tr f1 H1 := h
      rw [yH, lZ] at h
      exact key v H2 (.inr hop) h
   ·rename_i hb
    obtain ⟨f', e, hf'⟩ := vU hf hd undef (fun f2 => rK P C r ((f, H, undef) :: tr0) f2 H)
    rw [e] at h
    exact more (o := o) (l1 := l) hf ⟨o, hio, rfl, .inr ⟨by rw [hwi]; simpa using hb, rfl, rfl⟩⟩ (.refl H) (ih hi' hf' hk h)
theorem b0S {α : Type} (p : α → Bool) (l : List α) : b5l p l = l.all p := by
 induction l with
 | nil => rfl
 | cons x l ih =>
   show oD (p x) false (b5l p l) = _
   rw [kM, ih, ft]
   cases p x <;> rfl
theorem b9t {v : Value} {r : Rs} (h : b9r v r = true) : ∃ H, r.Is v H := by
 cases r with
 | no => cases h
 | ok w H => exact ⟨H, .inl (by rw [b6b (show veq w v = true from h)])⟩
 | th w H => exact ⟨H, .inr (by rw [b6b (show veq w v = true from h)])⟩
theorem LowTab.get {ops : Array Oper} {tab : List (Nat × Nat)} {t : List (Nat × Option Nat × Option (Pth × Bool) × LOp)} (h : LowTab P ops tab t) {i m : Nat} (hm : (i, m) ∈ tab) : ∃ o lo g, ops[i]? = some o ∧ GOk ops o g ∧ wH P o lo ∧ (ops.size - 1 - i, (if m < ops.size then some (ops.size - 1 - m) else none), g, lo) ∈ t := by
 induction h with
 | nil => cases hm
 | @cons i2 m2 o lo tab t g ho hgd hl hr ih =>
   rcases dS.1 hm with he | hm
   ·injection he with h1 h2
    subst h1 h2
    exact ⟨o, lo, g, ho, hgd, hl, by simp⟩
   ·obtain ⟨o', lo', g', h1, h0, h2, h3⟩ := ih hm
    exact ⟨o', lo', g', h1, h0, h2, dV _ h3⟩
theorem b0f {fl : Fl} {ops : Array Oper} {i m : Nat} (h : (i, m) ∈ mO fl ops) {o : Oper} (ho : ops[i]? = some o) : nU o.op = true := by
 unfold mO at h
 simp only [dZ] at h
 obtain ⟨⟨x, j⟩, hx, h⟩ := h
 dsimp only at h
 split at h
 ·rename_i hr
  simp only [dy] at h
  obtain ⟨m', _, e⟩ := h
  injection e with e1 e2
  subst e1
  have := gn.1 hx
  have : ops[j]? = some x := by simpa using this
  rw [this] at ho
  injection ho with ho
  subst ho
  exact hr
 ·cases h
theorem b9d (jY : P.follows .mixedOrders = true) {k id : Nat} {ops : Array Oper} {C : Calls'} {H : Heap} (hC : CallsOk P C H) {lo : LOps} {tab : List (Nat × Nat)} {t : List (Nat × Option Nat × Option (Pth × Bool) × LOp)} (hlo : LowOps P k ops ops.toList lo) (htab : nA P ops = some tab) (hl : LowTab P ops tab t)
 {f : Fr} {l : List Value} {e : Ex} {f1 : Fr} {H1 : Heap} (hf : FRel k f l) (h : c0K P C t (rK P C lo [] f H) = .ok e f1 H1) : ∃ l1, e = .normal ∧ FRel k f1 l1 ∧ Sim P (.region id ops true) l H .normal l1 H1 ∧ LK H H1 := by
 cases hr : rK P C lo [] f H with
 | no => rw [hr] at h; cases h
 | ok tr f2 H2 =>
   rw [hr] at h
   have h : oD (b5l (b4h P C tr H2) t) Rc.no (.ok .normal f2 H2) = .ok e f1 H1 := h
   rw [kM] at h
   split at h
   case isFalse => cases h
   rename_i hall
   injection h with h1 h2 h3
   subst h1 h2 h3
   obtain ⟨T, val, l1, hT0, hTn, hf1, hN⟩ := b5H hC hlo (i := 0) rfl hf (.refl H) hr
   rw [fA, fM] at hTn
   rw [fA] at hN
   have hlk : LK H H2 := by have := hN.lk ops.size (eU _) (by omega); rwa [hTn] at this
   refine ⟨l1, rfl, hf1, ?_, hlk⟩
   have := Sim.draw jY (id := id) htab (T := T) (val := val) ⟨fun j hj => hN.step j (eU _) (by omega)⟩ ?_
   ·rw [hT0, hTn] at this; exact this
   ·intro i m o hm ho hw
    obtain ⟨o', lo', gd, ho', hgd, hlow, hmem⟩ := hl.get hm
    rw [ho] at ho'
    obtain rfl := cU ho'
    rw [b0S, dq] at hall
    have hrd := hall _ hmem
    have hi : i < ops.size := (de.1 ho).1
    obtain ⟨g, hg, hag⟩ := hN.new i (eU _) (by omega)
    have hg : tr[ops.size - 1 - i]? = some (g, (T i).2, val i) := by rw [← hg]; congr 1; omega
    have hread : nU o.op = true := by
     obtain ⟨fl, _, rfl⟩ := qJ htab
     exact b0f hm ho
    have fin : ∀ H3, LK H H3 → b9r (val i) (opF P C lo' g H3) = true → ∃ H4, opD P o (T i).1 H3 = some (val i, H4) := by
     intro H3 hk3 hq
     obtain ⟨H4, h4⟩ := b9t hq
     obtain ⟨hs, _⟩ := hlow C H g (T i).1 H3 (val i) H4 hC hk3 hag h4
     refine ⟨H4, hs.opD fun c fv hc hv => ?_⟩
     rw [hc] at hread
     simp [nU, hv] at hread
    unfold b4h at hrd
    simp only [zJ, hg, hgd.runs hag hw] at hrd
    rw [kM, if_pos rfl] at hrd
    by_cases hms : m < ops.size
    ·rw [if_pos hms] at hrd
     obtain ⟨g2, hg2, _⟩ := hN.new m (eU _) (by omega)
     have hg2 : tr[ops.size - 1 - m]? = some (g2, (T m).2, val m) := by rw [← hg2]; congr 1; omega
     simp only [hg2] at hrd
     exact fin _ (hN.lk m (eU _) (by omega)) hrd
    ·rw [if_neg hms] at hrd
     have hle : m = ops.size := by
      obtain ⟨fl, _, rfl⟩ := qJ htab
      have := a3c hm
      omega
     subst hle
     have := fin H2 hlk hrd
     rw [hTn]; exact this
def uQ (P : Program) : List ResultVar → List LRes → Prop
 | [], [] => True
 | r :: rs, l :: ls => (match r, l with
   | .tmp t, .t p => p = kO t
   | .cell a t, .c1 p => p = kO a ∧ jQ P t = some false
   | .cell a t, .cn n p => p = kO a ∧ jQ P t = some true ∧ iE P t = some n
   | _, _ => False) ∧ uQ P rs ls
 | _, _ => False
theorem b5D {α : Type} (l : List ResultVar) (K : List LRes → α) (no : α) : (∃ r, uQ P l r ∧ a1b P l K no = K r) ∨ a1b P l K no = no := by
 induction l generalizing K with
 | nil => exact .inl ⟨[], trivial, rfl⟩
 | cons r l ih =>
   cases r with
   | tmp t =>
     have e : a1b P (.tmp t :: l) K no = lL (kO t) fun p => a1b P l (fun l => K (.t p :: l)) no := rfl
     rw [e, lJ]
     rcases ih (fun l => K (.t (kO t) :: l)) with ⟨q, h1, h2⟩ | h2
     ·exact .inl ⟨.t (kO t) :: q, ⟨rfl, h1⟩, h2⟩
     ·exact .inr h2
   | cell a t =>
     have e : a1b P (.cell a t :: l) K no = match jQ P t with
      | some true => a3s (iE P t) no fun n => lL (kO a) fun p => a1b P l (fun l => K (.cn n p :: l)) no
      | some false => lL (kO a) fun p => a1b P l (fun l => K (.c1 p :: l)) no
      | none => no := rfl
     rw [e]
     split
     ·rename_i ha
      cases hn : iE P t with
      | none => exact .inr rfl
      | some n =>
        rw [pP, lJ]
        rcases ih (fun l => K (.cn n (kO a) :: l)) with ⟨q, h1, h2⟩ | h2
        ·exact .inl ⟨.cn n (kO a) :: q, ⟨⟨rfl, ha, hn⟩, h1⟩, h2⟩
        ·exact .inr h2
     ·rename_i ha
      rw [lJ]
      rcases ih (fun l => K (.c1 (kO a) :: l)) with ⟨q, h1, h2⟩ | h2
      ·exact .inl ⟨.c1 (kO a) :: q, ⟨⟨rfl, ha⟩, h1⟩, h2⟩
      ·exact .inr h2
     ·exact .inr rfl
theorem b1F {H H1 : Heap} {f : Fr} {l : List Value} (hf : FAg f l) {r : ResultVar} {q : LRes} {rs : List ResultVar} {qs : List LRes} (h : uQ P (r :: rs) (q :: qs)) {v : Value} (hv : (a4m H f q).Is v H1) : H1 = H ∧ a1v P l H r = some v ∧ uQ P rs qs := by
 obtain ⟨h, hr⟩ := h
 cases r with
 | tmp t => cases q with
   | t p =>
     have h : p = kO t := h
     subst h
     have hv : (oR (oG (kO t) f) fun v => Rs.ok v H).Is v H1 := hv
     rw [mX] at hv
     obtain ⟨rfl, rfl⟩ := Rs.aL hv
     exact ⟨rfl, by rw [hf t]; rfl, hr⟩
   | c1 p => exact h.elim
   | cn n p => exact h.elim
 | cell a t => cases q with
   | t p => exact h.elim
   | c1 p =>
     obtain ⟨rfl, ha⟩ := h
     obtain ⟨e, h1⟩ := b1I (P := P) (X := .t (kO a)) (w := get l a) ha (hf a) hv
     exact ⟨e, h1, hr⟩
   | cn n p =>
     obtain ⟨rfl, ha, hn⟩ := h
     obtain ⟨e, h1⟩ := b1m (P := P) (X := .t (kO a)) (w := get l a) ha hn (hf a) hv
     exact ⟨e, h1, hr⟩
theorem b8C {H : Heap} {f : Fr} {q : LRes} {v : Value} {H1 : Heap} : ¬ (a4m H f q = .th v H1) := by
 intro h
 cases q with
 | t p =>
   have h : (oR (oG p f) fun v => Rs.ok v H) = .th v H1 := h
   rw [mX] at h; cases h
 | c1 p =>
   have h : b3U (.t p) f H = .th v H1 := h
   unfold b3U at h
   split at h
   ·unfold b9z at h
    split at h
    ·rw [kM, kM, kM] at h
     split at h
     ·split at h
      ·split at h
       ·rename_i cs _ _ _ _ _ _ _ _
        cases hn : a1u cs _ with
        | none => rw [hn] at h; cases h
        | some w => rw [hn] at h; have h : (oR w fun v => Rs.ok v H) = .th v H1 := h; rw [mX] at h; cases h
       ·cases h
      ·cases h
     ·cases h
    ·cases h
   ·unfold c1I at h
    split at h
    ·rw [kM] at h
     split at h
     ·rename_i cs _ _ _ _
      cases hn : a1u cs _ with
      | none => rw [hn] at h; cases h
      | some w => rw [hn] at h; have h : (oR w fun v => Rs.ok v H) = .th v H1 := h; rw [mX] at h; cases h
     ·cases h
    ·cases h
   ·cases h
 | cn n p =>
   have hh : b2A n (.t p) f H = .th v H1 := h
   unfold b2A at hh
   split at hh
   ·unfold b8E at hh
    split at hh
    ·rw [kM, kM, kM] at hh
     split at hh
     ·split at hh
      ·split at hh
       ·have key : ∀ {cs : List Value} {n : Nat} {pre : List Value}, ¬ (a1P cs n fun l => Rs.ok (.agg ⟨pre ++ l⟩) H) = .th v H1 := by
         intro cs
         induction cs with
         | nil => intro n pre h; cases n <;> cases h
         | cons c cs ih =>
           intro n pre h
           cases n with
           | zero => cases h
           | succ n =>
             have h : (a1P cs n fun l => Rs.ok (.agg ⟨pre ++ (c :: l)⟩) H) = .th v H1 := h
             have e : ∀ l : List Value, pre ++ (c :: l) = (pre ++ [c]) ++ l := by intro l; simp
             have h2 : (a1P cs n fun l => Rs.ok (.agg ⟨(pre ++ [c]) ++ l⟩) H) = .th v H1 := by
              rw [← h]; congr 1; funext l; rw [e l]
             exact ih h2
        exact key (pre := []) hh
       ·cases hh
      ·cases hh
     ·cases hh
    ·cases hh
   ·cases hh
theorem a7U {H H1 : Heap} {f : Fr} {l : List Value} (hf : FAg f l) {v : Value} : ∀ {rs : List ResultVar} {qs : List LRes} {K : List Value → Rs}, uQ P rs qs → (b6s H f qs K).Is v H1 → ∃ vs, nH P l H rs = some vs ∧ (K vs).Is v H1
 | [], [], K, _, h => ⟨[], rfl, h⟩
 | [], _ :: _, _, h, _ => h.elim
 | _ :: _, [], _, h, _ => h.elim
 | r :: rs, q :: qs, K, hl, h => by
   have h : (Rs.rec (motive := fun _ => Rs) .no (fun v _ => b6s H f qs fun l => K (v :: l)) (fun _ _ => .no) (a4m H f q)).Is v H1 := h
   cases hq : a4m H f q with
   | no => rw [hq] at h; exact absurd h Rs.ar
   | th w H2 => exact absurd hq b8C
   | ok w H2 =>
     rw [hq] at h
     obtain ⟨e, h1, h2⟩ := b1F hf hl (.inl hq)
     obtain ⟨vs, h3, h4⟩ := a7U hf h2 h
     exact ⟨w :: vs, by simp [nH, h1, h3], h4⟩
theorem b6p {fn : Func} {H H1 : Heap} {f : Fr} {l : List Value} (hf : FAg f l) {qs : List LRes} (hl : uQ P fn.results.toList qs) {v : Value} (h : (a7L qs f H).Is v H1) : H1 = H ∧ iC P fn l H = some v := by
 unfold a7L at h
 split at h
 ·rename_i q
  cases hr : fn.results.toList with
  | nil => rw [hr] at hl; exact hl.elim
  | cons r rs =>
    rw [hr] at hl
    obtain ⟨e, h1, h2⟩ := b1F hf hl h
    cases rs with
    | cons _ _ => exact h2.elim
    | nil => exact ⟨e, by simp [iC, hr, nH, h1]⟩
 ·rename_i hne
  obtain ⟨vs, h1, h2⟩ := a7U hf hl h
  obtain ⟨h3, h4⟩ := lC h2
  obtain ⟨rfl, rfl⟩ := Rs.aL h4
  refine ⟨rfl, ?_⟩
  have hlen : ∀ {rs : List ResultVar} {qs : List LRes}, uQ P rs qs → rs.length = qs.length := by
   intro rs
   induction rs with
   | nil => intro qs h; cases qs with | nil => rfl | cons => exact h.elim
   | cons r rs ih => intro qs h; cases qs with | nil => exact h.elim | cons q qs => simp [ih h.2]
  have hvl : ∀ {rs : List ResultVar} {vs : List Value}, nH P l H1 rs = some vs → vs.length = rs.length := by
   intro rs
   induction rs with
   | nil => intro vs h; injection h with h; subst h; rfl
   | cons r rs ih =>
     intro vs h
     simp only [nH, cX, dh] at h
     obtain ⟨w, _, ws, h1, h2⟩ := h
     subst h2
     simp [ih h1]
  have hn1 : vs.length ≠ 1 := by
   rw [hvl h1, hlen hl]
   intro h1
   match qs, h1 with
   | [q], _ => exact hne q rfl
  unfold iC
  rw [h1, cW]
  rw [b0S] at h3
  have h3 : vs.all jC = true := by rw [← h3]; congr 1
  split
  ·exact absurd rfl hn1
  ·rw [if_pos h3]
structure FuncOk (P : Program) (f : FuncId) (g : LFunc) : Prop where
 ex : ∃ fn c, P.funcs[f]? = some fn ∧ fn.body = some c ∧ (fn.name == "runtime.NumGoroutine") = false ∧ g.ps = (List.range fn.ntmps).map kO ∧ Low P fn.ntmps c g.body ∧ uQ P fn.results.toList g.res
def TOk (P : Program) (T : LT) : Prop := ∀ f g, a2h (kO f) T = some g → FuncOk P f g
def EOk (P : Program) (E : List LEnv) (H : Heap) : Prop := ∀ en ∈ E, en.L < H.length ∧ ∀ r, iS H en.L = some (.loop r) →
 ∃ k, en.ps = (List.range k).map kO ∧ r.tmps.size = k ∧ en.pp = r.params.toList.map kO ∧ (∀ t ∈ r.params.toList, t < k) ∧ Low P k r.assign en.a ∧ Low P k r.body en.b
theorem EOk.ab {E : List LEnv} {H H' : Heap} (h : EOk P E H) (hk : LK H H') : EOk P E H' := fun en hen => by
 obtain ⟨h1, h2⟩ := h en hen
 refine ⟨dI h1 hk.1, fun r' hr' => ?_⟩
 obtain ⟨r, hr, ea, eb, ep, et⟩ := hk.2 en.L r' h1 hr'
 obtain ⟨k, a, b, c, d, e, f⟩ := h2 r hr
 exact ⟨k, a, by rw [et]; exact b, by rw [ep]; exact c, by rw [ep]; exact d, by rw [ea]; exact e, by rw [eb]; exact f⟩
def a3W (P : Program) (ih : qN) : Prop := ∀ (E : List LEnv) (C : LCode) (k : Nat) (c : Code) (f : Fr) (l : List Value) (H : Heap) (e : Ex) (f1 : Fr) (H1 : Heap), Low P k c C → FRel k f l → EOk P E H → ih E C f H = .ok e f1 H1 →
 ∃ l1, FRel k f1 l1 ∧ Sim P c l H e l1 H1 ∧ LK H H1 ∧ ∀ b, c = .loop b → ∃ n, Rounds P b n l H e l1 H1
theorem a0x {α : Type} {no : α} : ∀ {l : List Value} {i m : Nat} {f : Fr} {K : Fr → α}, (pN no l ((List.range' i m).map kO) f K = no) ∨ (l.length ≤ m ∧ ∃ f', pN no l ((List.range' i m).map kO) f K = K f' ∧ ∀ t, oG (kO t) f' = if i ≤ t ∧ t < i + l.length then get l (t - i) else oG (kO t) f)
 | [], i, m, f, K => .inr ⟨eU _, f, rfl, fun t => by rw [if_neg (by simp only [ef]; omega)]⟩
 | v :: l, i, 0, f, K => .inl rfl
 | v :: l, i, m + 1, f, K => by
   have e : pN no (v :: l) ((List.range' i (m + 1)).map kO) f K = qE v (kO i) f fun f => pN no l ((List.range' (i + 1) m).map kO) f K := by
    rw [gF]; rfl
   rw [e, sV]
   rcases a0x (l := l) (i := i + 1) (m := m) (f := b6m f i v) (K := K) with h | ⟨h1, f', h2, h3⟩
   ·exact .inl h
   ·refine .inr ⟨by simp; omega, f', h2, fun t => ?_⟩
    rw [h3 t, a4D]
    by_cases ht : t = i
    ·subst ht
     rw [if_neg (by omega), if_pos rfl, if_pos (by simp), gZ]; rfl
    ·rw [if_neg ht]
     by_cases h4 : i + 1 ≤ t ∧ t < i + 1 + l.length
     ·rw [if_pos h4, if_pos (by simp; omega)]
      rw [show t - i = (t - (i + 1)) + 1 by omega]; rfl
     ·rw [if_neg h4, if_neg (by simp; omega)]
theorem wJ {α : Type} {no : α} {k : Nat} : ∀ {args : List Value} {ps : List Tmp} {f : Fr} {l : List Value} {K : Fr → α}, FRel k f l → (∀ t ∈ ps, t < k) → args.length = ps.length →
 ∃ f', pN no args (ps.map kO) f K = K f' ∧ FRel k f' ((ps.zip args).foldl (fun t (p, v) => t.set p v) l)
 | [], [], f, l, K, hf, _, _ => ⟨f, rfl, hf⟩
 | v :: args, p :: ps, f, l, K, hf, hp, he => by
   have e : pN no (v :: args) ((p :: ps).map kO) f K = qE v (kO p) f fun f => pN no args (ps.map kO) f K := rfl
   rw [e, sV]
   exact wJ (hf.set (hp p (by simp)) v) (fun t ht => hp t (by simp [ht])) (by simpa using he)
 | [], _ :: _, _, _, _, _, _, he => by simp at he
 | _ :: _, [], _, _, _, _, _, he => by simp at he
theorem a0F (l : List Value) (n t : Nat) : get (l ++ List.replicate n undef) t = get l t := by
 rw [oT, oT]
 simp only [cZ]
 by_cases h : t < l.length
 ·rw [eG h]
 ·rw [eJ (by omega), eo (l := l) (by omega), gT]
  split <;> rfl
theorem zZ {T : LT} (hT : TOk P T) {ih : qN} (hih : a3W P ih) {E : List LEnv} {p : Pth} {f : FuncId} {args : List Value} {H H1 : Heap} {v : Value} (hE : EOk P E H) (hp : p = kO f) (h : (mB T ih E p args H).Is v H1) :
 FnS P f args H (fun v' H' => v' = v ∧ H' = H1) ∧ LK H H1 := by
 unfold mB at h
 split at h
 case h_2 => exact absurd h Rs.ar
 rename_i g hg
 subst hp
 obtain ⟨fn, c, hfn, hb, hn, hps, hlow, hres⟩ := (hT f g hg).ex
 rw [hps] at h
 rw [fJ] at h
 rcases a0x (no := Rs.no) (l := args) (i := 0) (m := fn.ntmps) (f := .e) (K := fun f => c1p g.res (ih E g.body f H)) with h1 | ⟨h1, f0, h2, h3⟩
 ·rw [h1] at h; exact absurd h Rs.ar
 ·rw [h2] at h
  have hf0 : FRel fn.ntmps f0 (args ++ List.replicate (fn.ntmps - args.length) undef) := by
   refine ⟨by simp; omega, fun t => ?_⟩
   rw [h3 t, a0F]
   by_cases ht : t < args.length
   ·rw [if_pos (by omega)]; rfl
   ·rw [if_neg (by omega), vK, oT, cZ, eo (by omega)]; try rfl
  cases hr : ih E g.body f0 H with
  | no => rw [hr] at h; exact absurd h Rs.ar
  | ok e f1 H2 =>
    rw [hr] at h
    obtain ⟨l1, hf1, hs, hk, _⟩ := hih E g.body fn.ntmps c f0 _ H e f1 H2 hlow hf0 hE hr
    have key : (e = .normal ∨ e = .ret) → (a7L g.res f1 H2).Is v H1 → FnS P f args H (fun v' H' => v' = v ∧ H' = H1) ∧ LK H H1 := by
     intro he hv
     obtain ⟨rfl, hv⟩ := b6p hf1.2 hres hv
     exact ⟨⟨fn, c, e, l1, H1, v, hfn, hb, hn, hs, he, hv, rfl, rfl⟩, hk⟩
    cases e with
    | normal => exact key (.inl rfl) h
    | ret => exact key (.inr rfl) h
    | exit id => exact absurd h Rs.ar
theorem b4H {T : LT} (hT : TOk P T) {ih : qN} (hih : a3W P ih) {E : List LEnv} {p : Pth} {f : FuncId} {args : List Value} {H H1 : Heap} {v : Value} (hE : EOk P E H) (hp : p = kO f) (h : (b5r P T ih E p f args H).Is v H1) :
 (FnS P f args H (fun v' H' => v' = v ∧ H' = H1) ∨ qL P f args H = some (v, H1)) ∧ LK H H1 := by
 unfold b5r at h
 cases hg : a2h p T with
 | some g =>
   rw [hg] at h
   obtain ⟨a, b⟩ := zZ (H1 := H1) (v := v) hT hih hE hp (by unfold mB; rw [hg]; exact h)
   exact ⟨.inl a, b⟩
 | none =>
   rw [hg] at h
   have h : (c1g P f args H).Is v H1 := h
   unfold c1g at h
   split at h
   ·rename_i v2 H2 hx
    obtain ⟨rfl, rfl⟩ := Rs.aQ h
    exact ⟨.inr hx, a4X hx⟩
   ·exact absurd h Rs.ar
theorem a8H {E : List LEnv} {L : Nat} {en : LEnv} (h : b7w E L = some en) : en ∈ E ∧ en.L = L := by
 induction E with
 | nil => cases h
 | cons e E ih =>
   have h : oD (Nat.beq e.L L) (b7w E L) (some e) = some en := h
   rw [kM] at h
   split at h
   ·rename_i hh
    injection h with h
    subst h
    exact ⟨by simp, dY hh⟩
   ·obtain ⟨h1, h2⟩ := ih h
    exact ⟨dV _ h1, h2⟩
theorem a7C (e : Ex) : c0v e = rX e := by cases e <;> rfl
theorem b2y {ih : qN} (hih : a3W P ih) {E : List LEnv} {L : Nat} {args : List Value} {H H1 : Heap} {v : Value} (hE : EOk P E H) (h : (b0e ih E L args H).Is v H1) : xZ P L args H v H1 ∧ LK H H1 := by
 unfold b0e at h
 split at h
 case h_2 => exact absurd h Rs.ar
 rename_i en hen
 obtain ⟨hmem, rfl⟩ := a8H hen
 split at h
 case h_2 => exact absurd h Rs.ar
 rename_i p fn tmps ps a b d hg
 obtain ⟨hlen, h⟩ := lC h
 rw [zB] at hlen
 have hlen : ps.size = args.length := by simpa only [decide_eq_true_eq] using hlen
 obtain ⟨k, hps, hsz, hpp, hpk, hla, hlb⟩ := (hE en hmem).2 _ hg
 have hsz : tmps.length = k := by simpa using hsz
 rw [hps, fJ] at h
 rcases a0x (no := Rs.no) (l := tmps) (i := 0) (m := k) (f := .e) (K := fun f => pN .no args en.pp f fun f => tN ih E en (ih E en.a f H)) with h1 | ⟨h1, f0, h2, h3⟩
 ·rw [h1] at h; exact absurd h Rs.ar
 rw [h2] at h
 have hf0 : FRel k f0 tmps := by
  refine ⟨hsz, fun t => ?_⟩
  rw [h3 t]
  by_cases ht : t < tmps.length
  ·rw [if_pos (by omega)]; rfl
  ·rw [if_neg (by omega), vK, oT, cZ, eo (by omega)]; try rfl
 rw [hpp] at h
 obtain ⟨f2, h4, hf2⟩ := wJ (no := Rs.no) (args := args) (ps := ps.toList) (K := fun f => tN ih E en (ih E en.a f H)) hf0 hpk (by simpa using hlen.symm)
 have h : (pN Rs.no args (List.map kO ps.toList) f0 fun f => tN ih E en (ih E en.a f H)).Is v H1 := h
 rw [h4] at h
 cases hr1 : ih E en.a f2 H with
 | no => rw [hr1] at h; exact absurd h Rs.ar
 | ok e f3 H2 =>
   rw [hr1] at h
   obtain ⟨l3, hf3, hs1, hk1, _⟩ := hih E en.a k a f2 _ H e f3 H2 hla hf2 hE hr1
   cases e with
   | ret => exact absurd h Rs.ar
   | exit id => exact absurd h Rs.ar
   | normal =>
     have h : (a0G ih E en f3 H2).Is v H1 := h
     unfold a0G at h
     split at h
     case h_2 => exact absurd h Rs.ar
     rename_i p2 fn2 tmps2 ps2 a2 b2 d2 hg2
     rw [lZ] at h
     obtain ⟨r0, hr0, ea, eb, ep, et⟩ := hk1.2 en.L _ (hE en hmem).1 hg2
     rw [hg] at hr0
     injection hr0 with hr0
     injection hr0 with hr0
     subst hr0
     have ea' : a2 = a := ea
     have eb' : b2 = b := eb
     have ep' : ps2 = ps := ep
     have et' : tmps2 = ⟨tmps⟩ := et
     clear ea eb ep et
     subst ea' eb' ep' et'
     have hk2 : LK H2 (hset H2 en.L (.loop ⟨.busy, p2, fn2, ⟨tmps⟩, ps2, a2, b2, d2⟩)) := .loop hg2 ⟨rfl, rfl, rfl, rfl⟩
     cases hr2 : ih E en.b f3 (hset H2 en.L (.loop ⟨.busy, p2, fn2, ⟨tmps⟩, ps2, a2, b2, d2⟩)) with
     | no => rw [hr2] at h; exact absurd h Rs.ar
     | ok e f4 H3 =>
       rw [hr2] at h
       obtain ⟨l4, _, hs2, hk3, _⟩ := hih E en.b k b2 f3 _ _ e f4 H3 hlb hf3 (hE.ab (hk1.trans hk2)) hr2
       have h : (a1N en.L e H3).Is v H1 := h
       unfold a1N at h
       split at h
       case h_2 => exact absurd h Rs.ar
       rename_i st3 p3 fn3 tmps3 ps3 a3 b3 d3 hg3
       have fin : ∀ r', H1 = hset H3 en.L (.loop r') → (r' = { (⟨st3, p3, fn3, tmps3, ps3, a3, b3, d3⟩ : Loop) with state := if (rX e).isNone then .ready else .done, pending := rX e }) → v = .bool (rX e).isNone → xZ P en.L args H v H1 ∧ LK H H1 := by
        intro r' hH hr' hv
        refine ⟨?_, hk1.trans (hk2.trans (hk3.trans (by rw [hH]; exact .loop hg3 (by rw [hr']; exact ⟨rfl, rfl, rfl, rfl⟩))))⟩
        have hW := a0T (P := P) (args := args) (K := fun v' H' => v' = v ∧ H' = H1) hg hlen rfl
         ⟨.normal, l3, H2, hs1, rfl, _, hg2, rfl, e, l4, H3, hs2, _, hg3, hv.symm, by rw [hH, hr']⟩
        obtain ⟨v', H', h1, rfl, rfl⟩ := hW
        exact h1
       split at h
       ·rename_i hj
        obtain ⟨rfl, rfl⟩ := Rs.aQ h
        rw [a7C] at hj
        exact fin _ rfl (by rw [hj]; rfl) (by rw [hj]; rfl)
       ·rename_i c hj
        obtain ⟨rfl, rfl⟩ := Rs.aQ h
        rw [a7C] at hj
        exact fin _ rfl (by rw [hj]; rfl) (by rw [hj]; rfl)
theorem a4e {T : LT} (hT : TOk P T) {ih : qN} (hih : a3W P ih) {E : List LEnv} {H0 : Heap} (hE : EOk P E H0) : CallsOk P (a0w P T ih E) H0 where
 fn p f args H v H1 hk h hp := b4H hT hih (hE.ab hk) hp h
 rd L args H v H1 hk h := b2y hih (hE.ab hk) h
theorem c2Q {α : Type} {f : Fr} {l : List Value} (hf : FAg f l) (i m : Nat) (K : List Value → α) : frL f ((List.range' i m).map kO) K = K ((List.range' i m).map (get l)) := by
 induction m generalizing i K with
 | zero => rfl
 | succ m ih =>
   have e : frL f ((List.range' i (m + 1)).map kO) K = oR (oG (kO i) f) fun v => frL f ((List.range' (i + 1) m).map kO) fun l => K (v :: l) := by
    rw [gF]; rfl
   rw [e, mX, ih, hf i, gF]; rfl
theorem b7Y {α : Type} {k : Nat} {f : Fr} {l : List Value} (hf : FRel k f l) (K : List Value → α) : frL f ((List.range k).map kO) K = K l := by
 rw [fJ, c2Q hf.2, ← fJ]
 congr 1
 apply gz
 intro i
 rw [eN]
 by_cases hi : i < k
 ·rw [gL hi, dN, oT, cZ]
  have : i < l.length := by rw [hf.1]; exact hi
  simp [dp this]
 ·rw [eo (by simp; omega), eo (by rw [hf.1]; omega)]; rfl
theorem b2U {T : LT} (hT : TOk P T) {ih : qN} (hih : a3W P ih) {E : List LEnv} {k : Nat} {g : Operand} {ps : Array Tmp} {assign body : Code} {A B : LCode} (hg : iP g = true) (hps : ∀ t ∈ ps.toList, t < k) (ha : Low P k assign A) (hb : Low P k body B)
 {x1 x2 : Fr → Heap → Rc} {f : Fr} {l : List Value} {H : Heap} {e : Ex} {f1 : Fr} {H1 : Heap} (hf : FRel k f l) (hE : EOk P E H) (h : a9I T ih E (iV g) ((List.range k).map kO) (ps.toList.map kO) ps assign body A B x1 x2 f H = .ok e f1 H1) :
 f1 = f ∧ Sim P (.rangeFunc g ps assign body) l H e l H1 ∧ LK H H1 := by
 unfold a9I at h
 rw [jS hf.2] at h
 split at h
 case h_2 => cases h
 rename_i j xa xb hgv
 rw [kA, b7Y hf, lZ, kA] at h
 unfold b1r at h
 rw [lJ] at h
 generalize hH0 : H.cons (.loop ⟨.ready, none, 0, ⟨l⟩, ps, assign, body, 0⟩) = H0 at h
 have hl0 : (⟨.ready, none, 0, ⟨l⟩, ps, assign, body, 0⟩ : Loop) = b1w l ps assign body := rfl
 have hE0 : EOk P (⟨H.length, (List.range k).map kO, ps.toList.map kO, A, B⟩ :: E) H0 := by
  intro en hen
  rcases dS.1 hen with rfl | hen
  ·refine ⟨by rw [← hH0, length_cons]; exact Nat.lt_succ_self _, fun r hr => ?_⟩
   rw [← hH0, iN] at hr
   injection hr with hr
   injection hr with hr
   subst hr
   exact ⟨k, rfl, by simpa using hf.1, rfl, hps, ha, hb⟩
  ·exact (hE.ab (by rw [← hH0]; exact .cons _ _)) en hen
 have key : ∀ v H2, (mB T ih (⟨H.length, (List.range k).map kO, ps.toList.map kO, A, B⟩ :: E) (kO j) (a4T xa (.func (.yield H.length) #[] #[] :: xb)) H0).Is v H2 → uM H.length f H2 = .ok e f1 H1 → f1 = f ∧ Sim P (.rangeFunc g ps assign body) l H e l H1 ∧ LK H H1 := by
  intro v H2 hc hr
  obtain ⟨hfn, hk⟩ := zZ hT hih hE0 rfl hc
  have hargs : a4T xa (.func (.yield H.length) #[] #[] :: xb) = xa ++ [.func (.yield H.length) #[] #[]] ++ xb := by rw [zP]; simp
  rw [hargs, ← hH0, hl0] at hfn
  have fin : ∀ (r : Loop) (H3 : Heap), iS H2 H.length = some (.loop r) → r.state ≠ .busy → H3 = hset H2 H.length (.loop { r with state := .exhausted }) → (r.pending = none → e = .normal) → (∀ c, r.pending = some c → (c = .ret ∧ e = .ret) ∨ ∃ id, c = .exit id ∧ e = .exit id) → f1 = f → H1 = H3 →
   f1 = f ∧ Sim P (.rangeFunc g ps assign body) l H e l H1 ∧ LK H H1 := by
   intro r H3 hrl hnb hH3 hp0 hp1 he1 he2
   have hw : Wp P (.rangeFunc g ps assign body) l H (fun e' l' H' => e' = e ∧ l' = l ∧ H' = H3) := by
    refine Wp.range (first := xa) (captured := xb) hg (by rw [hgv]) (hfn.mono ?_)
    rintro v' H' ⟨rfl, rfl⟩
    refine ⟨r, hrl, hnb, fun hp => ⟨(hp0 hp).symm, rfl, hH3.symm⟩, fun c hc => ?_⟩
    rcases hp1 c hc with ⟨rfl, he⟩ | ⟨id, rfl, he⟩
    ·exact Wp.ret ⟨he.symm, rfl, hH3.symm⟩
    ·exact Wp.exit ⟨he.symm, rfl, hH3.symm⟩
   obtain ⟨e', l', H', hs, rfl, rfl, rfl⟩ := hw
   refine ⟨he1, by rw [he2]; exact hs, ?_⟩
   rw [he2, hH3]
   have h1 : LK H H0 := by rw [← hH0]; exact .cons _ _
   exact h1.trans (hk.trans (.loop hrl ⟨rfl, rfl, rfl, rfl⟩))
  unfold uM at hr
  split at hr
  ·rename_i hg2
   rw [lZ] at hr
   injection hr with h1 h2 h3
   exact fin _ _ hg2 (by simp) rfl (fun _ => h1.symm) (fun c hc => by cases hc) h2.symm h3.symm
  ·rename_i hg2
   rw [lZ] at hr
   injection hr with h1 h2 h3
   exact fin _ _ hg2 (by simp) rfl (fun _ => h1.symm) (fun c hc => by cases hc) h2.symm h3.symm
  ·rename_i hg2
   rw [lZ] at hr
   injection hr with h1 h2 h3
   exact fin _ _ hg2 (by simp) rfl (fun hc => by cases hc) (fun c hc => by injection hc with hc; subst hc; exact .inl ⟨rfl, h1.symm⟩) h2.symm h3.symm
  ·rename_i hg2
   rw [lZ] at hr
   injection hr with h1 h2 h3
   exact fin _ _ hg2 (by simp) rfl (fun hc => by cases hc) (fun c hc => by injection hc with hc; subst hc; exact .inr ⟨_, rfl, h1.symm⟩) h2.symm h3.symm
  ·cases hr
 cases hc : mB T ih (⟨H.length, (List.range k).map kO, ps.toList.map kO, A, B⟩ :: E) (kO j) (a4T xa (.func (.yield H.length) #[] #[] :: xb)) H0 with
 | no => rw [hc] at h; cases h
 | ok v H2 => rw [hc] at h; exact key v H2 (.inl hc) h
 | th v H2 =>
   rw [hc] at h
   have h : oA H2 (fun H => uM _ f H) = .ok e f1 H1 := h
   rw [lZ] at h
   exact key v H2 (.inr hc) h
theorem c2v (jY : P.follows .mixedOrders = true) {T : LT} (hT : TOk P T) : ∀ n, a3W P (zX P T n) := by
 intro n
 induction n with
 | zero => intro E C k c f l H e f1 H1 _ _ _ h; cases h
 | succ n ih =>
   intro E C k c f l H e f1 H1 hlow hf hE h
   have h : b0T P T (zX P T n) E C f H = .ok e f1 H1 := h
   have noloop : ∀ {c : Code}, (∀ b, c ≠ .loop b) → ∀ {l1 : List Value}, ∀ b, c = .loop b → ∃ n, Rounds P b n l H e l1 H1 := fun hne _ b hb => absurd hb (hne b)
   cases hlow with
   | bad => cases h
   | skip =>
     injection h with h1 h2 h3; subst h1 h2 h3
     exact ⟨l, hf, .skip l H, .refl H, noloop (by intro b h; cases h)⟩
   | label t =>
     injection h with h1 h2 h3; subst h1 h2 h3
     exact ⟨l, hf, .label t l H, .refl H, noloop (by intro b h; cases h)⟩
   | exit id =>
     injection h with h1 h2 h3; subst h1 h2 h3
     exact ⟨l, hf, .exit id l H, .refl H, noloop (by intro b h; cases h)⟩
   | ret =>
     injection h with h1 h2 h3; subst h1 h2 h3
     exact ⟨l, hf, .ret l H, .refl H, noloop (by intro b h; cases h)⟩
   | @reg id ops d lo hlo hd =>
     have h : c5N (xY P (a0w P T (zX P T n) E) lo f H) = .ok e f1 H1 := h
     cases hr : xY P (a0w P T (zX P T n) E) lo f H with
     | no => rw [hr] at h; cases h
     | ok f2 H2 =>
       rw [hr] at h
       injection h with h1 h2 h3; subst h1 h2 h3
       obtain ⟨l1, hf1, hops, hk⟩ := b8z (a4e hT ih hE) hlo (i := 0) rfl hf (.refl H) hr
       have hops : OpsR P ops (List.range ops.size) l H l1 H2 := by rw [fJ]; simpa using hops
       refine ⟨l1, hf1, ?_, hk, noloop (by intro b h; cases h)⟩
       cases d with
       | false => exact .region hops
       | true => exact .bX jY (hd rfl) hops
   | drw hlo ht hl =>
     obtain ⟨l1, rfl, hf1, hs, hk⟩ := b9d jY (a4e hT ih hE) hlo ht hl hf h
     exact ⟨l1, hf1, hs, hk, noloop (by intro b h; cases h)⟩
   | @seq a b A B ha hb =>
     have h : b9D (zX P T n) E B (zX P T n E A f H) = .ok e f1 H1 := h
     cases hr : zX P T n E A f H with
     | no => rw [hr] at h; cases h
     | ok e2 f2 H2 =>
       rw [hr] at h
       obtain ⟨l2, hf2, hs, hk, _⟩ := ih E A k a f l H e2 f2 H2 ha hf hE hr
       cases e2 with
       | normal =>
         obtain ⟨l1, hf1, hs1, hk1, _⟩ := ih E B k b f2 l2 H2 e f1 H1 hb hf2 (hE.ab hk) h
         exact ⟨l1, hf1, .seq hs hs1, hk.trans hk1, noloop (by intro b h; cases h)⟩
       | ret =>
         injection h with h1 h2 h3; subst h1 h2 h3
         exact ⟨l2, hf2, .seq' hs (by intro h; cases h), hk, noloop (by intro b h; cases h)⟩
       | exit id =>
         injection h with h1 h2 h3; subst h1 h2 h3
         exact ⟨l2, hf2, .seq' hs (by intro h; cases h), hk, noloop (by intro b h; cases h)⟩
   | @cond c x y X Y hc hx hy =>
     have h : b6g (zX P T n) E (iV c) X Y (b0T P T (zX P T n) E X) (b0T P T (zX P T n) E Y) f H = .ok e f1 H1 := h
     unfold b6g at h
     rw [jS hf.2] at h
     split at h
     ·rename_i t ht
      cases t with
      | true =>
        obtain ⟨l1, hf1, hs, hk, _⟩ := ih E X k x f l H e f1 H1 hx hf hE h
        exact ⟨l1, hf1, .cond ht hc hs, hk, noloop (by intro b h; cases h)⟩
      | false =>
        obtain ⟨l1, hf1, hs, hk, _⟩ := ih E Y k y f l H e f1 H1 hy hf hE h
        exact ⟨l1, hf1, .cond ht hc hs, hk, noloop (by intro b h; cases h)⟩
     ·cases h
   | @block id b B hb =>
     have h : c4u id (zX P T n E B f H) = .ok e f1 H1 := h
     cases hr : zX P T n E B f H with
     | no => rw [hr] at h; cases h
     | ok e2 f2 H2 =>
       rw [hr] at h
       obtain ⟨l2, hf2, hs, hk, _⟩ := ih E B k b f l H e2 f2 H2 hb hf hE hr
       have hs' : Sim P (.block id b) l H (e2.out id) l2 H2 := .block hs
       cases e2 with
       | normal => injection h with h1 h2 h3; subst h1 h2 h3; exact ⟨l2, hf2, hs', hk, noloop (by intro b h; cases h)⟩
       | ret => injection h with h1 h2 h3; subst h1 h2 h3; exact ⟨l2, hf2, hs', hk, noloop (by intro b h; cases h)⟩
       | exit i =>
         have h : Rc.ok (Bool.rec (motive := fun _ => Ex) (.exit i) .normal (Nat.beq i id)) f2 H2 = .ok e f1 H1 := h
         injection h with h1 h2 h3; subst h2 h3
         have : (Ex.exit i).out id = e := by
          rw [← h1]
          by_cases hi : i = id
          ·subst hi; simp [Ex.out]
          ·have : Nat.beq i id = false := fS.2 fun e => hi (dY e)
           simp [Ex.out, hi, this]
         rw [this] at hs'
         exact ⟨l2, hf2, hs', hk, noloop (by intro b h; cases h)⟩
   | @loop b B hb =>
     have h : b9D (zX P T n) E (.loop B) (zX P T n E B f H) = .ok e f1 H1 := h
     cases hr : zX P T n E B f H with
     | no => rw [hr] at h; cases h
     | ok e2 f2 H2 =>
       rw [hr] at h
       obtain ⟨l2, hf2, hs, hk, _⟩ := ih E B k b f l H e2 f2 H2 hb hf hE hr
       have last : e2 ≠ .normal → e2 = e → f2 = f1 → H2 = H1 → ∃ l1, FRel k f1 l1 ∧ Sim P (.loop b) l H e l1 H1 ∧ LK H H1 ∧ ∀ b', Code.loop b = .loop b' → ∃ n, Rounds P b' n l H e l1 H1 := by
        intro hne h1 h2 h3
        subst h1 h2 h3
        have hr : Rounds P b 1 l H e2 l2 H2 := .last hs hne
        exact ⟨l2, hf2, .loop hr, hk, fun b' hb' => by injection hb' with hb'; subst hb'; exact ⟨1, hr⟩⟩
       cases e2 with
       | normal =>
         obtain ⟨l1, hf1, hs1, hk1, hro⟩ := ih E (.loop B) k (.loop b) f2 l2 H2 e f1 H1 (.loop hb) hf2 (hE.ab hk) h
         obtain ⟨m, hm⟩ := hro b rfl
         have hr : Rounds P b (m + 1) l H e l1 H1 := .more hs hm
         exact ⟨l1, hf1, .loop hr, hk.trans hk1, fun b' hb' => by injection hb' with hb'; subst hb'; exact ⟨_, hr⟩⟩
       | ret => injection h with h1 h2 h3; exact last (by intro h; cases h) h1 h2 h3
       | exit id => injection h with h1 h2 h3; exact last (by intro h; cases h) h1 h2 h3
   | range hg hps ha hb =>
     obtain ⟨rfl, hs, hk⟩ := b2U (x1 := fun _ _ => .no) (x2 := fun _ _ => .no) hT ih hg hps ha hb hf hE h
     exact ⟨l, hf, hs, hk, noloop (by intro b h; cases h)⟩
theorem zV {α : Type} (v : LFunc) (p : Pth) (f : LT) (K : LT → α) : sH v p f K = K (sH v p f fun f => f) := by
 induction p generalizing f α with
 | z => cases f <;> rfl
 | l p ih =>
   cases f with
   | e =>
     show sH v p .e (fun l => K (.n none l .e)) = K (sH v p .e fun l => .n none l .e)
     rw [ih, ih (K := fun l => LT.n none l .e)]
   | n w l r =>
     show sH v p l (fun l => K (.n w l r)) = K (sH v p l fun l => .n w l r)
     rw [ih, ih (K := fun l => LT.n w l r)]
 | r p ih =>
   cases f with
   | e =>
     show sH v p .e (fun l => K (.n none .e l)) = K (sH v p .e fun l => .n none .e l)
     rw [ih, ih (K := fun l => LT.n none .e l)]
   | n w l r =>
     show sH v p r (fun r => K (.n w l r)) = K (sH v p r fun r => .n w l r)
     rw [ih, ih (K := fun r => LT.n w l r)]
theorem xK (p : Pth) : a2h p .e = none := by cases p <;> rfl
theorem b2z (v : LFunc) (p q : Pth) (f : LT) {g : LFunc} (h : a2h q (sH v p f fun f => f) = some g) : (q = p ∧ g = v) ∨ a2h q f = some g := by
 induction p generalizing f q with
 | z =>
   cases q with
   | z => left; refine ⟨rfl, ?_⟩; cases f <;> (injection h with h; exact h.symm)
   | l q => right; cases f with
     | e => have h : a2h q .e = some g := h
            rw [xK] at h; cases h
     | n => exact h
   | r q => right; cases f with
     | e => have h : a2h q .e = some g := h
            rw [xK] at h; cases h
     | n => exact h
 | l p ih =>
   have h1 : ∀ f, sH v (.l p) f (fun f => f) = match f with | .e => .n none (sH v p .e fun f => f) .e | .n w l r => .n w (sH v p l fun f => f) r := fun f => by
    cases f with
    | e => exact zV v p .e fun l => LT.n none l .e
    | n w l r => exact zV v p l fun l => LT.n w l r
   rw [h1] at h
   cases q with
   | z => right; cases f with
     | e => exact h
     | n => exact h
   | r q => right; cases f with
     | e => have h : a2h q .e = some g := h
            rw [xK] at h; cases h
     | n => exact h
   | l q =>
     cases f with
     | e =>
       rcases ih q .e h with ⟨rfl, hq⟩ | h
       ·exact .inl ⟨rfl, hq⟩
       ·rw [xK] at h; cases h
     | n w l r =>
       rcases ih q l h with ⟨rfl, hq⟩ | h
       ·exact .inl ⟨rfl, hq⟩
       ·exact .inr h
 | r p ih =>
   have h1 : ∀ f, sH v (.r p) f (fun f => f) = match f with | .e => .n none .e (sH v p .e fun f => f) | .n w l r => .n w l (sH v p r fun f => f) := fun f => by
    cases f with
    | e => exact zV v p .e fun l => LT.n none .e l
    | n w l r => exact zV v p r fun r => LT.n w l r
   rw [h1] at h
   cases q with
   | z => right; cases f with
     | e => exact h
     | n => exact h
   | l q => right; cases f with
     | e => have h : a2h q .e = some g := h
            rw [xK] at h; cases h
     | n => exact h
   | r q =>
     cases f with
     | e =>
       rcases ih q .e h with ⟨rfl, hq⟩ | h
       ·exact .inl ⟨rfl, hq⟩
       ·rw [xK] at h; cases h
     | n w l r =>
       rcases ih q r h with ⟨rfl, hq⟩ | h
       ·exact .inl ⟨rfl, hq⟩
       ·exact .inr h
theorem b3G {α : Type} (f : FuncId) (no : α) (K : LFunc → α) : (∃ g, FuncOk P f g ∧ a2P P f no K = K g) ∨ a2P P f no K = no := by
 unfold a2P
 split
 ·rename_i fn hfn
  split
  ·rename_i c hb
   rw [kM]
   split
   ·exact .inr rfl
   ·rename_i hn
    rcases b5D (P := P) fn.results.toList (fun res => b2I fn.ntmps fun ps => nG P fn.ntmps c fun b => K ⟨ps, b, res⟩) no with ⟨res, hres, h1⟩ | h1
    ·rw [h1, b0Y]
     obtain ⟨C, hC, h2⟩ := b2b (P := P) fn.ntmps c (fun b => K ⟨(List.range fn.ntmps).map kO, b, res⟩)
     exact .inl ⟨⟨_, C, res⟩, ⟨fn, c, hfn, hb, by simpa using hn, rfl, hC, hres⟩, h2⟩
    ·exact .inr h1
  ·exact .inr rfl
 ·exact .inr rfl
theorem b4p {α : Type} (fs : List FuncId) (T : LT) (hT : TOk P T) (K : LT → α) : ∃ T', TOk P T' ∧ sM P fs T K = K T' := by
 induction fs generalizing T with
 | nil => exact ⟨T, hT, rfl⟩
 | cons f fs ih =>
   have e : sM P (f :: fs) T K = a2P P f (sM P fs T K) fun g => lL (kO f) fun p => sH g p T fun T => sM P fs T K := rfl
   rw [e]
   rcases b3G (P := P) f (sM P fs T K) (fun g => lL (kO f) fun p => sH g p T fun T => sM P fs T K) with ⟨g, hg, h⟩ | h
   ·rw [h, lJ, zV]
    refine ih _ fun f' g' h' => ?_
    rcases b2z g (kO f) (kO f') T h' with ⟨he, rfl⟩ | h'
    ·rw [b1k he]; exact hg
    ·exact hT f' g' h'
   ·rw [h]; exact ih T hT
end Go.Ds
namespace Go.Ds
open Go.Proofs Go.Proofs.Tryz
def t64 : List Nat := [0, 1, 56, 2, 57, 49, 28, 3, 61, 58, 42, 50, 38, 29, 17, 4, 62, 47, 59, 36, 45, 43, 51, 22, 53, 39, 33, 30, 24, 18, 12, 5, 63, 55, 48, 27, 60, 41, 37, 16, 46, 35, 44, 21, 52, 32, 23, 11, 54, 26, 40, 15, 34, 20, 31, 10, 25, 14, 19, 9, 13, 8, 7, 6]
def t32 : List Nat := [0, 1, 28, 2, 29, 14, 24, 3, 30, 22, 20, 15, 25, 17, 4, 8, 31, 27, 13, 23, 21, 19, 16, 7, 26, 12, 18, 6, 11, 5, 10, 9]
noncomputable def gH : Heap := ((((Heap.nil.cons (.cells (t64.map fun (n : Nat) => Value.int .u8 (.ofNat n)) 5 false 0 1)).cons (.cells [] 3 false 0 1)).cons (.cells ([1, 10, 100, 1000, 10000, 100000, 1000000, 10000000, 100000000, 1000000000, 10000000000, 100000000000, 1000000000000, 10000000000000, 100000000000000, 1000000000000000, 10000000000000000, 100000000000000000, 1000000000000000000, 10000000000000000000].map fun (n : Nat) => Value.int .u64 (.ofNat n)) 38 false 0 1)).cons (.cells (t32.map fun (n : Nat) => Value.int .u8 (.ofNat n)) 5 false 0 1))
theorem c4X : prog.follows .mixedOrders = true := by kernel_rfl
def b2V : Nat → Nat → List UInt8 → List UInt8
 | 0, _, acc => acc
 | f + 1, n, acc => if n < 10 then (48 + n).toUInt8 :: acc else b2V f (n / 10) ((48 + n % 10).toUInt8 :: acc)
def pL (n : Nat) : ByteArray := ⟨(b2V 100 n []).toArray⟩
theorem a5E {b : ByteArray} {n : Nat} (h : b.data.toList = b2V 100 n []) : b = pL n := by
 cases b with | mk d => cases d with | mk l => simp only at h; subst h; rfl
def b1h (r : Rs) (n : Nat) : Bool := match r with
 | .ok (.string b) _ => decide (b.data.toList = b2V 100 n [])
 | .th (.string b) _ => decide (b.data.toList = b2V 100 n [])
 | _ => false
def b7Z (v : Value) (n : Nat) : Bool := match v with
 | .tuple vs => match vs.toList with
   | [.string b, .int .i64 m] => decide (m = 0) && decide (b.data.toList = b2V 100 n [])
   | _ => false
 | _ => false
def b4Z (r : Rs) (n : Nat) : Bool := match r with
 | .ok v _ => b7Z v n
 | .th v _ => b7Z v n
 | _ => false
def b7A (r : Rs) (n : Int) : Bool := match r with
 | .ok (.int .i64 m) _ => decide (m = n)
 | .th (.int .i64 m) _ => decide (m = n)
 | _ => false
noncomputable def c1d (ps : List Nat) : Bool := sM prog [115, 99, 155, 132, 165, 181, 185, 186, 187, 188, 191, 192, 193, 194, 196] .e fun T => ps.all fun x => b1h (mB T (zX prog T 4000) [] (kO 99) [.int .i64 x] gH) x
def fsP : List Nat := [115, 179, 161, 163, 32, 98, 155, 178, 190, 54, 55, 128, 129, 130, 131, 135, 189, 195, 158, 159, 160, 162, 164, 166, 167, 176, 177, 180, 182, 185, 186, 187, 188, 191, 192, 193, 194, 196]
noncomputable def uF (ps : List Nat) : Bool := sM prog fsP .e fun T => ps.all fun x => b4Z (mB T (zX prog T 4000) [] (kO 98) [.string (pL x), .int .i64 24] gH) (x ^ 24)
def fsM : List Nat := [115, 179, 161, 163, 32, 99, 100, 155, 132, 178, 190, 54, 55, 128, 129, 130, 131, 133, 135, 165, 189, 195, 158, 159, 160, 162, 164, 166, 167, 181, 176, 177, 180, 182, 185, 186, 187, 188, 191, 192, 193, 194, 196]
noncomputable def lV (ps : List (Nat × Nat)) : Bool := sM prog fsM .e fun T => ps.all fun x => b1h (mB T (zX prog T 4000) [] (kO 100) [.string (pL x.1), .string (pL x.2)] gH) (x.1 * x.2)
def sL (t : Nat × Nat) : List (Nat × Nat) := (t.1 ^ 24, 2) :: (List.range t.2).map fun k => (2 * t.1 ^ 24 * 4 ^ k, 4)
def a7J (t : Nat × Nat × Nat) : List (Nat × Nat) := (List.range (t.2.2 + 1)).map fun k => (t.1 ^ 24, 2 * t.2.1 ^ 24 * 4 ^ k)
def b6e (a b : Nat) : Int := if a < b then -1 else if b < a then 1 else 0
noncomputable def vJ (ps : List (Nat × Nat)) : Bool := sM prog [101, 134, 135, 136, 166, 167, 168, 182, 183] .e fun T => ps.all fun x => b7A (mB T (zX prog T 4000) [] (kO 101) [.string (pL x.1), .string (pL x.2)] gH) (b6e x.1 x.2)
end Go.Ds
namespace Go.Ds
open Go.RowKit Go.Proofs
section
variable {P : Program} {ρ : Rho} {H : Heap} {w : World}
theorem a3R {name : String} {g : Nat} {k : IntKind} {zs : List Int} (hg : P.globalNamed name = some g) (ht : Lib.TabIs P w name k zs) : ∃ t fr, w.heap[g]? = some (.cells (zs.map fun z => Value.int k z).toArray t fr) := by
 unfold Lib.TabIs World.var? at ht
 rw [hg, cW] at ht
 split at ht
 ·rename_i cs t fr hb
  obtain rfl := cU ht
  exact ⟨t, fr, hb⟩
 ·cases ht
theorem InW.cJ (h : InW P ρ H w) {name : String} {g : Nat} {k : IntKind} {zs : List Int} {ty : TypeId} (hg : P.globalNamed name = some g) (ht : Lib.TabIs P w name k zs) (hgH : g = H.length) (hty : iE P ty = some 1) :
 InW P (ρ.put H.length (zs.map fun z => Value.int k z).length ⟨g, 0, zs.length, 1⟩) (H.cons (.cells (zs.map fun z => Value.int k z) ty false 0 1)) w := by
 obtain ⟨t, fr, hb⟩ := a3R hg ht
 refine (h.row ⟨g, 0, zs.length, 1⟩ hb (ty := ty) hty (by simp) (zs.map fun z => Value.int k z) 1 (fun _ => ⟨hgH, rfl⟩) (by simp) fun i c hi _ hc => ⟨c, ?_, ?_⟩).1
 ·have : (⟨g, 0, zs.length, 1⟩ : Place).at i = i := by simp [Place.at]
  rw [this]
  simpa using hc
 ·rw [eN] at hc
  obtain ⟨z, _, rfl⟩ := dh.1 hc
  exact .c0 (.flat rfl)
end
theorem c4a : ∀ A b, iS gH A = some b → ∃ cs ty lo, b = .cells cs ty false lo 1 ∧ kJ cs = true := by
 intro A b h
 unfold gH at h
 have hn : ∀ (H : Heap) (c : Blk), iS (H.cons c) A = some b → (A = H.length ∧ b = c) ∨ iS H A = some b := fun H c h => by
  by_cases he : A = H.length
  ·subst he; rw [iN] at h; exact .inl ⟨rfl, (cU h).symm⟩
  ·have hA : A < (H.cons c).length := jK h
   rw [length_cons] at hA
   rw [jM _ (by omega)] at h
   exact .inr h
 rcases hn _ _ h with ⟨_, rfl⟩ | h
 ·exact ⟨_, _, _, rfl, by kernel_rfl⟩
 rcases hn _ _ h with ⟨_, rfl⟩ | h
 ·exact ⟨_, _, _, rfl, by kernel_rfl⟩
 rcases hn _ _ h with ⟨_, rfl⟩ | h
 ·exact ⟨_, _, _, rfl, by kernel_rfl⟩
 rcases hn _ _ h with ⟨_, rfl⟩ | h
 ·exact ⟨_, _, _, rfl, by kernel_rfl⟩
 ·have : A < 0 := jK h
  omega
theorem ExtW.glob {ρ ρ' : Rho} {H' : Heap} (h : ExtW ρ gH ρ' H') : Glob gH H' := ⟨h.len, fun A hA => h.old A hA, c4a⟩
def p10 : List Int := [1, 10, 100, 1000, 10000, 100000, 1000000, 10000000, 100000000, 1000000000, 10000000000, 100000000000, 1000000000000, 10000000000000, 100000000000000, 1000000000000000, 10000000000000000, 100000000000000000, 1000000000000000000, 10000000000000000000]
theorem g64 : Tryz.prog.globalNamed "math/bits.deBruijn64tab" = some 0 := by kernel_rfl
theorem oZ : Tryz.prog.globalNamed "internal/strconv.uint64pow10" = some 2 := by kernel_rfl
theorem g32 : Tryz.prog.globalNamed "math/bits.deBruijn32tab" = some 3 := by kernel_rfl
theorem b9l {w : World} (h64 : Lib.TabIs Tryz.prog w "math/bits.deBruijn64tab" .u8 (t64.map Int.ofNat)) (h10 : Lib.TabIs Tryz.prog w "internal/strconv.uint64pow10" .u64 p10)
 (h32 : Lib.TabIs Tryz.prog w "math/bits.deBruijn32tab" .u8 (t32.map Int.ofNat)) (h1001 : ∃ cs t fr, w.heap[1]? = some (.cells cs t fr)) : ∃ ρ, InW Tryz.prog ρ gH w := by
 have a0 := (InW.none (P := Tryz.prog) w).cJ g64 h64 (ty := 5) rfl (by kernel_rfl)
 obtain ⟨cs1, t1, fr1, hb1⟩ := h1001
 have a1 := (a0.row ⟨1, 0, cs1.size, 1⟩ hb1 (ty := 3) (by kernel_rfl) rfl [] 1 (fun _ => ⟨rfl, rfl⟩) (by simp) (fun i c hi => by simp at hi)).1
 have a2 := a1.cJ oZ h10 (ty := 38) rfl (by kernel_rfl)
 have a3 := a2.cJ g32 h32 (ty := 5) rfl (by kernel_rfl)
 exact ⟨_, a3⟩
end Go.Ds
namespace Go.Ds
noncomputable section
variable {P : Program} {H0 : Base} {H : Heap} {os : List Ob} {κ β : Type} [DecidableEq κ] {enc : κ → Value} {f : β → Value} {t : TypeId} {z : Value}
structure MapK (P : Program) (t : TypeId) {κ : Type} [DecidableEq κ] (enc : κ → Value) (z : Value) : Prop where
 ex : ∃ kt et, yM P t = some (kt, et) ∧ jA P et = some z ∧ jB z = true ∧ (∀ b k, zH P b kt (enc k) = true) ∧
  (∀ k (es : List MapEntry) (ks : List κ), es.map (·.key) = ks.map enc → rV P kt (enc k) es = some (ks.findIdx? fun x => decide (x = k))) ∧ ∀ k, Instr.sameBits 10000 (enc k) (enc k) = true
def kcs (enc : κ → Value) (f : β → Value) (kvs : List (κ × β)) : List Value := kvs.flatMap fun p => [enc p.1, f p.2]
def a3d (kvs : List (κ × β)) (k : κ) : Option β := (kvs.find? fun p => decide (p.1 = k)).map (·.2)
def a5r (kvs : List (κ × β)) (k : κ) (v : β) : List (κ × β) := match kvs.findIdx? (fun p => decide (p.1 = k)) with
 | some j => kvs.set j (k, v)
 | none => kvs ++ [(k, v)]
theorem a5z : ∀ (es : List MapEntry) (kvs : List (κ × β)), kcs enc f kvs = mcs es → es.map (·.key) = kvs.map (fun p => enc p.1) ∧ es.map (·.val) = kvs.map (fun p => f p.2)
 | [], [], _ => ⟨rfl, rfl⟩
 | [], p :: kvs, h => by simp [kcs, mcs] at h
 | e :: es, [], h => by simp [kcs, mcs] at h
 | e :: es, p :: kvs, h => by
   simp only [kcs, mcs, dz, ig, eZ, fQ] at h
   obtain ⟨h1, h2, h3⟩ := h
   obtain ⟨h4, h5⟩ := a5z es kvs h3
   simp only [ey]
   exact ⟨by rw [h4, h1], by rw [h5, h2]⟩
theorem a9Z : ∀ (es : List MapEntry) (kvs : List (κ × β)), es.map (·.key) = kvs.map (fun p => enc p.1) → es.map (·.val) = kvs.map (fun p => f p.2) → kcs enc f kvs = mcs es
 | [], [], _, _ => rfl
 | [], p :: kvs, h, _ => by simp at h
 | e :: es, [], h, _ => by simp at h
 | e :: es, p :: kvs, h, h' => by
   simp only [ey, fQ] at h h'
   have := a9Z es kvs h.2 h'.2
   simp only [kcs, mcs, dz] at this ⊢
   rw [this, h.1, h'.1]
theorem St.bY (hS : St P H0 H os) (i : Nat) {A : Nat} {cs : List Value} (ho : os[i]? = some ⟨.map (some A), 0, cs⟩) : ∃ es ck ver, iS H A = some (.map es ck ver) ∧ cs = mcs es ∧ Stamps es ck := by
 have := hS.own _ (dP ho)
 unfold OwnAt at this
 rw [if_pos rfl] at this
 rcases this with ⟨_, _, _, _, _, _, h⟩ | ⟨A', es, ck, ver, h1, h2, h3, h4⟩
 ·cases h
 ·simp only [Value.map.injEq, dD] at h3
  subst h3
  exact ⟨es, ck, ver, h1, h2, h4⟩
theorem b0U (kvs : List (κ × β)) (k : κ) : (∃ j x, (kvs.map (·.1)).findIdx? (fun x => decide (x = k)) = some j ∧ kvs[j]? = some x ∧ kvs.find? (fun p => decide (p.1 = k)) = some x) ∨ ((kvs.map (·.1)).findIdx? (fun x => decide (x = k)) = none ∧ kvs.find? (fun p => decide (p.1 = k)) = none) := by
 induction kvs with
 | nil => exact .inr ⟨rfl, rfl⟩
 | cons p kvs ih =>
   by_cases h : p.1 = k
   ·exact .inl ⟨0, p, by simp [eX, h], rfl, by simp [h]⟩
   ·rcases ih with ⟨j, x, h1, h2, h3⟩ | ⟨h1, h2⟩
    ·exact .inl ⟨j + 1, x, by simp [eX, h, h1], by simpa using h2, by simp [h, h3]⟩
    ·exact .inr ⟨by simp [eX, h, h1], by simp [h, h2]⟩
theorem St.cS (hS : St P H0 H os) (i : Nat) {A : Nat} {kvs : List (κ × β)} (ho : os[i]? = some ⟨.map (some A), 0, kcs enc f kvs⟩) (hk : MapK P t enc z) (hf : ∀ b, nD (f b) = true) (c : Bool) (k : κ) :
 pS P H t (.map (some A)) (enc k) c = some (pairV c (((a3d kvs k).map f).getD z) (a3d kvs k).isSome) := by
 obtain ⟨kt, et, h1, h2, h3, h4, h5, h6⟩ := hk.ex
 obtain ⟨es, ck, ver, h7, h8, _⟩ := hS.bY i ho
 obtain ⟨h9, h10⟩ := a5z es kvs h8
 have hi := h5 k es (kvs.map (·.1)) (by rw [h9]; simp [gX])
 simp only [pS, h1, cW, a2k, h7, h4, if_true, hi, a3d]
 rcases b0U kvs k with ⟨j, x, e1, e2, e3⟩ | ⟨e1, e3⟩
 ·have hj : es[j]?.map (·.val) = some (f x.2) := by
   rw [← eN, h10, eN, e2]; rfl
  cases he : es[j]? with
  | none => rw [he] at hj; simp at hj
  | some e =>
    rw [he] at hj
    simp only [dN, dD] at hj
    simp only [e1, he, cW, hj, hf, if_true, e3, dN, fc, Option.isSome_some]
 ·simp only [e1, e3, Option.map_none, Option.getD_none, Option.isSome_none, h2, cW, h3, if_true]
def a6D (P : Program) (H : Heap) (t : TypeId) (x k : Value) (c : Bool) (K : Value → Prop) (_k : Keep K := ⟨⟩) : Prop := ∃ v, pS P H t x k c = some v ∧ K v
theorem a6u {t : TypeId} {x x' k k' : Value} {c : Bool} {K : Value → Prop} (h : x = x') (h2 : k = k') : a6D P H t x k c K = a6D P H t x' k' c K := by rw [h, h2]
attribute [congr] a6u
theorem a9C (d ty pos af g) (t : TypeId) (x k : Operand) (c : Bool) (l : List Value) (K : Value → Heap → Prop) :
 lU P ⟨d, .lookup t x k c, ty, pos, af, g⟩ l H K = jJ x l fun x => jJ k l fun k => a6D P H t x k c fun v => K v H := by
 have h2 : kB ((pS P H t (ev l x) (ev l k) c).map fun v => (v, H)) K = ∃ v, pS P H t (ev l x) (ev l k) c = some v ∧ K v H := by
  cases pS P H t (ev l x) (ev l k) c <;> simp [kB]
 simp only [lU, opD, jJ, Op.operands, a6D, h2]
 simp [and_assoc]
theorem St.bN (hS : St P H0 H os) (i : Nat) {A : Nat} {kvs : List (κ × β)} (ho : os[i]? = some ⟨.map (some A), 0, kcs enc f kvs⟩) (hk : MapK P t enc z) (hf : ∀ b, nD (f b) = true) {c : Bool} {k : κ} {K : Value → Prop}
 (h : K (pairV c (((a3d kvs k).map f).getD z) (a3d kvs k).isSome)) : a6D P H t (.map (some A)) (enc k) c K := ⟨_, hS.cS i ho hk hf c k, h⟩
def a5A (P : Program) (H : Heap) (t : TypeId) (K : Value → Heap → Prop) (_k : Keep K := ⟨⟩) : Prop := ∃ v H1, pV P H t none = some (v, H1) ∧ K v H1
theorem a7I (d ty pos af g) (t : TypeId) (l : List Value) (K : Value → Heap → Prop) : lU P ⟨d, .makeMap t none, ty, pos, af, g⟩ l H K = a5A P H t K := by
 simp only [lU, opD, Op.operands, a5A, mS]
 simp
theorem St.bT (hS : St P H0 H os) (hk : MapK P t enc z) {K : Value → Heap → Prop} (h : ∀ A H1, St P H0 H1 (os ++ [⟨.map (some A), 0, []⟩]) → K (.map (some A)) H1) : a5A P H t K := by
 obtain ⟨kt, et, h1, _⟩ := hk.ex
 refine ⟨.map (some H.length), H.cons (.map [] 0 0), by simp [pV, h1], h _ _ (hS.add ?_ ?_ ?_ ?_)⟩
 ·unfold OwnAt
  rw [if_pos rfl]
  exact .inr ⟨_, [], 0, 0, iN H _, rfl, rfl, .nil 0⟩
 ·simp [oQ]
 ·exact fun B hB => jM _ hB
 ·intro B hB
  simp [kI] at hB
  omega
def b7s (P : Program) (H : Heap) (t : TypeId) (m k v : Value) (K : Heap → Prop) (_k : Keep K := ⟨⟩) : Prop := ∃ H1, a1t P H t m k v = some H1 ∧ K H1
theorem a9g {t : TypeId} {m m' k k' v v' : Value} {K : Heap → Prop} (h : m = m') (h2 : k = k') (h3 : v = v') : b7s P H t m k v K = b7s P H t m' k' v' K := by rw [h, h2, h3]
attribute [congr] a9g
theorem a3l (d ty pos af g) (t : TypeId) (m k v : Operand) (l : List Value) (K : Value → Heap → Prop) :
 lU P ⟨d, .mapUpdate t m k v, ty, pos, af, g⟩ l H K = jJ m l fun m => jJ k l fun k => jJ v l fun v => b7s P H t m k v fun H1 => K undef H1 := by
 have h2 : kB ((a1t P H t (ev l m) (ev l k) (ev l v)).map fun H => (undef, H)) K = ∃ H1, a1t P H t (ev l m) (ev l k) (ev l v) = some H1 ∧ K undef H1 := by
  cases a1t P H t (ev l m) (ev l k) (ev l v) <;> simp [kB]
 simp only [lU, opD, jJ, Op.operands, b7s, h2]
 simp [and_assoc]
theorem b1H (kvs : List (κ × β)) (k : κ) (v : β) : a5r kvs k v = match (kvs.map (·.1)).findIdx? (fun x => decide (x = k)) with | some j => kvs.set j (k, v) | none => kvs ++ [(k, v)] := by
 unfold a5r
 rw [List.findIdx?_map]
 rfl
theorem St.cg (hS : St P H0 H os) (i : Nat) {A : Nat} {kvs : List (κ × β)} (ho : os[i]? = some ⟨.map (some A), 0, kcs enc f kvs⟩) (hk : MapK P t enc z) {k : κ} {v : β} {K : Heap → Prop}
 (h : ∀ H1, St P H0 H1 (os.set i ⟨.map (some A), 0, kcs enc f (a5r kvs k v)⟩) → K H1) : b7s P H t (.map (some A)) (enc k) (f v) K := by
 obtain ⟨kt, et, h1, h2, h3, h4, h5, h6⟩ := hk.ex
 obtain ⟨es, ck, ver, h7, h8, hst⟩ := hS.bY i ho
 obtain ⟨h9, h10⟩ := a5z es kvs h8
 have hi := h5 k es (kvs.map (·.1)) (by rw [h9]; simp [gX])
 have fin : ∀ es' ck', mcs es' = kcs enc f (a5r kvs k v) → Stamps es' ck' → St P H0 (hset H A (.map es' ck' (ver + 1))) (os.set i ⟨.map (some A), 0, kcs enc f (a5r kvs k v)⟩) := by
  intro es' ck' he hst'
  refine hS.put i ho ?_ ?_ ?_ ?_
  ·unfold OwnAt
   rw [if_pos rfl]
   exact .inr ⟨A, es', ck', _, iT _ (jK h7), he.symm, rfl, hst'⟩
  ·rw [jN]; exact dg _
  ·intro B hB hne
   exact rE fun hh => hne (by simp [kI, hh])
  ·exact fun B hB => .inl hB
 rcases b0U kvs k with ⟨j, x, e1, e2, _⟩ | ⟨e1, _⟩
 ·have hj : es[j]?.map (·.key) = some (enc x.1) := by
   rw [← eN, h9, eN, e2]; rfl
  have hx : x.1 = k := by
   have := List.findIdx?_eq_some_iff_getElem.1 e1
   obtain ⟨hlt, hd, _⟩ := this
   have hlt' : j < kvs.length := by simpa using hlt
   have : kvs[j] = x := by
    rw [dp hlt'] at e2
    exact cU e2
   simp [this] at hd
   exact hd
  cases he : es[j]? with
  | none => rw [he] at hj; simp at hj
  | some e =>
    rw [he] at hj
    simp only [dN, dD] at hj
    refine ⟨hset H A (.map (es.set j { e with key := enc k, val := f v }) ck (ver + 1)), ?_, h _ (fin _ _ ?_ (hst.set he _ rfl))⟩
    ·have hsb : Instr.sameBits 10000 e.key (enc k) = true := by rw [hj, hx]; exact h6 k
     simp only [a1t, h1, cW, h7, h4, if_true, hi, e1, he, hsb]
    ·symm
     rw [b1H, e1]
     refine a9Z _ _ ?_ ?_
     ·rw [gY, gY, h9]
     ·rw [gY, gY, h10]
 ·refine ⟨hset H A (.map (es ++ [{ key := enc k, val := f v, born := ck }]) (ck + 1) (ver + 1)), ?_, h _ (fin _ _ ?_ (hst.push _ rfl))⟩
  ·simp only [a1t, h1, cW, h7, h4, if_true, hi, e1]
  ·symm
   rw [b1H, e1]
   refine a9Z _ _ ?_ ?_
   ·rw [dL, dL, h9]; rfl
   ·rw [dL, dL, h10]; rfl
def b8S (P : Program) (H : Heap) (t : TypeId) (m k : Value) (K : Value → Heap → Prop) (_k : Keep K := ⟨⟩) : Prop := ∃ v H1, sX P H t m k = some (v, H1) ∧ K v H1
theorem a9q {t : TypeId} {m m' k k' : Value} {K : Value → Heap → Prop} (h : m = m') (h2 : k = k') : b8S P H t m k K = b8S P H t m' k' K := by rw [h, h2]
attribute [congr] a9q
def b0P (H : Heap) (m b v : Value) (K : Heap → Prop) (_k : Keep K := ⟨⟩) : Prop := ∃ H1, rT H m b v = some H1 ∧ K H1
theorem a7P {m m' b b' v v' : Value} {K : Heap → Prop} (h : m = m') (h2 : b = b') (h3 : v = v') : b0P H m b v K = b0P H m' b' v' K := by rw [h, h2, h3]
attribute [congr] a7P
theorem a5n (d ty pos af g) (t : TypeId) (m k : Operand) (l : List Value) (K : Value → Heap → Prop) :
 lU P ⟨d, .mapEntry t m k, ty, pos, af, g⟩ l H K = jJ m l fun m => jJ k l fun k => b8S P H t m k K := by
 have h2 : kB (sX P H t (ev l m) (ev l k)) K = ∃ v H1, sX P H t (ev l m) (ev l k) = some (v, H1) ∧ K v H1 := mS ..
 simp only [lU, opD, jJ, Op.operands, b8S, h2]
 simp [and_assoc]
theorem a2y (d ty pos af g) (t : TypeId) (m b v : Operand) (l : List Value) (K : Value → Heap → Prop) :
 lU P ⟨d, .entryStore t m b v, ty, pos, af, g⟩ l H K = jJ m l fun m => jJ b l fun b => jJ v l fun v => b0P H m b v fun H1 => K undef H1 := by
 have h2 : kB ((rT H (ev l m) (ev l b) (ev l v)).map fun H => (undef, H)) K = ∃ H1, rT H (ev l m) (ev l b) (ev l v) = some H1 ∧ K undef H1 := by
  cases rT H (ev l m) (ev l b) (ev l v) <;> simp [kB]
 simp only [lU, opD, jJ, Op.operands, b0P, h2]
 simp [and_assoc]
theorem a2x (kvs : List (κ × β)) (k k' : κ) (v : β) : a3d (a5r kvs k v) k' = if k' = k then some v else a3d kvs k' := by
 unfold a3d a5r
 induction kvs with
 | nil =>
   by_cases h : k' = k
   ·simp [h]
   ·simp [h, fb h]
 | cons p kvs ih =>
   by_cases hp : p.1 = k
   ·simp only [eX, hp, decide_true, if_true, fm, List.find?_cons]
    by_cases h : k' = k
    ·simp [h]
    ·simp [h, fb h]
   ·have hd : decide (p.1 = k) = false := by simp [hp]
    simp only [eX, hd, ec, if_false]
    by_cases hq : p.1 = k'
    ·have hne : ¬ k' = k := fun e => hp (hq.trans e)
     cases hh : kvs.findIdx? (fun p => decide (p.1 = k)) with
     | none => simp [hq, hne]
     | some j => simp [hq, hne]
    ·cases hh : kvs.findIdx? (fun p => decide (p.1 = k)) with
     | none =>
       rw [hh] at ih
       simpa [hq, List.find?_cons] using ih
     | some j =>
       rw [hh] at ih
       simpa [hq, List.find?_cons] using ih
end
end Go.Ds
namespace Go.Ds
noncomputable section
variable {P : Program} {H : Heap}
theorem kQ {α : Type} (P : Program) (x : α) : iM P (pure x) = some x := rfl
theorem jV {t : TypeId} {d : TypeDesc} (h : P.underlying t = some d) : iM P (underlying t) = some d := by
 unfold underlying
 rw [iK]
 have : iM P program = some P := rfl
 rw [this, cW, h]
 rfl
def lF : Operand → Bool
 | .const _ => true
 | _ => false
def oX (c : Bool) (i : Nat) (v : Value) : Operand := if c then .const v else .tmp i
def kW (P : Program) (op : BinOp) (t t2 : TypeId) (cx cy : Bool) (x y : Value) : Option Value := (opD P ⟨none, .binOp op t (oX cx 0 x) (oX cy 1 y) t2, t, "", #[], none⟩ [x, y] .nil).map (·.1)
def kZ (P : Program) (op : BinOp) (t t2 : TypeId) (cx cy : Bool) (x y : Value) (K : Value → Prop) (_k : Keep K := ⟨⟩) : Prop := match x, y with
 | .int k a, .int k' b => (match (if k = k' then mP op k a b else none) with | some v => K v | none => jW (kW P op t t2 cx cy (.int k a) (.int k' b)) K)
 | x, y => jW (kW P op t t2 cx cy x y) K
theorem a7K {op : BinOp} {t t2 : TypeId} {cx cy : Bool} {x x' y y' : Value} {K : Value → Prop} (h : x = x') (h2 : y = y') : kZ P op t t2 cx cy x y K = kZ P op t t2 cx cy x' y' K := by rw [h, h2]
attribute [congr] a7K
theorem b0I (x : Operand) (l m : List Value) : ev (ev l x :: m) (oX (lF x) 0 (ev l x)) = ev l x := by cases x <;> rfl
theorem b0J (x : Operand) (l m : List Value) (a : Value) : ev (a :: ev l x :: m) (oX (lF x) 1 (ev l x)) = ev l x := by cases x <;> rfl
theorem b5E (op : BinOp) (t : TypeId) (x y : Operand) (l : List Value) : eqGuard op t x y (ev l x) (ev l y) = eqGuard op t (oX (lF x) 0 (ev l x)) (oX (lF y) 1 (ev l y)) (ev l x) (ev l y) := by
 generalize hx : ev l x = vx
 generalize hy : ev l y = vy
 cases x <;> cases y <;> rfl
theorem b8M (d ty pos af g) (op : BinOp) (t : TypeId) (x y : Operand) (t2 : TypeId) (l : List Value) (H : Heap) :
 opD P ⟨d, .binOp op t x y t2, ty, pos, af, g⟩ l H = (kW P op t t2 (lF x) (lF y) (ev l x) (ev l y)).map fun v => (v, H) := by
 have hp : kP P ⟨d, .binOp op t x y t2, ty, pos, af, g⟩ l H = _ := nB (P := P) ⟨d, .binOp op t x y t2, ty, pos, af, g⟩ ⟨none, .binOp op t (oX (lF x) 0 (ev l x)) (oX (lF y) 1 (ev l y)) t2, t, "", #[], none⟩ l [ev l x, ev l y] H
  (by simp only [Op.operands, ey, gj, b0I, b0J]) (by
    simp only [execOp]
    rw [b0I, b0J, ← b5E])
 simp only [opD, kW, hp, b0I, b0J]
 generalize kP P _ _ _ = r
 generalize ev l x = vx
 generalize ev l y = vy
 split
 all_goals first
  | (split <;> first | rfl | (split <;> first | rfl | (cases r <;> rfl)) | (cases r <;> rfl))
  | (cases r <;> rfl)
theorem b6i (d ty pos af g) (op : BinOp) (t : TypeId) (x y : Operand) (t2 : TypeId) (l : List Value) (K : Value → Heap → Prop) :
 lU P ⟨d, .binOp op t x y t2, ty, pos, af, g⟩ l H K = jJ x l fun x' => jJ y l fun y' => kZ P op t t2 (lF x) (lF y) x' y' fun v => K v H := by
 have h : kB (opD P ⟨d, .binOp op t x y t2, ty, pos, af, g⟩ l H) K = kZ P op t t2 (lF x) (lF y) (ev l x) (ev l y) fun v => K v H := by
  have key : kB ((kW P op t t2 (lF x) (lF y) (ev l x) (ev l y)).map fun v => (v, H)) K = jW (kW P op t t2 (lF x) (lF y) (ev l x) (ev l y)) fun v => K v H := by
   cases kW P op t t2 (lF x) (lF y) (ev l x) (ev l y) <;> rfl
  rw [b8M, key]
  unfold kZ
  split
  ·rename_i k a k' b hx hy
   split
   ·rename_i v hv
    split at hv
    ·rename_i hk
     subst hk
     have : kW P op t t2 (lF x) (lF y) (.int k a) (.int k b) = some v := by
      have h1 : ∀ m, ev ((.int k a : Value) :: m) (oX (lF x) 0 (.int k a)) = .int k a := fun m => by cases lF x <;> rfl
      have h2 : ∀ m c, ev (c :: (.int k b : Value) :: m) (oX (lF y) 1 (.int k b)) = .int k b := fun m c => by cases lF y <;> rfl
      cases op <;> simp only [mP] at hv <;> first | (cases hv; done) | (simp only [kW, opD, h1, h2, mP, if_true, hv]; rfl)
     rw [hx, hy, this]
     rfl
    ·cases hv
   ·rw [hx, hy]
  ·rfl
 simp only [lU, h, jJ, Op.operands]
 simp [and_assoc]
theorem lY (op : BinOp) (t t2 : TypeId) (cx cy : Bool) (k : IntKind) (a b : Int) {v : Value} (K : Value → Prop) (h : mP op k a b = some v) : kZ P op t t2 cx cy (.int k a) (.int k b) K = oW v K := by
 simp [kZ, h, oW]
section
theorem b2g (t t2 : TypeId) (cx cy : Bool) (k : IntKind) (a b : Int) (K : Value → Prop) : kZ P .add t t2 cx cy (.int k a) (.int k b) K = oW (.int k (k.wrap (a + b))) K := lY _ _ _ _ _ _ _ _ _ (by simp [mP, b1y, vM])
theorem b2c (t t2 : TypeId) (cx cy : Bool) (k : IntKind) (a b : Int) (K : Value → Prop) : kZ P .sub t t2 cx cy (.int k a) (.int k b) K = oW (.int k (k.wrap (a - b))) K := lY _ _ _ _ _ _ _ _ _ (by simp [mP, b0X, vM])
theorem b3m (t t2 : TypeId) (cx cy : Bool) (k : IntKind) (a b : Int) (K : Value → Prop) : kZ P .mul t t2 cx cy (.int k a) (.int k b) K = oW (.int k (k.wrap (a * b))) K := lY _ _ _ _ _ _ _ _ _ (by simp [mP, vM])
theorem b3t (t t2 : TypeId) (cx cy : Bool) (k : IntKind) (a b : Int) (K : Value → Prop) : kZ P .eql t t2 cx cy (.int k a) (.int k b) K = oW (.bool (decide (a = b))) K := lY _ _ _ _ _ _ _ _ _ (by simp [mP, a2l]; rfl)
theorem b2i (t t2 : TypeId) (cx cy : Bool) (k : IntKind) (a b : Int) (K : Value → Prop) : kZ P .neq t t2 cx cy (.int k a) (.int k b) K = oW (.bool (decide (¬ a = b))) K := lY _ _ _ _ _ _ _ _ _ (by simp [mP, a2l]; rfl)
theorem b2t (t t2 : TypeId) (cx cy : Bool) (k : IntKind) (a b : Int) (K : Value → Prop) : kZ P .lss t t2 cx cy (.int k a) (.int k b) K = oW (.bool (decide (a < b))) K := lY _ _ _ _ _ _ _ _ _ (by simp [mP, a0O])
theorem b2n (t t2 : TypeId) (cx cy : Bool) (k : IntKind) (a b : Int) (K : Value → Prop) : kZ P .leq t t2 cx cy (.int k a) (.int k b) K = oW (.bool (decide (a ≤ b))) K := lY _ _ _ _ _ _ _ _ _ (by simp [mP, a0O, ← Int.not_lt])
theorem b3F (t t2 : TypeId) (cx cy : Bool) (k : IntKind) (a b : Int) (K : Value → Prop) : kZ P .gtr t t2 cx cy (.int k a) (.int k b) K = oW (.bool (decide (b < a))) K := lY _ _ _ _ _ _ _ _ _ (by simp [mP, a0O])
theorem b3J (t t2 : TypeId) (cx cy : Bool) (k : IntKind) (a b : Int) (K : Value → Prop) : kZ P .geq t t2 cx cy (.int k a) (.int k b) K = oW (.bool (decide (b ≤ a))) K := lY _ _ _ _ _ _ _ _ _ (by simp [mP, a0O, ← Int.not_lt])
theorem b2Y (t t2 : TypeId) (cx cy : Bool) (k : IntKind) (a b : Int) (K : Value → Prop) (hb : b ≠ 0) : kZ P .rem t t2 cx cy (.int k a) (.int k b) K = oW (.int k (a.tmod b)) K := lY _ _ _ _ _ _ _ _ _ (by
 have : (b == 0) = false := by simp [hb]
 simp [mP, a2l, this])
theorem b3S (t t2 : TypeId) (cx cy : Bool) (k : IntKind) (a b : Int) (K : Value → Prop) (hb : b ≠ 0) : kZ P .quo t t2 cx cy (.int k a) (.int k b) K = oW (.int k (k.wrap (a.tdiv b))) K := lY _ _ _ _ _ _ _ _ _ (by
 have : (b == 0) = false := by simp [hb]
 simp [mP, a2l, vM, this])
end
theorem lM {op : BinOp} {t t2 : TypeId} {cx cy : Bool} {x y v : Value} (hx : flat x = true) (hy : flat y = true) (hg : iM P (eqGuard op t (oX cx 0 x) (oX cy 1 y) x y) = some ())
 (hv : iM P (binOp op t x y) = some v) (hf : flat v = true) (hs : ∀ a n c, x ≠ .slice (some a) n c) (hp : ∀ a, x ≠ .pointer (some a)) (hi : ∀ k a b, x = .int k a → y = .int k b → mP op k a b = none) : kW P op t t2 cx cy x y = some v := by
 have h1 : ∀ m, ev (x :: m) (oX cx 0 x) = x := fun m => by cases cx <;> rfl
 have h2 : ∀ m c, ev (c :: y :: m) (oX cy 1 y) = y := fun m c => by cases cy <;> rfl
 have hpl : kP P ⟨none, .binOp op t (oX cx 0 x) (oX cy 1 y) t2, t, "", #[], none⟩ [x, y] .nil = some (v, .nil) := by
  unfold kP
  rw [if_pos (by simp [Op.operands, h1, h2, hx, hy])]
  have : execOp (ev [x, y]) ⟨none, .binOp op t (oX cx 0 x) (oX cy 1 y) t2, t, "", #[], none⟩ = (do let v ← (do eqGuard op t (oX cx 0 x) (oX cy 1 y) x y; binOp op t x y); pure (.value v)) := by
   simp only [execOp, h1, h2]
  rw [this, iK, iK, hg, cW, hv, cW, kQ]
  simp only [hf, if_true]
 simp only [kW, opD, h1, h2, hpl]
 split
 ·exact absurd rfl (hs _ _ _)
 ·exact absurd rfl (hs _ _ _)
 ·rename_i k a k' b
  split
  ·rename_i hk
   subst hk
   rw [hi _ _ _ rfl rfl]
   rfl
  ·rfl
 ·exact absurd rfl (hp _)
 ·exact absurd rfl (hp _)
 ·exact absurd rfl (hp _)
 ·exact absurd rfl (hp _)
 ·rfl
theorem qU {op : BinOp} {t : TypeId} {x y : Operand} {k k' : IntKind} {a b : Int} : iM P (eqGuard op t x y (.int k a) (.int k' b)) = some () := by
 unfold eqGuard
 split <;> rfl
section
theorem b4y (t t2 : TypeId) (cx cy : Bool) (a b : Int) {k k' : IntKind} (hb : 0 ≤ b) : kW P .shr t t2 cx cy (.int k a) (.int k' b) = some (.int k (a.fdiv (2 ^ (min b.toNat k.bits)))) :=
 lM rfl rfl qU (by simp only [binOp, Op.shift]; rw [if_neg (by omega)]; rfl) rfl (by simp) (by simp) (by intros; rfl)
theorem b5G (t t2 : TypeId) (cx cy : Bool) (a b : Int) {k k' : IntKind} (hb : 0 ≤ b) : kW P .shl t t2 cx cy (.int k a) (.int k' b) = some (.int k (k.wrap (a * 2 ^ (min b.toNat k.bits)))) :=
 lM rfl rfl qU (by simp only [binOp, Op.shift]; rw [if_neg (by omega)]; rfl) rfl (by simp) (by simp) (by intros; rfl)
theorem b4g (t t2 : TypeId) (cx cy : Bool) (a b : Int) (k : IntKind) : kW P .and t t2 cx cy (.int k a) (.int k b) = some (.int k (k.wrap (BitVec.ofInt k.bits a &&& BitVec.ofInt k.bits b).toNat)) :=
 lM rfl rfl qU (by simp only [binOp]; rw [if_neg (by simp)]; rfl) rfl (by simp) (by simp) (by intros; rfl)
theorem b9v (t t2 : TypeId) (cx cy : Bool) (a b : Int) (k : IntKind) : kW P .or t t2 cx cy (.int k a) (.int k b) = some (.int k (k.wrap (BitVec.ofInt k.bits a ||| BitVec.ofInt k.bits b).toNat)) :=
 lM rfl rfl qU (by simp only [binOp]; rw [if_neg (by simp)]; rfl) rfl (by simp) (by simp) (by intros; rfl)
theorem b6U (t t2 : TypeId) (cx cy : Bool) (a b : Int) (k : IntKind) : kW P .xor t t2 cx cy (.int k a) (.int k b) = some (.int k (k.wrap (BitVec.ofInt k.bits a ^^^ BitVec.ofInt k.bits b).toNat)) :=
 lM rfl rfl qU (by simp only [binOp]; rw [if_neg (by simp)]; rfl) rfl (by simp) (by simp) (by intros; rfl)
theorem a7Z (t t2 : TypeId) (cx cy : Bool) (a b : Int) (k : IntKind) : kW P .andNot t t2 cx cy (.int k a) (.int k b) = some (.int k (k.wrap (BitVec.ofInt k.bits a &&& ~~~ BitVec.ofInt k.bits b).toNat)) :=
 lM rfl rfl qU (by simp only [binOp]; rw [if_neg (by simp)]; rfl) rfl (by simp) (by simp) (by intros; rfl)
end
section
variable (a b : ByteArray)
theorem a0Q {op : BinOp} {t : TypeId} {x y : Operand} : iM P (eqGuard op t x y (.string a) (.string b)) = some () := by
 unfold eqGuard
 split <;> rfl
theorem a1i (h : a.data.toList = b.data.toList) : a = b := by
 cases a; cases b
 simp only [ByteArray.mk.injEq]
 exact Array.toList_inj.1 h
theorem a3e : (a.toList == b.toList) = decide (a = b) := by
 rw [ByteArray.toList_eq, ByteArray.toList_eq, eF, beq_iff_eq, decide_eq_true_iff]
 exact ⟨a1i a b, fun h => by rw [h]⟩
theorem a8X (t t2 : TypeId) (cx cy : Bool) (a b : ByteArray) : kW P .eql t t2 cx cy (.string a) (.string b) = some (.bool (decide (a = b))) :=
 lM rfl rfl (a0Q a b) (by rw [← a3e]; rfl) rfl (by simp) (by simp) (by intro _ _ _ h; cases h)
theorem a9v (t t2 : TypeId) (cx cy : Bool) (a b : ByteArray) : kW P .neq t t2 cx cy (.string a) (.string b) = some (.bool (decide (¬ a = b))) :=
 lM rfl rfl (a0Q a b) (by
  have : decide (¬ a = b) = !(a.toList == b.toList) := by rw [a3e]; simp
  rw [this]; rfl) rfl (by simp) (by simp) (by intro _ _ _ h; cases h)
theorem a6K (t t2 : TypeId) (cx cy : Bool) (a b : ByteArray) (h : a.size + b.size < 9223372036854775808) : kW P .add t t2 cx cy (.string a) (.string b) = some (.string (a ++ b)) :=
 lM rfl rfl (a0Q a b) (by
  simp only [binOp, Op.stringOp]
  rw [if_neg]
  ·rfl
  ·have : IntKind.i64.max = 9223372036854775807 := by decide
   rw [this]; omega) rfl (by simp) (by simp) (by intro _ _ _ h; cases h)
end
theorem b5P {t : TypeId} (s : ByteArray) (ht : oO P t = true) : a0A P H t (.string s) = some (.int .i64 s.size) := by
 unfold oO at ht
 unfold a0A
 split at ht
 ·rename_i h; rw [h]; simp [xJ, goInt]
 ·cases ht
def pJ (P : Program) (t : TypeId) (x i : Value) : Option Value := (opD P ⟨none, .index t (.const x) (.const i), t, "", #[], none⟩ [] .nil).map (·.1)
theorem b3v (d ty pos af g) (t : TypeId) (x i : Operand) (l : List Value) (K : Value → Heap → Prop) :
 lU P ⟨d, .index t x i, ty, pos, af, g⟩ l H K = jJ x l fun x => jJ i l fun i => jW (pJ P t x i) fun v => K v H := by
 have h : opD P ⟨d, .index t x i, ty, pos, af, g⟩ l H = (pJ P t (ev l x) (ev l i)).map fun v => (v, H) := by
  have hp := nB (P := P) ⟨d, .index t x i, ty, pos, af, g⟩ ⟨none, .index t (.const (ev l x)) (.const (ev l i)), t, "", #[], none⟩ l [] H rfl rfl
  simp only [opD, pJ]
  exact hp
 have h2 : kB ((pJ P t (ev l x) (ev l i)).map fun v => (v, H)) K = jW (pJ P t (ev l x) (ev l i)) fun v => K v H := by cases pJ P t (ev l x) (ev l i) <;> rfl
 simp only [lU, h, jJ, Op.operands, h2]
 simp [and_assoc]
def oM (s : ByteArray) (i : Nat) : Nat := (s.data.toList.getD i 0).toNat
theorem a8x {t : TypeId} (s : ByteArray) (k : IntKind) (i : Int) (ht : oO P t = true) (h0 : 0 ≤ i) (h1 : i < s.size) : pJ P t (.string s) (.int k i) = some (.int .u8 (oM s i.toNat)) := by
 have hu : P.underlying t = some .string := by
  unfold oO at ht
  split at ht
  ·rename_i h; exact h
  ·cases ht
 have hr : iM P (Instr.index t (.string s) (.int k i)) = some (.int .u8 (oM s i.toNat)) := by
  unfold Instr.index
  rw [iK]
  have e1 : iM P (asIntOf (.int k i)) = some (k, i) := rfl
  rw [e1, cW]
  simp only [iK, jV hu, cW]
  rw [if_pos h0]
  have hlt : i.toNat < s.size := by omega
  have hb : s[i.toNat]? = some s[i.toNat] := by simp [getElem?_pos, hlt]
  simp only [hb]
  rw [kQ]
  congr 3
  unfold oM
  rw [cZ]
  have hl : i.toNat < s.data.toList.length := by simpa using hlt
  rw [dp hl]
  rfl
 have hpl : kP P ⟨none, .index t (.const (.string s)) (.const (.int k i)), t, "", #[], none⟩ [] .nil = some (.int .u8 (oM s i.toNat), .nil) := by
  unfold kP
  rw [if_pos (by rfl)]
  have : execOp (ev []) ⟨none, .index t (.const (.string s)) (.const (.int k i)), t, "", #[], none⟩ = (do let v ← Instr.index t (.string s) (.int k i); pure (.value v)) := rfl
  rw [this, iK, hr, cW, kQ]
  rfl
 simp only [pJ, opD, hpl]
 rfl
def a1q (P : Program) (t : TypeId) : Option IntKind := match P.underlying t with | some (.int k) => some k | _ => none
theorem a0L {t : TypeId} {k : IntKind} (h : a1q P t = some k) : P.underlying t = some (.int k) := by
 unfold a1q at h
 split at h
 ·rename_i h2; rw [h2]; injection h with h; rw [h]
 ·cases h
theorem b3y {s t : TypeId} {k k' : IntKind} (a : Int) (hs : a1q P s = some k) (ht : a1q P t = some k') : a1I P s t (.int k a) = some (.int k' (k'.wrap a)) := by
 have hr : iM P (convert s t (.int k a)) = some (.int k' (k'.wrap a)) := by
  unfold convert
  simp only [iK, jV (a0L hs), jV (a0L ht), cW]
  rfl
 have hpl : kP P ⟨none, .convert s t (.const (.int k a)), t, "", #[], none⟩ [] .nil = some (.int k' (k'.wrap a), .nil) := by
  unfold kP
  rw [if_pos (by rfl)]
  have : execOp (ev []) ⟨none, .convert s t (.const (.int k a)), t, "", #[], none⟩ = (do let v ← convert s t (.int k a); pure (.value v)) := rfl
  rw [this, iK, hr, cW, kQ]
  rfl
 simp only [a1I, hpl]
 rfl
def a5p (P : Program) (d : Nat) (xs ys : Array Value) (fs : List Field) : Option Bool :=
 (iM P (forIn fs ((none, ()) : Option Bool × Unit) fun f _ =>
   if f.name ≠ "_" then do
    let a ← part f.type xs f.offset
    let b ← part f.type ys f.offset
    let c ← Op.equalIn d f.type a b
    if (!c) = true then pure (ForInStep.done (some false, ())) else pure (ForInStep.yield (none, ()))
   else pure (ForInStep.yield (none, ())))).bind fun x => iM P (match x.fst with | some r => pure r | none => pure true)
theorem a2Q {d : Nat} {xs ys : Array Value} (g : Field → Bool) : ∀ (fs : List Field), (∀ f ∈ fs, f.name ≠ "_" ∧ iM P (part f.type xs f.offset >>= fun x => part f.type ys f.offset >>= fun y => Op.equalIn d f.type x y) = some (g f)) →
 a5p P d xs ys fs = some (fs.all g)
 | [], _ => rfl
 | f :: fs, hg => by
   obtain ⟨h1, h2⟩ := hg f (dJ ..)
   have ih := a2Q g fs fun f' h => hg f' (dV _ h)
   unfold a5p at ih ⊢
   rw [iK] at h2
   simp only [List.forIn_cons, h1, ne_eq, not_false_eq_true, if_true, iK]
   cases hx : iM P (part f.type xs f.offset) with
   | none => rw [hx] at h2; cases h2
   | some x =>
     rw [hx, cW, iK] at h2
     cases hy : iM P (part f.type ys f.offset) with
     | none => rw [hy] at h2; cases h2
     | some y =>
       rw [hy, cW] at h2
       simp only [cW, h2]
       cases hgf : g f with
       | false =>
         simp only [Bool.not_false, if_true, kQ, cW, ft, hgf, fz]
       | true =>
         simp only [Bool.not_true, ec, if_false, kQ, cW, ft, hgf, gO]
         exact ih
theorem b6E {d : Nat} {t : TypeId} {fs : List Field} {xs ys : Array Value} (hu : P.underlying t = some (.struct fs.toArray)) (hst : P.stoodInHeld t = false) (g : Field → Bool)
 (hg : ∀ f ∈ fs, f.name ≠ "_" ∧ iM P (part f.type xs f.offset >>= fun x => part f.type ys f.offset >>= fun y => Op.equalIn d f.type x y) = some (g f)) : iM P (Op.equalIn (d + 1) t (.agg xs) (.agg ys)) = some (fs.all g) := by
 rw [Op.equalIn, iK, jV hu, cW]
 have hp : iM P program = some P := rfl
 simp only [iK, hp, cW, hst, ec, if_false, List.forIn_toArray]
 refine Eq.trans ?_ (a2Q g fs hg)
 unfold a5p
 congr 1
 funext x
 cases x.fst <;> rfl
theorem a4i {op : BinOp} {t : TypeId} (ht : P.eqGuardType P.depth t = false) {x y : Operand} {a b : Array Value} : iM P (eqGuard op t x y (.agg a) (.agg b)) = some () := by
 have hp : iM P program = some P := rfl
 unfold eqGuard
 cases op <;> simp [iK, hp, ht, kQ]
theorem b6r {t t2 : TypeId} {cx cy : Bool} {xs ys : List Value} (b : Bool) (ht : P.eqGuardType P.depth t = false) (hx : xs.all iX = true) (hy : ys.all iX = true) (h : iM P (Op.equalIn (9999 + 1) t (.agg xs.toArray) (.agg ys.toArray)) = some b) :
 kW P .eql t t2 cx cy (.agg xs.toArray) (.agg ys.toArray) = some (.bool b) :=
 lM (by simp [flat, jB, kJ, hx]) (by simp [flat, jB, kJ, hy]) (a4i ht) (by
  have hmd : Op.maxDepth = 9999 + 1 := by decide
  simp only [binOp, iK, Op.equal]
  rw [hmd, h, cW, kQ]) rfl (by simp) (by simp) (by intro _ _ _ h; cases h)
theorem b4W {t t2 : TypeId} {cx cy : Bool} {xs ys : List Value} (b : Bool) (ht : P.eqGuardType P.depth t = false) (hx : xs.all iX = true) (hy : ys.all iX = true) (h : iM P (Op.equalIn (9999 + 1) t (.agg xs.toArray) (.agg ys.toArray)) = some b) :
 kW P .neq t t2 cx cy (.agg xs.toArray) (.agg ys.toArray) = some (.bool (!b)) :=
 lM (by simp [flat, jB, kJ, hx]) (by simp [flat, jB, kJ, hy]) (a4i ht) (by
  have hmd : Op.maxDepth = 9999 + 1 := by decide
  simp only [binOp, iK, Op.equal]
  rw [hmd, h, cW, kQ]) rfl (by simp) (by simp) (by intro _ _ _ h; cases h)
end
end Go.Ds
namespace Go.Ds
noncomputable section
variable {P : Program} {H : Heap}
theorem a2I (a b : ByteArray) : (a == b) = decide (b = a) := by
 obtain ⟨x⟩ := a
 obtain ⟨y⟩ := b
 rw [eF, decide_eq_true_iff]
 constructor
 ·intro h
  have e : x = y := by simpa using (show (x == y) = true from h)
  rw [e]
 ·intro h
  cases h
  show (x == x) = true
  simp
theorem a3H (o : Option Nat) (i : Nat) : o.map (i + 1 + ·) = (o.map (· + 1)).map (i + ·) := by
 cases o with
 | none => rfl
 | some j => simp only [dN]; congr 1; omega
theorem a1a (k : ByteArray) : ∀ (es : List MapEntry) (ks : List ByteArray) (i : Nat), es.map (·.key) = ks.map Value.string →
 (Instr.findNow .string (.string k) (es.map wQ) i).map (·.map (·.1)) = some ((ks.findIdx? fun x => decide (x = k)).map (i + ·))
 | [], [], i, _ => rfl
 | [], _ :: _, _, h => by simp at h
 | _ :: _, [], _, h => by simp at h
 | e :: es, s :: ks, i, h => by
   simp only [ey, fQ] at h
   have hs : Instr.sameNow .string (.string k) e.key = some (decide (s = k)) := by
    rw [h.1]
    show some (k == s) = _
    rw [a2I]
   simp only [ey, Instr.findNow, wQ, hs, eX]
   by_cases hd : s = k
   ·simp [hd]
   ·simp only [hd, decide_false, ec, if_false]
    have := a1a k es ks (i + 1) h.2
    rw [a3H] at this
    exact this
theorem b1d {κ : Type} [DecidableEq κ] {enc : κ → Value} {kt : TypeId} (heq : ∀ a b, iM P (Op.equal kt (enc a) (enc b)) = some (decide (b = a))) (k : κ) : ∀ (es : List MapEntry) (ks : List κ) (i : Nat), es.map (·.key) = ks.map enc →
 (iM P (Instr.findAsking kt (enc k) (es.map wQ) i)).map (·.map (·.1)) = some ((ks.findIdx? fun x => decide (x = k)).map (i + ·))
 | [], [], i, _ => rfl
 | [], _ :: _, _, h => by simp at h
 | _ :: _, [], _, h => by simp at h
 | e :: es, s :: ks, i, h => by
   simp only [ey, fQ] at h
   simp only [ey, Instr.findAsking, wQ, iK, eX]
   rw [h.1, heq, cW]
   by_cases hd : s = k
   ·simp [hd, kQ]
   ·simp only [hd, decide_false, ec, if_false]
    have := b1d heq k es ks (i + 1) h.2
    rw [a3H] at this
    exact this
theorem MapK.str {t kt et : TypeId} {z : Value} (hm : yM P t = some (kt, et)) (hu : P.underlying kt = some .string) (hz : jA P et = some z) (hf : jB z = true) : MapK P t Value.string z where
 ex := by
  refine ⟨kt, et, hm, hz, hf, ?_, ?_, ?_⟩
  ·intro b k
   have : iM P (Instr.checkKey b 10000 kt (.string k)) = some () := by
    show iM P (Instr.checkKey b (9999 + 1) kt (.string k)) = some ()
    unfold Instr.checkKey
    rw [iK, jV hu, cW]
    rfl
   simp only [zH, this]
   rfl
  ·intro k es ks h
   have h1 := a1a k es ks 0 h
   unfold rV Instr.findKey
   rw [iK, jV hu, cW]
   cases hn : Instr.findNow .string (.string k) (es.map wQ) 0 with
   | none => rw [hn] at h1; cases h1
   | some r =>
     rw [hn] at h1
     simp only [kQ]
     simpa using h1
  ·intro k
   show (k == k) = true
   rw [a2I]
   simp
theorem MapK.struct {κ : Type} [DecidableEq κ] {enc : κ → Value} {t kt et : TypeId} {z : Value} {fs : Array Field} (hm : yM P t = some (kt, et)) (hu : P.underlying kt = some (.struct fs)) (hz : jA P et = some z) (hf : jB z = true)
 (hk : ∀ b k, zH P b kt (enc k) = true) (heq : ∀ a b, iM P (Op.equal kt (enc a) (enc b)) = some (decide (b = a))) (hsb : ∀ k, Instr.sameBits 10000 (enc k) (enc k) = true) : MapK P t enc z where
 ex := by
  refine ⟨kt, et, hm, hz, hf, hk, ?_, hsb⟩
  intro k es ks h
  have h1 := b1d heq k es ks 0 h
  unfold rV Instr.findKey
  rw [iK, jV hu, cW]
  have key : ∀ (l : List MapEntry), Instr.findNow (.struct fs) (enc k) l 0 = none ∨ l = [] := by
   intro l
   cases l with
   | nil => exact .inr rfl
   | cons e l => exact .inl rfl
  rcases key (es.map wQ) with hn | hn
  ·rw [hn]
   simpa using h1
  ·rw [hn]
   have : es = [] := by simpa using hn
   subst this
   have : ks = [] := by cases ks with | nil => rfl | cons a ks => simp at h
   subst this
   rfl
end
end Go.Ds
namespace Go.Ds
noncomputable section
variable {P : Program} {H : Heap}
def a2v (o : Option (Nat × TypeId)) (P : Program) (H : Heap) (t : TypeId) (z : Value) (K : Value → Heap → Prop) (_k : Keep K := ⟨⟩) : Prop := match o with
 | none => uR (jB z) (a4S P H t z K)
 | some _ => uR (jB z) (a7c P H t z K)
theorem a4L {o o' : Option (Nat × TypeId)} {t : TypeId} {z : Value} {K : Value → Heap → Prop} (h : o = o') : a2v o P H t z K = a2v o' P H t z K := by rw [h]
attribute [congr] a4L
theorem b5B {t : TypeId} (z : Value) (K : Value → Heap → Prop) : uC P H t (some z) K = a2v (jP P t) P H t z K := by
 cases h : jP P t with
 | none => exact a6g z K h
 | some n => exact a8Z z K h
theorem a6T {t : TypeId} (z : Value) (K : Value → Heap → Prop) : a2v none P H t z K = uR (jB z) (a4S P H t z K) := rfl
theorem a6e {t : TypeId} (n : Nat × TypeId) (z : Value) (K : Value → Heap → Prop) : a2v (some n) P H t z K = uR (jB z) (a7c P H t z K) := rfl
theorem a8m {t : TypeId} {k : IntKind} (h : a1q P t = some k) : lA P t = false := by
 simp [lA, a0L h]
def a3D (ks kt : Option IntKind) (P : Program) (s t : TypeId) (H : Heap) (k : IntKind) (a : Int) (K : Value → Heap → Prop) (_k : Keep K := ⟨⟩) : Prop := match ks, kt with
 | some k0, some k' => if k0 = k then K (.int k' (k'.wrap a)) H else tV P s t H (.int k a) K
 | _, _ => tV P s t H (.int k a) K
theorem a6I {ks ks' kt kt' : Option IntKind} {s t : TypeId} {k : IntKind} {a : Int} {K : Value → Heap → Prop} (h : ks = ks') (h2 : kt = kt') : a3D ks kt P s t H k a K = a3D ks' kt' P s t H k a K := by rw [h, h2]
attribute [congr] a6I
theorem b8A {s t : TypeId} (k : IntKind) (a : Int) (K : Value → Heap → Prop) : tV P s t H (.int k a) K = a3D (a1q P s) (a1q P t) P s t H k a K := by
 unfold a3D
 split
 ·rename_i k0 k' hs ht
  split
  ·rename_i hk
   subst hk
   rw [b2e k0 a K (a8m ht), b3y a hs ht]
   rfl
  ·rfl
 ·rfl
theorem b3O {s t : TypeId} (k k' : IntKind) (a : Int) (K : Value → Heap → Prop) : a3D (some k) (some k') P s t H k a K = oW (.int k' (k'.wrap a)) fun v => K v H := by simp [a3D, oW]
def c1r (b : Bool) (P : Program) (H : Heap) (t : TypeId) (v : Value) : Option Value := match b with
 | true => (match v with | .string s => some (.int .i64 s.size) | _ => a0A P H t v)
 | false => a0A P H t v
theorem c1e (t : TypeId) (v : Value) : b0i none P H t v = c1r (oO P t) P H t v := by
 unfold c1r
 split
 ·rename_i h
  split
  ·exact b5P _ h
  ·rfl
 ·rfl
theorem b7o (t : TypeId) (s : ByteArray) : c1r true P H t (.string s) = some (.int .i64 s.size) := rfl
def a2e (b : Bool) (P : Program) (t : TypeId) (x i : Value) : Option Value := match b, x, i with
 | true, .string s, .int k i => if 0 ≤ i ∧ i < s.size then some (.int .u8 (oM s i.toNat)) else pJ P t (.string s) (.int k i)
 | _, x, i => pJ P t x i
theorem a6s (t : TypeId) (x i : Value) : pJ P t x i = a2e (oO P t) P t x i := by
 unfold a2e
 split
 ·rename_i h
  split
  ·rename_i h2; exact a8x _ _ _ h h2.1 h2.2
  ·rfl
 ·rfl
theorem b0L (t : TypeId) (s : ByteArray) (k : IntKind) (i : Int) (h0 : 0 ≤ i) (h1 : i < s.size) : a2e true P t (.string s) (.int k i) = some (.int .u8 (oM s i.toNat)) := by
 simp [a2e, h0, h1]
theorem OC : (∀ k n, oneCell (.int k n) = true) ∧ (∀ b, oneCell (.bool b) = true) ∧ (∀ s, oneCell (.string s) = true) ∧ (∀ a, oneCell (.pointer a) = true) ∧ (∀ a n c, oneCell (.slice a n c) = true) ∧ (∀ r, oneCell (.map r) = true) ∧ (∀ f a b, oneCell (.func f a b) = true) ∧ oneCell .nilFunc = true :=
 ⟨fun _ _ => rfl, fun _ => rfl, fun _ => rfl, fun _ => rfl, fun _ _ _ => rfl, fun _ => rfl, fun _ _ _ => rfl, rfl⟩
theorem c5k (o : Option Bool) : (o.map Value.bool).getD (.bool false) = .bool (o.getD false) := by cases o <;> rfl
theorem c4x (k : IntKind) (o : Option Int) : (o.map (Value.int k)).getD (.int k 0) = .int k (o.getD 0) := by cases o <;> rfl
theorem b7U (v : Value) (b : Bool) : pairV false v b = v := rfl
theorem b8i (v : Value) (b : Bool) : pairV true v b = .tuple #[v, .bool b] := rfl
theorem b4t (t : Tmp) : lF (.tmp t) = false := rfl
theorem a9j (v : Value) : lF (.const v) = true := rfl
theorem b4u (s : ByteArray) : flat (.string s) = true := rfl
theorem b2u (s : ByteArray) : jB (.string s) = true := rfl
theorem a9F (s : ByteArray) : iX (.string s) = true := rfl
theorem a6h (s : ByteArray) : jC (.string s) = true := rfl
theorem b4e (k : IntKind) (n : Int) : pW (.int k n) = true := rfl
theorem b2x (b : Bool) : pW (.bool b) = true := rfl
theorem b7a (s : ByteArray) : pW (.string s) = true := rfl
theorem pH {c b : Bool} {p q : Prop} (h1 : c = true → sI (.bool true) b p q) (h2 : c = false → sI (.bool false) b p q) : sI (.bool c) b p q := by
 cases c
 ·exact h2 rfl
 ·exact h1 rfl
theorem St.pick {H0 : Base} {os os' : List Ob} (hS : St P H0 H os) (idx : List Nat) (hn : idx.Nodup) (h : idx.map (os[·]?) = os'.map some) : St P H0 H os' := by
 have hmem : ∀ o ∈ os', o ∈ os := by
  intro o ho
  have : some o ∈ idx.map (os[·]?) := by rw [h]; exact gf ho
  obtain ⟨i, _, hi⟩ := dy.1 this
  exact dP hi
 refine ⟨hS.len, hS.old, fun o ho => hS.own o (hmem o ho), fun o ho => hS.new o (hmem o ho), ?_⟩
 have hpw := eH.1 hS.sep
 rw [eH]
 intro i j hi hj hij
 have hl : idx.length = os'.length := by simpa using congrArg List.length h
 have key : ∀ i (hi : i < os'.length), ∃ hk : idx[i]'(by omega) < os.length, os[idx[i]'(by omega)] = os'[i] := by
  intro i hi
  have h1 : (idx.map (os[·]?))[i]? = (os'.map some)[i]? := by rw [h]
  rw [eN, eN, dp (by omega), dp hi] at h1
  simp only [dN, dD] at h1
  exact dr.1 h1
 obtain ⟨h1, e1⟩ := key i hi
 obtain ⟨h2, e2⟩ := key j hj
 have hne : idx[i]'(by omega) ≠ idx[j]'(by omega) := by
  have := eH.1 hn i j (by omega) (by omega) hij
  exact this
 rcases fN hne with hh | hh
 ·have := hpw _ _ h1 h2 hh
  rw [e1, e2] at this
  exact this
 ·have := hpw _ _ h2 h1 hh
  rw [e1, e2] at this
  intro B hb hb'
  exact this B hb' hb
theorem St.frame {H1 : Heap} {H0 : Base} {ls rest ls' : List Ob} (hS : St P H0 H (ls ++ rest)) (h1 : St P ⟨H, rY ls⟩ H1 ls') : St P H0 H1 (ls' ++ rest) := by
 have hls : St P H0 H ls := hS.sub (List.sublist_append_left ..)
 have h2 := hls.bA h1
 have hsep := eY.1 hS.sep
 have hkeep : ∀ o ∈ rest, ∀ B, kI o.v = some B → iS H1 B = iS H B := by
  intro o ho B hB
  have hlt := (hS.own o (gu _ ho)).lt hB
  exact h1.old B hlt fun ⟨x, hx, hxb⟩ => hsep.2.2 x hx o ho B hxb hB
 refine ⟨h2.len, h2.old, ?_, ?_, ?_⟩
 ·intro o ho
  rcases dG.1 ho with ho | ho
  ·exact h2.own o ho
  ·exact (hS.own o (gu _ ho)).ab (hkeep o ho)
 ·intro o ho B hB
  rcases dG.1 ho with ho | ho
  ·exact h2.new o ho B hB
  ·exact hS.new o (gu _ ho) B hB
 ·rw [eY]
  refine ⟨h2.sep, hsep.2.1, ?_⟩
  intro x hx y hy B hb hb'
  rcases h1.new x hx B hb with hh | ⟨z, hz, hzb⟩
  ·have := (hS.own y (gu _ hy)).lt hb'
   have hh : H.length ≤ B := hh
   omega
  ·exact hsep.2.2 z hz y hy B hzb hb'
theorem c0f (t : TypeId) (k : IntKind) (n : Int) : unV P .neg t (.int k n) = some (.int k (k.wrap (0 - n))) := rfl
theorem b3L (ops : Array Oper) (d : Option Tmp) (op : Op) (ty : TypeId) (pos : String) (af : Array Edge) (j : Nat) (b : Bool) (l : List Value) (H' : Heap) (v : Value) :
 rdW P ops (some ⟨d, op, ty, pos, af, some (j, b)⟩) (some (l, H', v)) H = uN (zT ops j) l b (lU P ⟨d, op, ty, pos, af, some (j, b)⟩ l H fun v' _ => v' = v) True := by
 rw [← tI ops l d op ty pos af]
 unfold rdW
 split
 ·rename_i h1 h2
  cases h1; cases h2
  split
  ·rename_i h; simp [h]
  ·rename_i h; simp [h]
 ·rename_i h
  exact (h _ _ _ _ rfl rfl).elim
theorem b2J (t t2 : TypeId) (cx cy : Bool) (k : IntKind) (a b : Int) (K : Value → Prop) : kZ P .and t t2 cx cy (.int k a) (.int k b) K = jW (kW P .and t t2 cx cy (.int k a) (.int k b)) K := by
 have h : (if k = k then mP .and k a b else none) = none := by split <;> rfl
 unfold kZ; dsimp only
 rw [h]
theorem b7m (t t2 : TypeId) (cx cy : Bool) (k : IntKind) (a b : Int) (K : Value → Prop) : kZ P .or t t2 cx cy (.int k a) (.int k b) K = jW (kW P .or t t2 cx cy (.int k a) (.int k b)) K := by
 have h : (if k = k then mP .or k a b else none) = none := by split <;> rfl
 unfold kZ; dsimp only
 rw [h]
theorem b2r (t t2 : TypeId) (cx cy : Bool) (k : IntKind) (a b : Int) (K : Value → Prop) : kZ P .xor t t2 cx cy (.int k a) (.int k b) K = jW (kW P .xor t t2 cx cy (.int k a) (.int k b)) K := by
 have h : (if k = k then mP .xor k a b else none) = none := by split <;> rfl
 unfold kZ; dsimp only
 rw [h]
theorem a5L (t t2 : TypeId) (cx cy : Bool) (k : IntKind) (a b : Int) (K : Value → Prop) : kZ P .andNot t t2 cx cy (.int k a) (.int k b) K = jW (kW P .andNot t t2 cx cy (.int k a) (.int k b)) K := by
 have h : (if k = k then mP .andNot k a b else none) = none := by split <;> rfl
 unfold kZ; dsimp only
 rw [h]
theorem b2a (t t2 : TypeId) (cx cy : Bool) (k k' : IntKind) (a b : Int) (K : Value → Prop) : kZ P .shl t t2 cx cy (.int k a) (.int k' b) K = jW (kW P .shl t t2 cx cy (.int k a) (.int k' b)) K := by
 have h : (if k = k' then mP .shl k a b else none) = none := by split <;> rfl
 unfold kZ; dsimp only
 rw [h]
theorem b1W (t t2 : TypeId) (cx cy : Bool) (k k' : IntKind) (a b : Int) (K : Value → Prop) : kZ P .shr t t2 cx cy (.int k a) (.int k' b) K = jW (kW P .shr t t2 cx cy (.int k a) (.int k' b)) K := by
 have h : (if k = k' then mP .shr k a b else none) = none := by split <;> rfl
 unfold kZ; dsimp only
 rw [h]
theorem b3A (op : BinOp) (t t2 : TypeId) (cx cy : Bool) (a b : ByteArray) (K : Value → Prop) : kZ P op t t2 cx cy (.string a) (.string b) K = jW (kW P op t t2 cx cy (.string a) (.string b)) K := rfl
theorem b2s (op : BinOp) (t t2 : TypeId) (cx cy : Bool) (a b : Array Value) (K : Value → Prop) : kZ P op t t2 cx cy (.agg a) (.agg b) K = jW (kW P op t t2 cx cy (.agg a) (.agg b)) K := rfl
theorem b2Q (op : BinOp) (t t2 : TypeId) (cx cy : Bool) (a b : Bool) (K : Value → Prop) : kZ P op t t2 cx cy (.bool a) (.bool b) K = jW (kW P op t t2 cx cy (.bool a) (.bool b)) K := rfl
theorem a8b (n : Int) (h1 : -9223372036854775808 ≤ n) (h2 : n < 9223372036854775808) : IntKind.wrap .i64 n = n := by
 show (if (true && decide (n % 18446744073709551616 ≥ 9223372036854775808)) = true then n % 18446744073709551616 - 18446744073709551616 else n % 18446744073709551616) = n
 simp only [gO, decide_eq_true_eq]
 omega
theorem b9u (n : Int) (h1 : -128 ≤ n) (h2 : n < 128) : IntKind.wrap .i8 n = n := by
 show (if (true && decide (n % 256 ≥ 128)) = true then n % 256 - 256 else n % 256) = n
 simp only [gO, decide_eq_true_eq]
 omega
theorem nP (n : Int) (h1 : 0 ≤ n) (h2 : n < 18446744073709551616) : IntKind.wrap .u64 n = n := by
 show (if (false && decide (n % 18446744073709551616 ≥ 9223372036854775808)) = true then n % 18446744073709551616 - 18446744073709551616 else n % 18446744073709551616) = n
 simp only [fz]
 rw [if_neg (by simp)]
 omega
theorem b5Z (n : Int) (h1 : 0 ≤ n) (h2 : n < 4294967296) : IntKind.wrap .u32 n = n := by
 show (if (false && decide (n % 4294967296 ≥ 2147483648)) = true then n % 4294967296 - 4294967296 else n % 4294967296) = n
 simp only [fz]
 rw [if_neg (by simp)]
 omega
theorem b7u (n : Int) (h1 : 0 ≤ n) (h2 : n < 65536) : IntKind.wrap .u16 n = n := by
 show (if (false && decide (n % 65536 ≥ 32768)) = true then n % 65536 - 65536 else n % 65536) = n
 simp only [fz]
 rw [if_neg (by simp)]
 omega
theorem b8c (n : Int) (h1 : 0 ≤ n) (h2 : n < 256) : IntKind.wrap .u8 n = n := by
 show (if (false && decide (n % 256 ≥ 128)) = true then n % 256 - 256 else n % 256) = n
 simp only [fz]
 rw [if_neg (by simp)]
 omega
end
end Go.Ds
namespace Go.Ds
noncomputable section
variable {P : Program}
def a0N (P : Program) (t : TypeId) : List Field := match P.underlying t with | some (.struct fs) => fs.toList | _ => []
def eqC : Value → Value → Bool
 | .int _ a, .int _ b => a == b
 | .bool a, .bool b => a == b
 | .string a, .string b => decide (a = b)
 | _, _ => false
def okC (P : Program) (t : TypeId) (x y : Value) : Bool := match P.underlying t with
 | some (.int _) => (match x, y with | .int k _, .int k' _ => decide (k = k') | _, _ => false)
 | some .bool => (match x, y with | .bool _, .bool _ => true | _, _ => false)
 | some .string => (match x, y with | .string _, .string _ => true | _, _ => false)
 | _ => false
theorem eq1 {t : TypeId} {x y : Value} (d : Nat) (h : okC P t x y = true) : iM P (Op.equalIn (d + 1) t x y) = some (eqC x y) := by
 unfold okC at h
 split at h
 ·rename_i k0 hu
  split at h
  ·rename_i k a k' b
   have hk : k = k' := by simpa using h
   subst hk
   rw [Op.equalIn, iK, jV hu, cW]
   simp only [if_true]
   rfl
  ·cases h
 ·rename_i hu
  split at h
  ·rw [Op.equalIn, iK, jV hu, cW]; rfl
  ·cases h
 ·rename_i hu
  split at h
  ·rename_i a b
   rw [Op.equalIn, iK, jV hu, cW]
   show some (a == b) = some (decide (a = b))
   rw [a2I]
   congr 1
   simp [eq_comm]
  ·cases h
 ·cases h
theorem c0A {t : TypeId} {x y v : Value} {cs : Array Value} {off : Nat} (h : okC P t x y = true) (hc : cs[off]? = some v) : iM P (part t cs off) = some v := by
 have ha : iM P (isAgg t) = some false := by
  unfold isAgg
  unfold okC at h
  split at h
  ·rename_i hu; rw [iK, jV hu, cW]; rfl
  ·rename_i hu; rw [iK, jV hu, cW]; rfl
  ·rename_i hu; rw [iK, jV hu, cW]; rfl
  ·cases h
 unfold part
 rw [iK, ha, cW]
 simp only [ec, if_false, hc]
 rfl
theorem a2m {t : TypeId} {xs ys : List Value} (d : Nat) (hu : P.underlying t = some (.struct (a0N P t).toArray)) (hst : P.stoodInHeld t = false)
 (hf : ((a0N P t).map fun f => (f.name != "_", f.offset)) = (List.range xs.length).map fun j => (true, j)) (hy : ys.length = xs.length)
 (hok : ((a0N P t).all fun f => okC P f.type (xs.getD f.offset undef) (ys.getD f.offset undef)) = true) :
 iM P (Op.equalIn (d + 2) t (.agg xs.toArray) (.agg ys.toArray)) = some ((List.range xs.length).all fun j => eqC (xs.getD j undef) (ys.getD j undef)) := by
 rw [dq] at hok
 have hmem : ∀ f ∈ a0N P t, (f.name != "_") = true ∧ f.offset < xs.length := fun f hf' => by
  have : (f.name != "_", f.offset) ∈ (List.range xs.length).map fun j => (true, j) := by rw [← hf]; exact gf hf'
  obtain ⟨j, hj, he⟩ := dy.1 this
  simp only [gM] at he
  exact ⟨he.1.symm, by rw [← he.2]; exact dx.1 hj⟩
 rw [b6E hu hst (fun f => eqC (xs.getD f.offset undef) (ys.getD f.offset undef)) ?_]
 ·congr 1
  have h1 : (a0N P t).all (fun f => eqC (xs.getD f.offset undef) (ys.getD f.offset undef)) = ((a0N P t).map fun f => (f.name != "_", f.offset)).all fun p => eqC (xs.getD p.2 undef) (ys.getD p.2 undef) := by
   rw [List.all_map]; rfl
  rw [h1, hf, List.all_map]
  rfl
 ·intro f hf'
  obtain ⟨h1, h2⟩ := hmem f hf'
  refine ⟨by simpa using h1, ?_⟩
  have hx : xs.toArray[f.offset]? = some (xs.getD f.offset undef) := by
   rw [fi, cZ, dp h2]; rfl
  have hy' : ys.toArray[f.offset]? = some (ys.getD f.offset undef) := by
   rw [fi, cZ, dp (by omega)]; rfl
  rw [iK, c0A (hok f hf') hx, cW, iK, c0A (hok f hf') hy', cW]
  exact eq1 d (hok f hf')
theorem yB {t t2 : TypeId} {cx cy : Bool} {xs ys : List Value} (hu : P.underlying t = some (.struct (a0N P t).toArray)) (hst : P.stoodInHeld t = false) (hg : P.eqGuardType P.depth t = false)
 (hf : ((a0N P t).map fun f => (f.name != "_", f.offset)) = (List.range xs.length).map fun j => (true, j)) (hy : ys.length = xs.length)
 (hok : ((a0N P t).all fun f => okC P f.type (xs.getD f.offset undef) (ys.getD f.offset undef)) = true) (hx : xs.all iX = true) (hys : ys.all iX = true) :
 kW P .eql t t2 cx cy (.agg xs.toArray) (.agg ys.toArray) = some (.bool ((List.range xs.length).all fun j => eqC (xs.getD j undef) (ys.getD j undef))) ∧
 kW P .neq t t2 cx cy (.agg xs.toArray) (.agg ys.toArray) = some (.bool (!((List.range xs.length).all fun j => eqC (xs.getD j undef) (ys.getD j undef)))) :=
 ⟨b6r _ hg hx hys (a2m 9998 hu hst hf hy hok), b4W _ hg hx hys (a2m 9998 hu hst hf hy hok)⟩
theorem c2r {t : TypeId} {k : IntKind} (hu : P.underlying t = some (.struct (a0N P t).toArray)) (hst : P.stoodInHeld t = false)
 (hf : ((a0N P t).map fun f => (f.name != "_", f.offset)) = (List.range 2).map fun j => (true, j))
 (hok : ∀ a b c d : Int, ((a0N P t).all fun f => okC P f.type ([Value.int k a, .int k b].getD f.offset undef) ([Value.int k c, .int k d].getD f.offset undef)) = true) (a b : Int × Int) :
 iM P (Op.equal t (.agg #[.int k a.1, .int k a.2]) (.agg #[.int k b.1, .int k b.2])) = some (decide (b = a)) := by
 have hmd : Op.maxDepth = 9998 + 2 := by decide
 unfold Op.equal
 rw [hmd, a2m (xs := [.int k a.1, .int k a.2]) (ys := [.int k b.1, .int k b.2]) 9998 hu hst hf rfl (hok _ _ _ _)]
 congr 1
 show ((a.1 == b.1) && ((a.2 == b.2) && true)) = _
 rw [eF]
 simp only [fu, cV, beq_iff_eq, decide_eq_true_eq, Prod.ext_iff]
 constructor
 ·rintro ⟨h1, h2⟩; exact ⟨h1.symm, h2.symm⟩
 ·rintro ⟨h1, h2⟩; exact ⟨h1.symm, h2.symm⟩
theorem c3l {k : IntKind} (a : Int × Int) : Instr.sameBits 10000 (.agg #[.int k a.1, .int k a.2]) (.agg #[.int k a.1, .int k a.2]) = true := by
 show ((2 : Nat) == 2 && ([(Value.int k a.1, Value.int k a.1), (Value.int k a.2, Value.int k a.2)]).all fun (x, y) => Instr.sameBits 9999 x y) = true
 have h : ∀ n, Instr.sameBits 9999 (.int k n) (.int k n) = true := fun n => by
  show (k == k && n == n) = true
  cases k <;> simp <;> rfl
 simp [h]
section
variable {H : Heap} {α : Type} {n : Nat} {cel : α → List Value} {v : Value} {xs : List α}
theorem Sl.aN (h : Sl n cel H v xs) (o : Oper) (l : List Value) (H' : Heap) (k : IntKind) (a : Int) (K : Value → Heap → Prop) (h0 : 0 < xs.length) (h1 : 0 ≤ a) (h2 : a ≤ xs.length) :
 pG P o l H' (some n) v none (some (.int k a)) K = oW (mR v n 0 a.toNat) fun v => K v H' := by
 obtain ⟨m, rfl⟩ : ∃ m, n = m + 1 := ⟨n - 1, by have := h.pos; omega⟩
 exact h.rd.aN (iO h.hc xs) o l H' k a K h0 h1 h2
theorem Sl.aP (h : Sl n cel H v xs) (o : Oper) (l : List Value) (H' : Heap) (k : IntKind) (a : Int) (K : Value → Heap → Prop) (h0 : 0 < xs.length) (h1 : 0 ≤ a) (h2 : a ≤ xs.length) :
 pG P o l H' (some n) v (some (.int k a)) none K = oW (mR v n a.toNat (xs.length - a).toNat) fun v => K v H' := by
 obtain ⟨m, rfl⟩ : ∃ m, n = m + 1 := ⟨n - 1, by have := h.pos; omega⟩
 rw [h.rd.aP (iO h.hc xs) o l H' k a K h0 h1 h2]
 congr 2
 omega
theorem Sl.sub (h : Sl n cel H v xs) (lo k : Nat) (hk : lo + k ≤ xs.length) (h0 : 0 < xs.length) : Sl n cel H (mR v n lo k) ((xs.drop lo).take k) := by
 refine ⟨?_, h.hc, h.pos⟩
 have hne : xs.flatMap cel ≠ [] := fun e => by
  have := iO h.hc xs
  rw [e, ef] at this
  have hp := il h0 h.pos
  omega
 have := h.rd.sub lo k (by rw [iO h.hc, ← fp]; exact dH _ hk) hne
 rw [tE h.hc, a1S h.hc] at this
 exact this
theorem Sl.ch (h : Sl n cel H v xs) (k : Nat) (hk : k ≤ xs.length) (h0 : 0 < xs.length) : Sl n cel H (mR v n 0 k) (xs.take k) := by
 simpa using h.sub 0 k (by omega) h0
theorem Sl.cB (h : Sl n cel H v xs) (lo : Nat) (hk : lo ≤ xs.length) (h0 : 0 < xs.length) : Sl n cel H (mR v n lo (xs.length - lo)) (xs.drop lo) := by
 have := h.sub lo (xs.length - lo) (by omega) h0
 rwa [List.take_of_length_le (by simp)] at this
end
def a9t (P : Program) (ts : Array TypeId) (ty : TypeId) (cx cy : Bool) (x y : Value) : Option Value := (kP P ⟨none, .call { callee := .builtin .max, args := #[oX cx 0 x, oX cy 1 y], argTypes := ts }, ty, "", #[], none⟩ [x, y] .nil).map (·.1)
theorem c0g (d : Option Tmp) (ty : TypeId) (pos : String) (af : Array Edge) (g : Option (Nat × Bool)) (ts : Array TypeId) (x y : Operand) (l : List Value) (H : Heap) (K : Value → Heap → Prop) :
 lU P ⟨d, .call { callee := .builtin .max, args := #[x, y], argTypes := ts }, ty, pos, af, g⟩ l H K = jJ x l fun x' => jJ y l fun y' => jW (a9t P ts ty (lF x) (lF y) x' y') fun v => K v H := by
 have h : opD P ⟨d, .call { callee := .builtin .max, args := #[x, y], argTypes := ts }, ty, pos, af, g⟩ l H = (a9t P ts ty (lF x) (lF y) (ev l x) (ev l y)).map fun v => (v, H) :=
  nB (P := P) ⟨d, .call { callee := .builtin .max, args := #[x, y], argTypes := ts }, ty, pos, af, g⟩ ⟨none, .call { callee := .builtin .max, args := #[oX (lF x) 0 (ev l x), oX (lF y) 1 (ev l y)], argTypes := ts }, ty, "", #[], none⟩ l [ev l x, ev l y] H
   (by cases x <;> cases y <;> rfl) (by cases x <;> cases y <;> kernel_rfl)
 have h2 : kB ((a9t P ts ty (lF x) (lF y) (ev l x) (ev l y)).map fun v => (v, H)) K = jW (a9t P ts ty (lF x) (lF y) (ev l x) (ev l y)) fun v => K v H := by cases a9t P ts ty (lF x) (lF y) (ev l x) (ev l y) <;> rfl
 simp only [lU, h, jJ, Op.operands, Call.operands, h2]
 simp [and_assoc]
theorem b5i (ts : Array TypeId) (ty : TypeId) (cx cy : Bool) (a b : Int) : a9t P ts ty cx cy (.int .i64 a) (.int .i64 b) = some (.int .i64 (max a b)) := by
 have h : a9t P ts ty cx cy (.int .i64 a) (.int .i64 b) = some (.int .i64 (if b > a then b else a)) := by cases cx <;> cases cy <;> kernel_rfl
 rw [h]
 congr 2
 split <;> omega
def a9r (P : Program) (ts : Array TypeId) (ty : TypeId) (cx cy : Bool) (x y : Value) : Option Value := (kP P ⟨none, .call { callee := .builtin .min, args := #[oX cx 0 x, oX cy 1 y], argTypes := ts }, ty, "", #[], none⟩ [x, y] .nil).map (·.1)
theorem b8Y (d : Option Tmp) (ty : TypeId) (pos : String) (af : Array Edge) (g : Option (Nat × Bool)) (ts : Array TypeId) (x y : Operand) (l : List Value) (H : Heap) (K : Value → Heap → Prop) :
 lU P ⟨d, .call { callee := .builtin .min, args := #[x, y], argTypes := ts }, ty, pos, af, g⟩ l H K = jJ x l fun x' => jJ y l fun y' => jW (a9r P ts ty (lF x) (lF y) x' y') fun v => K v H := by
 have h : opD P ⟨d, .call { callee := .builtin .min, args := #[x, y], argTypes := ts }, ty, pos, af, g⟩ l H = (a9r P ts ty (lF x) (lF y) (ev l x) (ev l y)).map fun v => (v, H) :=
  nB (P := P) ⟨d, .call { callee := .builtin .min, args := #[x, y], argTypes := ts }, ty, pos, af, g⟩ ⟨none, .call { callee := .builtin .min, args := #[oX (lF x) 0 (ev l x), oX (lF y) 1 (ev l y)], argTypes := ts }, ty, "", #[], none⟩ l [ev l x, ev l y] H
   (by cases x <;> cases y <;> rfl) (by cases x <;> cases y <;> kernel_rfl)
 have h2 : kB ((a9r P ts ty (lF x) (lF y) (ev l x) (ev l y)).map fun v => (v, H)) K = jW (a9r P ts ty (lF x) (lF y) (ev l x) (ev l y)) fun v => K v H := by cases a9r P ts ty (lF x) (lF y) (ev l x) (ev l y) <;> rfl
 simp only [lU, h, jJ, Op.operands, Call.operands, h2]
 simp [and_assoc]
theorem b4O (ts : Array TypeId) (ty : TypeId) (cx cy : Bool) (a b : Int) : a9r P ts ty cx cy (.int .i64 a) (.int .i64 b) = some (.int .i64 (min a b)) := by
 have h : a9r P ts ty cx cy (.int .i64 a) (.int .i64 b) = some (.int .i64 (if b < a then b else a)) := by cases cx <;> cases cy <;> kernel_rfl
 rw [h]
 congr 2
 split <;> omega
section
variable {H : Heap}
def Var (H : Heap) (A n : Nat) (cs : List Value) : Prop := n = cs.length ∧ ∃ ty rw lo ver, iS H A = some (.cells cs ty rw lo ver) ∧ lo ≤ cs.length
theorem Var.ab {H' : Heap} {A n : Nat} {cs : List Value} (h : Var H A n cs) (hk : ∀ B, B < H.length → iS H' B = iS H B) : Var H' A n cs := by
 obtain ⟨h1, ty, rw, lo, ver, h2, h3⟩ := h
 exact ⟨h1, ty, rw, lo, ver, by rw [hk A (jK h2), h2], h3⟩
theorem Var.ld {A n : Nat} {cs : List Value} (h : Var H A n cs) (s : Option Nat) (off : Nat) : pT (some false) s H (ptr A off n) = cs[off]? := by
 obtain ⟨rfl, ty, rw, lo, ver, h1, h2⟩ := h
 simp only [pT, jE, h1]
 by_cases h : off < cs.length
 ·rw [if_pos (by simp; omega)]
  simp only [cW]
  rw [dW (by omega), dF]
  simp
 ·rw [if_neg (by simp; omega), eo (by omega)]
  rfl
theorem Var.ag {A n : Nat} {cs : List Value} (h : Var H A n cs) (m off : Nat) : pT (some true) (some m) H (ptr A off n) = if off + m ≤ cs.length then some (.agg ((cs.drop off).take m).toArray) else none := by
 obtain ⟨rfl, ty, rw, lo, ver, h1, h2⟩ := h
 simp only [pT, jE, h1, cW]
 by_cases h : off + m ≤ cs.length
 ·rw [if_pos (by simp; omega), if_pos h]
  rfl
 ·rw [if_neg (by simp; omega), if_neg h]
  rfl
theorem St.var {P : Program} {H0 : Base} {os : List Ob} (hS : St P H0 H os) (i : Nat) {A n : Nat} {cs : List Value} (ho : os[i]? = some ⟨ptr A 0 n, 0, cs⟩) : Var H A n cs := by
 obtain ⟨h1, ty, lo, ver, h2, h3⟩ := hS.cell i ho
 exact ⟨h1, ty, true, lo, ver, h2, h3⟩
theorem St.va {H0 : Heap} {os : List Ob} (hS : St P H0 H os) {A n : Nat} {cs : List Value} (h : Var H0 A n cs) : Var H A n cs := h.ab hS.ab
end
theorem sP {P : Program} (t t2 : TypeId) (cx cy : Bool) (u x : UInt8) : kW P .add t t2 cx cy (.string ⟨#[u]⟩) (.string ⟨#[x]⟩) = some (.string ⟨#[u, x]⟩) := by
 rw [a6K _ _ _ _ _ _ (by show 1 + 1 < 9223372036854775808; decide)]
 rfl
theorem vX {P : Program} {H : Heap} {s t : TypeId} {v : Value} {n : Int} (h : RdAt H v 1 [.int .u8 n]) (hs : lA P s = true) (ht : oO P t = true) (hbt : lA P t = false) (h0 : 0 ≤ n) (h1 : n < 256) (K : Value → Heap → Prop) :
 tV P s t H v K = K (.string ⟨#[UInt8.ofNat n.toNat]⟩) H := by
 obtain ⟨m, rfl⟩ : ∃ m : Nat, n = Int.ofNat m := ⟨n.toNat, by simp [fB h0]⟩
 have hm : m < 256 := by have : (m : Int) < 256 := h1; omega
 rcases h with ⟨_, h⟩ | ⟨A, i, e, row, ty, rw, lo, ver, k, g1, g2, g3, g4, g5, g6, rfl⟩
 ·cases h
 have hk : k = 1 := by simp at g6; omega
 subst hk
 have hc : jE H A i e 1 = some [.int .u8 (Int.ofNat m)] := by
  simp only [jE, g1]
  rw [if_pos (by simp at g4 ⊢; omega)]
  exact congrArg some g5
 have hb : nK [.int .u8 (Int.ofNat m)] = some ⟨#[UInt8.ofNat m]⟩ := by simp [nK, a2i, a1w, hm]
 have hd : opD P ⟨none, .convert s t (.const (.slice (some ⟨A, i, some e⟩) 1 1)), t, "", #[], none⟩ [] H = some (.string ⟨#[UInt8.ofNat m]⟩, H) := by
  have hf : flat (.slice (some ⟨A, i, some e⟩) 1 1) = false := rfl
  simp only [opD, ev, hf, hs, ht, hc, hb, fz, ec, if_false, Bool.and_self, if_true, cW, dN]
 unfold tV
 rw [hd]
 apply propext
 constructor
 ·rintro ⟨v, H1, h2, h3⟩
  injection (cU h2) with e1 e2
  subst e1 e2
  exact h3
 ·intro h3
  exact ⟨_, _, rfl, h3⟩
theorem a5s {P : Program} {t : TypeId} {n : Nat} {elem : TypeId} {size : Nat} (ha : P.underlying t = some (.array n elem)) (hs : iE P elem = some size) (A i e : Nat) (k : IntKind) (j : Int) (h0 : 0 ≤ j) (h1 : j < n) :
 xD (iR P t) P t (ptr A i e) (.int k j) = some (ptr A (i + j.toNat * size) e) := by
 have hn : iR P t = none := by simp [iR, iJ, ha]
 rw [hn]
 simp only [xD, a2d, ha, ptr, hs, cW]
 rw [if_pos (by simp [h0, h1])]
end
end Go.Ds
namespace Go.Ds
section
variable {P : Program}
def c2o (inv : List Nat) (e : Edge) : Edge := { e with on := inv.getD e.on 0 }
def yN (inv : List Nat) (o : Oper) : Oper := { o with after := o.after.map (c2o inv), guard := o.guard.map fun g => (inv.getD g.1 0, g.2) }
def kE (π inv : List Nat) (ops : Array Oper) : Array Oper := (π.map fun i => yN inv (ops.getD i default)).toArray
def a9K (π inv : List Nat) (ops : Array Oper) : Bool :=
 decide (π.length = ops.size) && decide (inv.length = ops.size) && (List.range ops.size).all (fun i => decide (π.getD i 0 < ops.size) && decide (inv.getD i 0 < ops.size) && decide (inv.getD (π.getD i 0) 0 = i) && decide (π.getD (inv.getD i 0) 0 = i)) &&
 ops.toList.all fun o => o.after.toList.all (fun e => decide (e.on < ops.size)) && (match o.guard with | some g => decide (g.1 < ops.size) | none => true)
structure Perm (π inv : List Nat) (ops : Array Oper) : Prop where
 len : π.length = ops.size
 pi : ∀ i, i < ops.size → π.getD i 0 < ops.size
 iv : ∀ i, i < ops.size → inv.getD i 0 < ops.size
 ip : ∀ i, i < ops.size → inv.getD (π.getD i 0) 0 = i
 pv : ∀ i, i < ops.size → π.getD (inv.getD i 0) 0 = i
 edge : ∀ (i : Nat) (o : Oper), ops[i]? = some o → ∀ e ∈ o.after, e.on < ops.size
 guard : ∀ (i : Nat) (o : Oper) (g : Nat × Bool), ops[i]? = some o → o.guard = some g → g.1 < ops.size
theorem b9W {π inv : List Nat} {ops : Array Oper} (h : a9K π inv ops = true) : Perm π inv ops := by
 unfold a9K at h
 simp only [cV, decide_eq_true_eq, dq, dx] at h
 obtain ⟨⟨⟨h1, h2⟩, h3⟩, h4⟩ := h
 refine ⟨h1, fun i hi => (h3 i hi).1.1.1, fun i hi => (h3 i hi).1.1.2, fun i hi => (h3 i hi).1.2, fun i hi => (h3 i hi).2, fun i o ho e he => ?_, fun i o g ho hg => ?_⟩
 ·exact (h4 o (dP (i := i) (by simpa using ho))).1 e (by simpa using he)
 ·have := (h4 o (dP (i := i) (by simpa using ho))).2
  rw [hg] at this
  simpa using this
variable {π inv : List Nat} {ops : Array Oper}
theorem a7T (p : Nat) : (kE π inv ops)[p]? = (π[p]?).map fun i => yN inv (ops.getD i default) := by
 simp [kE]
theorem rF (D : Perm π inv ops) {p i : Nat} {o : Oper} (hp : p < ops.size) (hi : π.getD p 0 = i) (ho : ops[i]? = some o) : (kE π inv ops)[p]? = some (yN inv o) := by
 rw [a7T]
 have h1 : π[p]? = some i := by
  rw [cZ] at hi
  rw [dp (by rw [D.len]; exact hp)] at hi ⊢
  simpa using hi
 rw [h1]
 simp only [dN]
 rw [ee, ho]
 rfl
theorem qK (D : Perm π inv ops) : (kE π inv ops).size = ops.size := by simp [kE, D.len]
theorem a5v (D : Perm π inv ops) (tmps : Array Value) {j : Nat} (hj : j < ops.size) : yielded (kE π inv ops) tmps (inv.getD j 0) = yielded ops tmps j := by
 have ho : ops[j]? = some ops[j] := de.2 ⟨hj, rfl⟩
 unfold yielded
 rw [rF D (D.iv j hj) (D.pv j hj) ho, ho]
 rfl
theorem a6P (D : Perm π inv ops) (tmps : Array Value) {i : Nat} {o : Oper} (ho : ops[i]? = some o) : Region.wanted (yN inv o) (yielded (kE π inv ops) tmps) = Region.wanted o (yielded ops tmps) := by
 unfold Region.wanted
 have e : (yN inv o).guard = o.guard.map fun g => (inv.getD g.1 0, g.2) := rfl
 rw [e]
 cases hg : o.guard with
 | none => rfl
 | some g =>
   simp only [dN]
   rw [a5v D tmps (D.guard i o g ho hg)]
theorem b9N (ro : Option Nat) (ρ : Operand → Value) (o : Oper) : (yN inv o).semAt ro ρ = o.semAt ro ρ := by
 obtain ⟨dst, op, type, pos, after, guard⟩ := o
 rfl
theorem b3d (w : World) (ρ : Operand → Value) (o : Oper) : (yN inv o).about P w ρ = o.about P w ρ := by
 obtain ⟨dst, op, type, pos, after, guard⟩ := o
 rfl
theorem b7q (F : Fence) (n : Nat) (o : Oper) (a : Act) (next : Act → World → Prop) (Q : Exit → Act → World → Prop) (r : Result Next) : (yN inv o).uponIn F n P a next Q r = o.uponIn F n P a next Q r := by
 obtain ⟨dst, op, type, pos, after, guard⟩ := o
 cases r with
 | ok x w => cases x <;> rfl
 | halt x w => cases x <;> rfl
theorem b3P (D : Perm π inv ops) (F : Fence) (n : Nat) (Q : Exit → Act → World → Prop) {i : Nat} (hi : i < ops.size) (K : Act → World → Prop) (a : Act) (w : World) :
 wpOpIn F n P (kE π inv ops) Q (inv.getD i 0) K a w = wpOpIn F n P ops Q i K a w := by
 have ho : ops[i]? = some ops[i] := de.2 ⟨hi, rfl⟩
 unfold wpOpIn
 rw [rF D (D.iv i hi) (D.pv i hi) ho, ho]
 simp only [a6P D a.tmps ho, Oper.wpIn, b3d, b7q, b9N]
 rfl
def c1O (inv : List Nat) (n : Nat) (listed listed' : Array Bool) : Prop := listed.size = n ∧ listed'.size = n ∧ ∀ i, i < n → listed.getD i false = listed'.getD (inv.getD i 0) false
theorem wX (D : Perm π inv ops) {listed listed' : Array Bool} (hc : c1O inv ops.size listed listed') {i : Nat} (hi : i < ops.size) :
 i ∈ Region.ready .any ops listed ↔ inv.getD i 0 ∈ Region.ready .any (kE π inv ops) listed' := by
 have ho : ops[i]? = some ops[i] := de.2 ⟨hi, rfl⟩
 have ho' := rF D (D.iv i hi) (D.pv i hi) ho
 have hsz := qK D
 obtain ⟨c1, c2, c3⟩ := hc
 constructor
 ·intro h
  obtain ⟨o, h1, h2, h3⟩ := pI c1 h
  rw [ho] at h1
  obtain rfl := cU h1
  refine a0C (by rw [hsz]; exact c2) ho' (by rw [← c3 i hi]; exact h2) ?_
  intro e he hb
  have he' : e ∈ (ops[i]).after.map (c2o inv) := he
  obtain ⟨e0, he0, rfl⟩ := Array.mem_map.1 he'
  have := h3 e0 he0 hb
  show listed'.getD (inv.getD e0.on 0) false = true
  rw [← c3 _ (D.edge i _ ho e0 he0)]
  exact this
 ·intro h
  obtain ⟨o, h1, h2, h3⟩ := pI (by rw [hsz]; exact c2) h
  rw [ho'] at h1
  obtain rfl := cU h1
  refine a0C c1 ho (by rw [c3 i hi]; exact h2) ?_
  intro e he hb
  have := h3 (c2o inv e) (Array.mem_map.2 ⟨e, he, rfl⟩) hb
  rw [c3 _ (D.edge i _ ho e he)]
  exact this
theorem b5N (D : Perm π inv ops) (F : Fence) (k : Nat) {Q : Exit → Act → World → Prop} : ∀ (fuel : Nat) (listed listed' : Array Bool) (a : Act) (w : World), c1O inv ops.size listed listed' →
 wpAnyIn F k P .any (kE π inv ops) Q fuel listed' a w → wpAnyIn F k P .any ops Q fuel listed a w := by
 have hsz := qK D
 have nil1 : ∀ {listed listed' : Array Bool}, c1O inv ops.size listed listed' → (Region.ready .any ops listed = [] ↔ Region.ready .any (kE π inv ops) listed' = []) := by
  intro listed listed' hc
  constructor
  ·intro h
   cases hr : Region.ready .any (kE π inv ops) listed' with
   | nil => rfl
   | cons p r =>
     exfalso
     have hp : p ∈ Region.ready .any (kE π inv ops) listed' := by rw [hr]; exact dJ ..
     obtain ⟨o, h1, _, _⟩ := pI (by rw [hsz]; exact hc.2.1) hp
     have hpn : p < ops.size := by rw [← hsz]; exact (de.1 h1).1
     have := (wX D hc (D.pi p hpn)).2 (by rw [D.ip p hpn]; exact hp)
     rw [h] at this
     cases this
  ·intro h
   cases hr : Region.ready .any ops listed with
   | nil => rfl
   | cons i r =>
     exfalso
     have hi : i ∈ Region.ready .any ops listed := by rw [hr]; exact dJ ..
     obtain ⟨o, h1, _, _⟩ := pI hc.1 hi
     have := (wX D hc (de.1 h1).1).1 hi
     rw [h] at this
     cases this
 intro fuel
 induction fuel with
 | zero =>
   intro listed listed' a w hc h
   exact ⟨(nil1 hc).2 h.1, h.2⟩
 | succ fuel ih =>
   intro listed listed' a w hc h
   refine ⟨fun hn => h.1 ((nil1 hc).1 hn), fun i hi => ?_⟩
   obtain ⟨o, h1, _, _⟩ := pI hc.1 hi
   have hin := (de.1 h1).1
   have h2 := h.2 _ ((wX D hc hin).1 hi)
   rw [b3P D F k Q hin] at h2
   refine wpOpIn_mono (fun a' w' h3 => ih _ _ a' w' ⟨by simpa using hc.1, by simpa using hc.2.1, fun j hj => ?_⟩ h3) h2
   have e1 := sU (listed := listed) (i := i) (by rw [hc.1]; exact hin) j
   have e2 := sU (listed := listed') (i := inv.getD i 0) (by rw [hc.2.1]; exact D.iv i hin) (inv.getD j 0)
   have e3 : (inv.getD j 0 = inv.getD i 0) ↔ j = i := ⟨fun h => by rw [← D.pv j hj, h, D.pv i hin], fun h => by rw [h]⟩
   rw [eF, e1, e2, e3, hc.2.2 j hj]
end
section
variable {P : Program} {H : Heap} {π inv : List Nat} {ops : Array Oper}
theorem Sim.cC (jY : P.follows .mixedOrders = true) {id : Nat} (Dp : Perm π inv ops) {fl : Fl} (D : Draw P fl (kE π inv ops)) {T : Nat → List Value × Heap} {val : Nat → Value} (X : Text P (kE π inv ops) T val)
 (hread : ∀ i m o, (i, m) ∈ mO fl (kE π inv ops) → (kE π inv ops)[i]? = some o → Region.wanted o (iU (kE π inv ops) (T i).1) = true → ∃ H2, opD P o (T i).1 (T m).2 = some (val i, H2)) :
 Sim P (.region id ops true) (T 0).1 (T 0).2 .normal (T ops.size).1 (T ops.size).2 := by
 intro ro k B ρ w a hr hE hl hM hB
 have hsz := qK Dp
 have := a3O D X hread ro k B hr hE hM
 rw [hsz] at this
 exact wpIn_region_any jY (b5N Dp (fe ro) k ops.size _ _ a _ ⟨by simp, by simp, fun i hi => by
  have := Dp.iv i hi
  simp only [ee, Array.getElem?_replicate, hi, this, if_true]⟩ this)
theorem a3w (D : Perm π inv ops) (l : List Value) {j : Nat} (hj : j < ops.size) : iU (kE π inv ops) l (inv.getD j 0) = iU ops l j := by
 have ho : ops[j]? = some ops[j] := de.2 ⟨hj, rfl⟩
 unfold iU
 rw [rF D (D.iv j hj) (D.pv j hj) ho, ho]
 rfl
theorem zM (D : Perm π inv ops) (l : List Value) {i : Nat} {o : Oper} (ho : ops[i]? = some o) : Region.wanted (yN inv o) (iU (kE π inv ops) l) = Region.wanted o (iU ops l) := by
 unfold Region.wanted
 have e : (yN inv o).guard = o.guard.map fun g => (inv.getD g.1 0, g.2) := rfl
 rw [e]
 cases hg : o.guard with
 | none => rfl
 | some g =>
   simp only [dN]
   rw [a3w D l (D.guard i o g ho hg)]
theorem b1C (o : Oper) (l : List Value) (K : Value → Heap → Prop) : lU P (yN inv o) l H K = lU P o l H K := by
 obtain ⟨dst, op, type, pos, after, guard⟩ := o
 rfl
theorem a3P (D : Perm π inv ops) : ∀ (os : List Oper) (tr : List (List Value × Heap × Value)) (l : List Value) (H : Heap) (K : List (List Value × Heap × Value) → List Value → Heap → Prop), (∀ o ∈ os, ∃ i : Nat, ops[i]? = some o) →
 mK P (kE π inv ops) (os.map (yN inv)) tr l H K = mK P ops os tr l H K
 | [], _, _, _, _, _ => rfl
 | o :: os, tr, l, H, K, h => by
   obtain ⟨i, ho⟩ := h o (by simp)
   have ih := fun tr l H => a3P D os tr l H K fun o ho => h o (by simp [ho])
   rw [ey, mK, mK, zM D l ho]
   have e : (yN inv o).dst = o.dst := rfl
   simp only [b1C, e, ih]
def c3r (o : Option Oper) (os : List Oper) : List Oper := match o with | some o => o :: os | none => os
def sel (os : List Oper) : List Nat → List Oper
 | [] => []
 | i :: π => c3r os[i]? (sel os π)
theorem b8q (os : List Oper) : sel os [] = [] := rfl
theorem a8c (os : List Oper) (i : Nat) (π : List Nat) : sel os (i :: π) = c3r os[i]? (sel os π) := rfl
theorem a3K (o : Oper) (os : List Oper) : c3r (some o) os = o :: os := rfl
theorem a9H (os : List Oper) : ∀ (π : List Nat), (∀ i ∈ π, i < os.length) → sel os π = π.map fun i => os.toArray.getD i default
 | [], _ => rfl
 | i :: π, h => by
   have hi := h i (by simp)
   rw [a8c, a9H os π fun j hj => h j (by simp [hj]), dp hi, a3K, ey]
   congr 1
   simp [ee, hi]
def a0i (P : Program) (os : List Oper) (tr : List (List Value × Heap × Value)) (H1 : Heap) (π : List Nat) : List (Nat × Nat) → Prop
 | [] => True
 | (p, m) :: r => rdW P os.toArray (os[π.getD p 0]?) tr[p]? (trH tr[m]? H1) ∧ a0i P os tr H1 π r
theorem b0u (os : List Oper) (tr) (H1 : Heap) (π : List Nat) : a0i P os tr H1 π [] = True := rfl
theorem a7e (os : List Oper) (tr) (H1 : Heap) (π : List Nat) (p m : Nat) (r : List (Nat × Nat)) : a0i P os tr H1 π ((p, m) :: r) = (rdW P os.toArray (os[π.getD p 0]?) tr[p]? (trH tr[m]? H1) ∧ a0i P os tr H1 π r) := rfl
theorem a2a {os : List Oper} {tr} {H1 : Heap} {π : List Nat} : ∀ {tab : List (Nat × Nat)}, a0i P os tr H1 π tab → ∀ x ∈ tab, rdW P os.toArray (os[π.getD x.1 0]?) tr[x.1]? (trH tr[x.2]? H1)
 | [], _, x, hx => by cases hx
 | (i, m) :: r, h, x, hx => by
   rcases dS.1 hx with rfl | hx
   ·exact h.1
   ·exact a2a h.2 x hx
theorem Wp.cj (jY : P.follows .mixedOrders = true) {id : Nat} {os : List Oper} {l : List Value} {Q : nF} (π inv : List Nat) (fl : Fl) (tab : List (Nat × Nat)) (hp : a9K π inv os.toArray = true)
 (htab : a2U P fl (kE π inv os.toArray) = some tab) (hn : vA (kE π inv os.toArray) tab = true)
 (h : mK P os.toArray (sel os π) [] l H fun tr l1 H1 => Q .normal l1 H1 ∧ a0i P os tr H1 π tab) : Wp P (.region id os.toArray true) l H Q := by
 have Dp := b9W hp
 obtain ⟨D, htb⟩ := a3i htab
 have hsz := qK Dp
 have hmem : ∀ i ∈ π, i < os.length := fun i hi => by
  obtain ⟨p, hpl, hpe⟩ := dQ.1 hi
  have := Dp.pi p (by rw [← Dp.len]; exact hpl)
  rw [cZ, dp hpl, fc, hpe] at this
  simpa using this
 have hsel : (sel os π).map (yN inv) = (kE π inv os.toArray).toList := by
  rw [a9H os π hmem]
  simp [kE]
 rw [← a3P Dp (sel os π) [] l H _ (fun o ho => by
  rw [a9H os π hmem, dy] at ho
  obtain ⟨i, hi, rfl⟩ := ho
  have := hmem i hi
  exact ⟨i, by simp [ee, this]⟩), hsel] at h
 obtain ⟨T, val, l', H', ext, h0, h1, h2, h3, h4, h5, h6⟩ := uD (kE π inv os.toArray).toList 0 rfl [] l H h
 have hlen : (kE π inv os.toArray).toList.length = os.toArray.size := by rw [fA, hsz]
 rw [hlen] at h1 h2 h3 h4
 have := Sim.cC jY (id := id) Dp D (T := T) (val := val) ⟨fun k hk => by rw [hsz] at hk; simpa using h4 k hk⟩ fun i m o hm ho hw => by
  rw [← htb] at hm
  have hr := a2a h6 (i, m) hm
  have hi : i < os.toArray.size := by rw [← hsz]; exact (de.1 ho).1
  have hpi := Dp.pi i hi
  have hoo : os.toArray[π.getD i 0]? = some (os.toArray[π.getD i 0]) := de.2 ⟨hpi, rfl⟩
  have hat := rF (inv := inv) Dp hi rfl hoo
  rw [ho] at hat
  have hat := cU hat
  have hoo' : os[π.getD i 0]? = some (os.toArray[π.getD i 0]) := by rw [← hoo]; simp
  simp only [eZ] at hr
  rw [hoo', h3 i hi] at hr
  unfold rdW at hr
  rw [hat, zM Dp _ hoo] at hw
  have hr := hr hw
  have hno : yC o = true := by
   unfold vA at hn
   have := dq.1 hn (i, m) hm
   simpa [ho] using this
  have hTm : trH ext[m]? H' = (T m).2 ∨ os.toArray.size < m := by
   unfold trH
   by_cases hm2 : m < os.toArray.size
   ·left; rw [h3 m hm2]
   ·by_cases hm3 : m = os.toArray.size
    ·left
     rw [eo (by omega), hm3, h1]
    ·right; omega
  rcases hTm with hTm | hTm
  ·rw [hTm, ← b1C (inv := inv), ← hat] at hr
   obtain ⟨v, H2, h7, h8⟩ := b0W hno hr
   exact ⟨H2, by rw [h7, h8]⟩
  ·exfalso
   rw [htb] at hm
   have := a3c hm
   rw [hsz] at this
   omega
 rw [h0, h1] at this
 exact ⟨_, _, _, this, h5⟩
end
def RA :=
 And.intro @b7O <| And.intro @b5b <| And.intro @b1s <| And.intro @c2f <| And.intro @c2K <| And.intro @b4C <| And.intro @b8t <| And.intro @c2a <| And.intro @b8v <| And.intro @b8D <| And.intro @b5x <| And.intro @a7v <| And.intro @a4F <| And.intro @b5u <| And.intro @b2X <| And.intro @a8U <| And.intro @a8K <| And.intro @a8q <| And.intro @b4A <| And.intro @b0r <| And.intro @b5f <| And.intro @b6B <| And.intro @b3E <| And.intro @b3V <| And.intro @c0j <| And.intro @b3W <| And.intro @a2E <| And.intro @a3u <| And.intro @a8z <| And.intro @b6K <| And.intro @b1P <| And.intro @b9K <| And.intro @a3r <| And.intro @a3j <| And.intro @b6i <| And.intro @c2S <| And.intro @a6E <| And.intro @a6t <| And.intro @b1U <| And.intro @b6N <| And.intro @a5e <| And.intro @a9a <| And.intro @a9B <| And.intro @b0E <| And.intro @a9C <| And.intro @a7I <| And.intro @a3l <| And.intro @a5n <| And.intro @a2y <| And.intro @b3v <| And.intro @c0g <| And.intro @b8Y <| And.intro @b7n <| And.intro @a8D <| And.intro @b3N <| And.intro @b3z <| And.intro @a9n <| And.intro @a9G <| And.intro @a6j <| And.intro @a6A <| And.intro @b5e <| And.intro @b3X <| And.intro @a3z <| And.intro @a9D <| And.intro @a6N <| And.intro @a3m <| And.intro @a6O <| And.intro @b0j <| And.intro @a6L <| @b6k
def RB :=
 And.intro @b9C <| And.intro @b0n <| And.intro @a9b <| And.intro @b2p <| And.intro @b0D <| And.intro @a6w <| And.intro @a8n <| And.intro @b5B <| And.intro @a6T <| And.intro @a6e <| And.intro @b8A <| And.intro @b3O <| And.intro @a9s <| And.intro @b8J <| And.intro @c0t <| And.intro @b7R <| And.intro @b8o <| And.intro @a8I <| And.intro @a7q <| And.intro @b9c <| And.intro @c1e <| And.intro @b7o <| And.intro @a6s <| And.intro @b0L <| And.intro @b7H <| And.intro @c0r <| And.intro @b4T <| And.intro @b2g <| And.intro @b2c <| And.intro @b3m <| And.intro @b3t <| And.intro @b2i <| And.intro @b2t <| And.intro @b2n <| And.intro @b3F <| And.intro @b3J <| And.intro @b2Y <| And.intro @b3S <| And.intro @b2J <| And.intro @b7m <| And.intro @b2r <| And.intro @a5L <| And.intro @b2a <| And.intro @b1W <| And.intro @b3A <| And.intro @b2s <| And.intro @b2Q <| And.intro @b4y <| And.intro @b5G <| And.intro @b4g <| And.intro @b9v <| And.intro @b6U <| And.intro @a7Z <| And.intro @a8X <| And.intro @a9v <| And.intro @b9P <| And.intro @b5a <| And.intro @a6Z <| And.intro @b5d <| And.intro @b5L <| And.intro @b3l <| And.intro @a9Y <| And.intro @b4u <| And.intro @b2w <| And.intro @a9w <| And.intro @b2u <| And.intro @b6Q <| And.intro @a8T <| And.intro @b1Z <| And.intro @b2E <| And.intro @a9k <| And.intro @b1Y <| And.intro @a9h <| And.intro @b8q <| And.intro @a8c <| And.intro @a3K <| And.intro @b0u <| And.intro @a7e <| And.intro @b8p <| And.intro @b4S <| And.intro @b3L <| And.intro @b4j <| And.intro @b4f <| And.intro @b2P <| And.intro @b5h <| And.intro @b2v <| And.intro @a5b <| And.intro @a8R <| And.intro @a6c <| And.intro @b0y <| And.intro @a9F <| And.intro @b4D <| And.intro @b4e <| And.intro @b2x <| And.intro @b7a <| And.intro @a7N <| And.intro @a5M <| And.intro @a8r <| And.intro @a6M <| And.intro @a6h <| And.intro @c5k <| And.intro @c4x <| And.intro @b7U <| And.intro @b8i <| And.intro @b5i <| And.intro @b4O <| And.intro @b4t <| And.intro @a9j <| And.intro @c0f <| And.intro @a8b <| And.intro @b9u <| And.intro @nP <| And.intro @b5Z <| And.intro @b7u <| @b8c
theorem RT :
 (∀ {α : Type} (l : List α), [] ++ l = l) ∧
 (∀ {α : Type} (l : List α), l ++ [] = l) ∧
 (∀ {α : Type} {a : α} {l m : List α}, a :: l ++ m = a :: (l ++ m)) ∧
 (∀ (cs : List Value) (i : Nat) (v : Value) (vs : List Value), iZ cs i (v :: vs) = iZ (cs.set i v) (i + 1) vs) ∧
 (∀ (cs : List Value) (i : Nat), iZ cs i [] = cs) ∧
 (∀ {α : Type} {x : α} {xs : List α} {a : α}, (x :: xs).set 0 a = a :: xs) ∧
 (∀ {α : Type} {x : α} {xs : List α} {i : Nat} {a : α}, (x :: xs).set (i + 1) a = x :: xs.set i a) ∧
 (∀ (n : Nat), 0 + n = n) ∧
 (∀ (n : Nat), n * 1 = n) ∧
 (∀ (n : Nat), n + 0 = n) :=
 ⟨@List.nil_append, @List.append_nil, @List.cons_append, @qM, @uJ, @List.set_cons_zero, @List.set_cons_succ, @Nat.zero_add, @Nat.mul_one, @Nat.add_zero⟩
end Go.Ds
namespace Go.Ds
open Go.Proofs Go.Proofs.Tryz
abbrev I (n : Int) : Value := .int .i64 n
theorem sR (H : Heap) : St prog H H [] := .refl ..
theorem jY : prog.follows .mixedOrders = true := by kernel_rfl
theorem tS3 : iE prog 3 = some 1 := by kernel_rfl
theorem b9j : iE prog 26 = some 3 := by kernel_rfl
theorem c3o : iE prog 27 = some 5 := by kernel_rfl
theorem c3D : iE prog 31 = some 1 := by kernel_rfl
theorem c4o : iE prog 32 = some 1 := by kernel_rfl
theorem b9H : iE prog 33 = some 1 := by kernel_rfl
theorem lO : iE prog 35 = some 4 := by kernel_rfl
theorem c3B : iE prog 37 = some 1 := by kernel_rfl
theorem c2Y : iE prog 38 = some 1 := by kernel_rfl
theorem nJ : iE prog 40 = some 3 := by kernel_rfl
theorem b9f : iE prog 44 = some 3 := by kernel_rfl
theorem b3e : iE prog 49 = some 1 := by kernel_rfl
theorem lQ : iE prog 61 = some 2 := by kernel_rfl
theorem a0b : iE prog 80 = some 2 := by kernel_rfl
theorem a1p : iE prog 82 = some 6 := by kernel_rfl
theorem nZ : iE prog 84 = some 2 := by kernel_rfl
theorem b8P : iE prog 89 = some 4 := by kernel_rfl
theorem c2n : iE prog 93 = some 9 := by kernel_rfl
theorem a1l : iE prog 96 = some 2 := by kernel_rfl
theorem c4T : iE prog 97 = some 1 := by kernel_rfl
theorem yQ : iE prog 99 = some 5 := by kernel_rfl
theorem wO : iE prog 100 = some 1 := by kernel_rfl
theorem oC : iE prog 102 = some 4 := by kernel_rfl
theorem b6S : iE prog 105 = some 4 := by kernel_rfl
theorem b1O : iE prog 107 = some 4 := by kernel_rfl
theorem tS : iE prog 109 = some 5 := by kernel_rfl
theorem mM : iE prog 122 = some 2 := by kernel_rfl
theorem wM : iE prog 134 = some 2 := by kernel_rfl
theorem zK : iE prog 137 = some 3 := by kernel_rfl
theorem a1Q : iE prog 149 = some 1 := by kernel_rfl
theorem b1t : iE prog 170 = some 3 := by kernel_rfl
theorem b5w : iE prog 211 = some 1 := by kernel_rfl
theorem c1t : iR prog 42 = some 1 := by kernel_rfl
theorem c2Z : iR prog 49 = some 1 := by kernel_rfl
theorem qC : lA prog 94 = true ∧ oO prog 9 = true ∧ lA prog 9 = false := ⟨by kernel_rfl, by kernel_rfl, by kernel_rfl⟩
theorem c6U (A i e : Nat) (k : IntKind) (j : Int) (h0 : 0 ≤ j) (h1 : j < 5) : xD (iR prog 27) prog 27 (ptr A i e) (.int k j) = some (ptr A (i + j.toNat * 1) e) := a5s (n := 5) (elem := 5) (size := 1) (by kernel_rfl) (by kernel_rfl) A i e k j h0 h1
theorem c6J (A i e : Nat) (k : IntKind) (j : Int) (h0 : 0 ≤ j) (h1 : j < 3) : xD (iR prog 44) prog 44 (ptr A i e) (.int k j) = some (ptr A (i + j.toNat * 1) e) := a5s (n := 3) (elem := 43) (size := 1) (by kernel_rfl) (by kernel_rfl) A i e k j h0 h1
theorem c4V (A i e : Nat) (k : IntKind) (j : Int) (h0 : 0 ≤ j) (h1 : j < 64) : xD (iR prog 273) prog 273 (ptr A i e) (.int k j) = some (ptr A (i + j.toNat * 1) e) := a5s (n := 64) (elem := 5) (size := 1) (by kernel_rfl) (by kernel_rfl) A i e k j h0 h1
theorem c1z : mY prog 31 = some (6, 80) := by kernel_rfl
theorem c4Y : ((iJ prog 31).bind (jA prog)).any jB = true := by kernel_rfl
theorem c2l : mY prog 32 = some (5, 64) := by kernel_rfl
theorem c4j : ((iJ prog 32).bind (jA prog)).any jB = true := by kernel_rfl
theorem a8V : mY prog 33 = some (5, 48) := by kernel_rfl
theorem c0k : ((iJ prog 33).bind (jA prog)).any jB = true := by kernel_rfl
theorem c1U : mY prog 37 = some (1, 8) := by kernel_rfl
theorem c3V : ((iJ prog 37).bind (jA prog)).any jB = true := by kernel_rfl
theorem c3W : mY prog 42 = some (1, 24) := by kernel_rfl
theorem c7l : ((iJ prog 42).bind (jA prog)).any jB = true := by kernel_rfl
theorem b2N : mY prog 46 = some (2, 16) := by kernel_rfl
theorem c0p : ((iJ prog 46).bind (jA prog)).any jB = true := by kernel_rfl
theorem rI : mY prog 49 = some (1, 8) := by kernel_rfl
theorem xG : ((iJ prog 49).bind (jA prog)).any jB = true := by kernel_rfl
theorem c0e : mY prog 94 = some (1, 1) := by kernel_rfl
theorem b7K : ((iJ prog 94).bind (jA prog)).any jB = true := by kernel_rfl
theorem c3t : mY prog 97 = some (4, 56) := by kernel_rfl
theorem c5u : ((iJ prog 97).bind (jA prog)).any jB = true := by kernel_rfl
theorem qF : mY prog 100 = some (3, 40) := by kernel_rfl
theorem wI : ((iJ prog 100).bind (jA prog)).any jB = true := by kernel_rfl
theorem a1f : mY prog 115 = some (2, 16) := by kernel_rfl
theorem b5O : ((iJ prog 115).bind (jA prog)).any jB = true := by kernel_rfl
theorem c5b : mY prog 125 = some (1, 16) := by kernel_rfl
theorem c3A : ((iJ prog 125).bind (jA prog)).any jB = true := by kernel_rfl
theorem c0H : mY prog 126 = some (2, 16) := by kernel_rfl
theorem c6d : ((iJ prog 126).bind (jA prog)).any jB = true := by kernel_rfl
theorem a4h : mY prog 135 = some (2, 16) := by kernel_rfl
theorem a3I : ((iJ prog 135).bind (jA prog)).any jB = true := by kernel_rfl
theorem mJ : mY prog 149 = some (2, 16) := by kernel_rfl
theorem uP : ((iJ prog 149).bind (jA prog)).any jB = true := by kernel_rfl
theorem b5S : mY prog 158 = some (3, 40) := by kernel_rfl
theorem b6A : ((iJ prog 158).bind (jA prog)).any jB = true := by kernel_rfl
theorem c0u : mY prog 173 = some (2, 16) := by kernel_rfl
theorem c0T : ((iJ prog 173).bind (jA prog)).any jB = true := by kernel_rfl
theorem c6X : b8O prog 42 = some (24, .slice none 0 0) := by kernel_rfl
theorem c5w : b8O prog 49 = some (8, .int .i64 0) := by kernel_rfl
theorem c5a (t2 : TypeId) (cx cy : Bool) (a0 : Int) (a1 : Int) (b0 : Int) (b1 : Int) : kW prog .eql 61 t2 cx cy (.agg #[.int .i64 a0, .int .i64 a1]) (.agg #[.int .i64 b0, .int .i64 b1]) = some (.bool (decide (a0 = b0 ∧ a1 = b1))) ∧ kW prog .neq 61 t2 cx cy (.agg #[.int .i64 a0, .int .i64 a1]) (.agg #[.int .i64 b0, .int .i64 b1]) = some (.bool (decide (¬ (a0 = b0 ∧ a1 = b1)))) := by
 have h := yB (P := prog) (t := 61) (t2 := t2) (cx := cx) (cy := cy) (xs := [.int .i64 a0, .int .i64 a1]) (ys := [.int .i64 b0, .int .i64 b1]) (by kernel_rfl) (by kernel_rfl) (by kernel_rfl) (by kernel_rfl) rfl (by kernel_rfl) rfl rfl
 have e : ((List.range [Value.int .i64 a0, .int .i64 a1].length).all fun j => eqC ([Value.int .i64 a0, .int .i64 a1].getD j undef) ([Value.int .i64 b0, .int .i64 b1].getD j undef)) = decide (a0 = b0 ∧ a1 = b1) := by
  show (eqC (Value.int .i64 a0) (.int .i64 b0) && (eqC (Value.int .i64 a1) (.int .i64 b1) && true)) = _
  rw [eF]
  simp [eqC]
 rw [e] at h
 exact ⟨h.1, by rw [h.2]; simp⟩
theorem c3T (t2 : TypeId) (cx cy : Bool) (a0 : Int) (a1 : Int) (b0 : Int) (b1 : Int) : kW prog .eql 61 t2 cx cy (.agg #[.int .i64 a0, .int .i64 a1]) (.agg #[.int .i64 b0, .int .i64 b1]) = some (.bool (decide (a0 = b0 ∧ a1 = b1))) := (c5a t2 cx cy a0 a1 b0 b1).1
theorem c4F (t2 : TypeId) (cx cy : Bool) (a0 : Int) (a1 : Int) (b0 : Int) (b1 : Int) : kW prog .neq 61 t2 cx cy (.agg #[.int .i64 a0, .int .i64 a1]) (.agg #[.int .i64 b0, .int .i64 b1]) = some (.bool (decide (¬ (a0 = b0 ∧ a1 = b1)))) := (c5a t2 cx cy a0 a1 b0 b1).2
theorem c3X (t2 : TypeId) (cx cy : Bool) (a0 : Int) (a1 : Int) (b0 : Int) (b1 : Int) : kW prog .eql 84 t2 cx cy (.agg #[.int .u64 a0, .int .u64 a1]) (.agg #[.int .u64 b0, .int .u64 b1]) = some (.bool (decide (a0 = b0 ∧ a1 = b1))) ∧ kW prog .neq 84 t2 cx cy (.agg #[.int .u64 a0, .int .u64 a1]) (.agg #[.int .u64 b0, .int .u64 b1]) = some (.bool (decide (¬ (a0 = b0 ∧ a1 = b1)))) := by
 have h := yB (P := prog) (t := 84) (t2 := t2) (cx := cx) (cy := cy) (xs := [.int .u64 a0, .int .u64 a1]) (ys := [.int .u64 b0, .int .u64 b1]) (by kernel_rfl) (by kernel_rfl) (by kernel_rfl) (by kernel_rfl) rfl (by kernel_rfl) rfl rfl
 have e : ((List.range [Value.int .u64 a0, .int .u64 a1].length).all fun j => eqC ([Value.int .u64 a0, .int .u64 a1].getD j undef) ([Value.int .u64 b0, .int .u64 b1].getD j undef)) = decide (a0 = b0 ∧ a1 = b1) := by
  show (eqC (Value.int .u64 a0) (.int .u64 b0) && (eqC (Value.int .u64 a1) (.int .u64 b1) && true)) = _
  rw [eF]
  simp [eqC]
 rw [e] at h
 exact ⟨h.1, by rw [h.2]; simp⟩
theorem c5r (t2 : TypeId) (cx cy : Bool) (a0 : Int) (a1 : Int) (b0 : Int) (b1 : Int) : kW prog .eql 84 t2 cx cy (.agg #[.int .u64 a0, .int .u64 a1]) (.agg #[.int .u64 b0, .int .u64 b1]) = some (.bool (decide (a0 = b0 ∧ a1 = b1))) := (c3X t2 cx cy a0 a1 b0 b1).1
theorem c3N (t2 : TypeId) (cx cy : Bool) (a0 : Int) (a1 : Int) (b0 : Int) (b1 : Int) : kW prog .neq 84 t2 cx cy (.agg #[.int .u64 a0, .int .u64 a1]) (.agg #[.int .u64 b0, .int .u64 b1]) = some (.bool (decide (¬ (a0 = b0 ∧ a1 = b1)))) := (c3X t2 cx cy a0 a1 b0 b1).2
theorem c0C (t2 : TypeId) (cx cy : Bool) (a0 : Int) (a1 : Int) (b0 : Int) (b1 : Int) : kW prog .eql 122 t2 cx cy (.agg #[.int .i64 a0, .int .i64 a1]) (.agg #[.int .i64 b0, .int .i64 b1]) = some (.bool (decide (a0 = b0 ∧ a1 = b1))) ∧ kW prog .neq 122 t2 cx cy (.agg #[.int .i64 a0, .int .i64 a1]) (.agg #[.int .i64 b0, .int .i64 b1]) = some (.bool (decide (¬ (a0 = b0 ∧ a1 = b1)))) := by
 have h := yB (P := prog) (t := 122) (t2 := t2) (cx := cx) (cy := cy) (xs := [.int .i64 a0, .int .i64 a1]) (ys := [.int .i64 b0, .int .i64 b1]) (by kernel_rfl) (by kernel_rfl) (by kernel_rfl) (by kernel_rfl) rfl (by kernel_rfl) rfl rfl
 have e : ((List.range [Value.int .i64 a0, .int .i64 a1].length).all fun j => eqC ([Value.int .i64 a0, .int .i64 a1].getD j undef) ([Value.int .i64 b0, .int .i64 b1].getD j undef)) = decide (a0 = b0 ∧ a1 = b1) := by
  show (eqC (Value.int .i64 a0) (.int .i64 b0) && (eqC (Value.int .i64 a1) (.int .i64 b1) && true)) = _
  rw [eF]
  simp [eqC]
 rw [e] at h
 exact ⟨h.1, by rw [h.2]; simp⟩
theorem c3q (t2 : TypeId) (cx cy : Bool) (a0 : Int) (a1 : Int) (b0 : Int) (b1 : Int) : kW prog .eql 122 t2 cx cy (.agg #[.int .i64 a0, .int .i64 a1]) (.agg #[.int .i64 b0, .int .i64 b1]) = some (.bool (decide (a0 = b0 ∧ a1 = b1))) := (c0C t2 cx cy a0 a1 b0 b1).1
theorem c1q (t2 : TypeId) (cx cy : Bool) (a0 : Int) (a1 : Int) (b0 : Int) (b1 : Int) : kW prog .neq 122 t2 cx cy (.agg #[.int .i64 a0, .int .i64 a1]) (.agg #[.int .i64 b0, .int .i64 b1]) = some (.bool (decide (¬ (a0 = b0 ∧ a1 = b1)))) := (c0C t2 cx cy a0 a1 b0 b1).2
theorem c0y (t2 : TypeId) (cx cy : Bool) (a0 : Int) (a1 : Int) (b0 : Int) (b1 : Int) : kW prog .eql 134 t2 cx cy (.agg #[.int .i64 a0, .int .i64 a1]) (.agg #[.int .i64 b0, .int .i64 b1]) = some (.bool (decide (a0 = b0 ∧ a1 = b1))) ∧ kW prog .neq 134 t2 cx cy (.agg #[.int .i64 a0, .int .i64 a1]) (.agg #[.int .i64 b0, .int .i64 b1]) = some (.bool (decide (¬ (a0 = b0 ∧ a1 = b1)))) := by
 have h := yB (P := prog) (t := 134) (t2 := t2) (cx := cx) (cy := cy) (xs := [.int .i64 a0, .int .i64 a1]) (ys := [.int .i64 b0, .int .i64 b1]) (by kernel_rfl) (by kernel_rfl) (by kernel_rfl) (by kernel_rfl) rfl (by kernel_rfl) rfl rfl
 have e : ((List.range [Value.int .i64 a0, .int .i64 a1].length).all fun j => eqC ([Value.int .i64 a0, .int .i64 a1].getD j undef) ([Value.int .i64 b0, .int .i64 b1].getD j undef)) = decide (a0 = b0 ∧ a1 = b1) := by
  show (eqC (Value.int .i64 a0) (.int .i64 b0) && (eqC (Value.int .i64 a1) (.int .i64 b1) && true)) = _
  rw [eF]
  simp [eqC]
 rw [e] at h
 exact ⟨h.1, by rw [h.2]; simp⟩
theorem c3h (t2 : TypeId) (cx cy : Bool) (a0 : Int) (a1 : Int) (b0 : Int) (b1 : Int) : kW prog .eql 134 t2 cx cy (.agg #[.int .i64 a0, .int .i64 a1]) (.agg #[.int .i64 b0, .int .i64 b1]) = some (.bool (decide (a0 = b0 ∧ a1 = b1))) := (c0y t2 cx cy a0 a1 b0 b1).1
theorem c3k (t2 : TypeId) (cx cy : Bool) (a0 : Int) (a1 : Int) (b0 : Int) (b1 : Int) : kW prog .neq 134 t2 cx cy (.agg #[.int .i64 a0, .int .i64 a1]) (.agg #[.int .i64 b0, .int .i64 b1]) = some (.bool (decide (¬ (a0 = b0 ∧ a1 = b1)))) := (c0y t2 cx cy a0 a1 b0 b1).2
theorem c1A {a1 : ByteArray} : kT prog 35 [(0, .string a1)] = some (.agg #[.string a1, .slice none 0 0, .slice none 0 0, .slice none 0 0]) := by kernel_rfl
theorem a5k {a1 : ByteArray} {a2 : Value} {a3 : Value} {a4 : Value} (h2 : a2.cells = #[a2] ∧ oneCell a2 = true ∧ pW a2 = true) (h3 : a3.cells = #[a3] ∧ oneCell a3 = true ∧ pW a3 = true) (h4 : a4.cells = #[a4] ∧ oneCell a4 = true ∧ pW a4 = true) : kT prog 35 [(0, .string a1), (1, a2), (2, a3), (3, a4)] = some (.agg #[.string a1, a2, a3, a4]) := by cases a2 <;> cases a3 <;> cases a4 <;> first | (exfalso; simp [oneCell] at h2; done) | (exfalso; simp [oneCell] at h3; done) | (exfalso; simp [oneCell] at h4; done) | kernel_rfl
theorem b5t {a1 : Value} {a2 : Int} (h1 : a1.cells = #[a1] ∧ oneCell a1 = true ∧ pW a1 = true) : kT prog 40 [(0, a1), (1, .int .u64 a2)] = some (.agg #[a1, .int .u64 a2, .int .u64 0]) := by cases a1 <;> first | (exfalso; simp [oneCell] at h1; done) | kernel_rfl
theorem b5s {a1 : Int} {a2 : Int} : kT prog 40 [(1, .int .u64 a1), (2, .int .u64 a2)] = some (.agg #[.slice none 0 0, .int .u64 a1, .int .u64 a2]) := by kernel_rfl
theorem c5U : kT prog 61 [] = some (.agg #[.int .i64 0, .int .i64 0]) := by kernel_rfl
theorem qX {a1 : Int} {a2 : Int} : kT prog 61 [(0, .int .i64 a1), (1, .int .i64 a2)] = some (.agg #[.int .i64 a1, .int .i64 a2]) := by kernel_rfl
theorem c3s {a1 : Int} : kT prog 61 [(1, .int .i64 a1)] = some (.agg #[.int .i64 0, .int .i64 a1]) := by kernel_rfl
theorem yA {a1 : Int} {a2 : Int} : kT prog 80 [(0, .int .i64 a1), (1, .int .i64 a2)] = some (.agg #[.int .i64 a1, .int .i64 a2]) := by kernel_rfl
theorem a5W {a1 : ByteArray} {a2 : ByteArray} {a3 : Int} {a4 : Int} {a5 : Int} : kT prog 82 [(0, .string a1), (1, .string a2), (2, .agg #[.int .i64 a3, .int .i64 a4]), (3, .int .i64 a5)] = some (.agg #[.string a1, .string a2, .int .i64 a3, .int .i64 a4, .int .i64 a5, .slice none 0 0]) := by kernel_rfl
theorem a2J {a1 : ByteArray} {a2 : ByteArray} {a3 : Int} {a4 : Int} {a5 : Int} {a6 : Value} (h6 : a6.cells = #[a6] ∧ oneCell a6 = true ∧ pW a6 = true) : kT prog 82 [(0, .string a1), (1, .string a2), (2, .agg #[.int .i64 a3, .int .i64 a4]), (3, .int .i64 a5), (4, a6)] = some (.agg #[.string a1, .string a2, .int .i64 a3, .int .i64 a4, .int .i64 a5, a6]) := by cases a6 <;> first | (exfalso; simp [oneCell] at h6; done) | kernel_rfl
theorem b4V : kT prog 84 [] = some (.agg #[.int .u64 0, .int .u64 0]) := by kernel_rfl
theorem b7h {a1 : Int} {a2 : Int} : kT prog 84 [(0, .int .u64 a1), (1, .int .u64 a2)] = some (.agg #[.int .u64 a1, .int .u64 a2]) := by kernel_rfl
theorem a6m {a1 : Int} {a2 : Int} : kT prog 96 [(0, .int .i64 a1), (1, .int .i64 a2)] = some (.agg #[.int .i64 a1, .int .i64 a2]) := by kernel_rfl
theorem a9o {a1 : ByteArray} {a2 : Bool} {a3 : Int} {a4 : Int} : kT prog 99 [(0, .string a1), (1, .bool a2), (2, .agg #[.int .i64 a3, .int .i64 a4])] = some (.agg #[.string a1, .bool a2, .int .i64 a3, .int .i64 a4, .slice none 0 0]) := by kernel_rfl
theorem a2F {a1 : ByteArray} {a2 : Int} {a3 : Int} {a4 : Value} (h4 : a4.cells = #[a4] ∧ oneCell a4 = true ∧ pW a4 = true) : kT prog 99 [(0, .string a1), (2, .agg #[.int .i64 a2, .int .i64 a3]), (3, a4)] = some (.agg #[.string a1, .bool false, .int .i64 a2, .int .i64 a3, a4]) := by cases a4 <;> first | (exfalso; simp [oneCell] at h4; done) | kernel_rfl
theorem b1Q {a1 : ByteArray} {a2 : Int} {a3 : Int} : kT prog 102 [(0, .string a1), (1, .agg #[.int .i64 a2, .int .i64 a3])] = some (.agg #[.string a1, .int .i64 a2, .int .i64 a3, .slice none 0 0]) := by kernel_rfl
theorem a6v {a1 : ByteArray} {a2 : Int} {a3 : Int} {a4 : Value} (h4 : a4.cells = #[a4] ∧ oneCell a4 = true ∧ pW a4 = true) : kT prog 102 [(0, .string a1), (1, .agg #[.int .i64 a2, .int .i64 a3]), (2, a4)] = some (.agg #[.string a1, .int .i64 a2, .int .i64 a3, a4]) := by cases a4 <;> first | (exfalso; simp [oneCell] at h4; done) | kernel_rfl
theorem a7G {a1 : ByteArray} {a2 : Int} {a3 : Int} : kT prog 109 [(0, .string a1), (1, .int .i64 a2), (2, .int .i64 a3)] = some (.agg #[.string a1, .int .i64 a2, .int .i64 a3, .int .i64 0, .bool false]) := by kernel_rfl
theorem a1k {a1 : ByteArray} {a2 : Int} {a3 : Int} {a4 : Int} {a5 : Bool} : kT prog 109 [(0, .string a1), (1, .int .i64 a2), (2, .int .i64 a3), (3, .int .i64 a4), (4, .bool a5)] = some (.agg #[.string a1, .int .i64 a2, .int .i64 a3, .int .i64 a4, .bool a5]) := by kernel_rfl
theorem b7c : kT prog 122 [] = some (.agg #[.int .i64 0, .int .i64 0]) := by kernel_rfl
theorem a4p {a1 : Int} {a2 : Int} : kT prog 122 [(0, .int .i64 a1), (1, .int .i64 a2)] = some (.agg #[.int .i64 a1, .int .i64 a2]) := by kernel_rfl
theorem qP {a1 : Int} {a2 : Int} : kT prog 134 [(0, .int .i64 a1), (1, .int .i64 a2)] = some (.agg #[.int .i64 a1, .int .i64 a2]) := by kernel_rfl
theorem c2X : kT prog 137 [] = some (.agg #[.int .i64 0, .int .i64 0, .slice none 0 0]) := by kernel_rfl
theorem lI {a1 : Int} {a2 : Int} {a3 : Value} (h3 : a3.cells = #[a3] ∧ oneCell a3 = true ∧ pW a3 = true) : kT prog 137 [(0, .int .i64 a1), (1, .int .i64 a2), (2, a3)] = some (.agg #[.int .i64 a1, .int .i64 a2, a3]) := by cases a3 <;> first | (exfalso; simp [oneCell] at h3; done) | kernel_rfl
theorem b2d {a1 : Value} {a2 : Int} {a3 : Int} (h1 : a1.cells = #[a1] ∧ oneCell a1 = true ∧ pW a1 = true) : kT prog 170 [(0, a1), (1, .agg #[.int .i64 a2, .int .i64 a3])] = some (.agg #[a1, .int .i64 a2, .int .i64 a3]) := by cases a1 <;> first | (exfalso; simp [oneCell] at h1; done) | kernel_rfl
theorem b3I {a1 : Int} {a2 : Int} : kT prog 249 [(0, .int .u64 a1), (1, .int .u64 a2)] = some (.agg #[.int .u64 a1, .int .u64 a2]) := by kernel_rfl
theorem tR3 (l : List Value) (H : Heap) : iC prog Tryz.f3 l H = some (get l 6) := rfl
theorem tR6 (l : List Value) (H : Heap) : iC prog Tryz.f6 l H = some (get l 0) := rfl
theorem tR7 (l : List Value) (H : Heap) : iC prog Tryz.f7 l H = some (get l 2) := rfl
theorem tR8 (l : List Value) (H : Heap) : iC prog Tryz.f8 l H = pT (jQ prog 35) (iE prog 35) H (get l 2) := by
 show (Option.bind (Option.bind (lN prog H 35 (get l 2)) fun v => some [v]) fun vs => _) = _
 rw [lE]
 cases pT _ _ H (get l 2) <;> rfl
theorem tR9 (l : List Value) (H : Heap) : iC prog Tryz.f9 l H = pT (jQ prog 40) (iE prog 40) H (get l 4) := by
 show (Option.bind (Option.bind (lN prog H 40 (get l 4)) fun v => some [v]) fun vs => _) = _
 rw [lE]
 cases pT _ _ H (get l 4) <;> rfl
theorem c6w (l : List Value) (H : Heap) : iC prog Tryz.f10 l H = some (get l 4) := rfl
theorem c7e (l : List Value) (H : Heap) : iC prog Tryz.f11 l H = some (get l 4) := rfl
theorem c4n (l : List Value) (H : Heap) : iC prog Tryz.f12 l H = if (jC (get l 6) && (jC (get l 7) && true)) = true then some (.tuple #[get l 6, get l 7]) else none := rfl
theorem c2L (l : List Value) (H : Heap) : iC prog Tryz.f13 l H = if (jC (get l 6) && (jC (get l 7) && (jC (get l 8) && true))) = true then some (.tuple #[get l 6, get l 7, get l 8]) else none := rfl
theorem c6O (l : List Value) (H : Heap) : iC prog Tryz.f14 l H = some (get l 6) := rfl
theorem c1E (l : List Value) (H : Heap) : iC prog Tryz.f15 l H = some (get l 4) := rfl
theorem b3R (l : List Value) (H : Heap) : iC prog Tryz.f16 l H = some (get l 4) := rfl
theorem c0m (l : List Value) (H : Heap) : iC prog Tryz.f17 l H = some (get l 4) := rfl
theorem c4b (l : List Value) (H : Heap) : iC prog Tryz.f18 l H = if (jC (get l 6) && (jC (get l 7) && true)) = true then some (.tuple #[get l 6, get l 7]) else none := rfl
theorem c4B (l : List Value) (H : Heap) : iC prog Tryz.f19 l H = if (jC (get l 6) && (jC (get l 7) && true)) = true then some (.tuple #[get l 6, get l 7]) else none := rfl
theorem c6b (l : List Value) (H : Heap) : iC prog Tryz.f21 l H = if (jC (get l 8) && (jC (get l 9) && true)) = true then some (.tuple #[get l 8, get l 9]) else none := rfl
theorem c4w (l : List Value) (H : Heap) : iC prog Tryz.f22 l H = if (jC (get l 6) && (jC (get l 7) && true)) = true then some (.tuple #[get l 6, get l 7]) else none := rfl
theorem a3y (l : List Value) (H : Heap) : iC prog Tryz.f26 l H = some (get l 2) := rfl
theorem c6G (l : List Value) (H : Heap) : iC prog Tryz.f27 l H = pT (jQ prog 35) (iE prog 35) H (get l 0) := by
 show (Option.bind (Option.bind (lN prog H 35 (get l 0)) fun v => some [v]) fun vs => _) = _
 rw [lE]
 cases pT _ _ H (get l 0) <;> rfl
theorem c7f (l : List Value) (H : Heap) : iC prog Tryz.f28 l H = some (get l 4) := rfl
theorem c6q (l : List Value) (H : Heap) : iC prog Tryz.f29 l H = (pT (jQ prog 84) (iE prog 84) H (get l 2)).bind fun v => if (jC v && (jC (get l 3) && true)) = true then some (.tuple #[v, get l 3]) else none := by
 show (Option.bind (Option.bind (lN prog H 84 (get l 2)) fun v => some [v, get l 3]) fun vs => _) = _
 rw [lE]
 cases pT _ _ H (get l 2) <;> rfl
theorem c7y (l : List Value) (H : Heap) : iC prog Tryz.f30 l H = pT (jQ prog 82) (iE prog 82) H (get l 4) := by
 show (Option.bind (Option.bind (lN prog H 82 (get l 4)) fun v => some [v]) fun vs => _) = _
 rw [lE]
 cases pT _ _ H (get l 4) <;> rfl
theorem a8F (l : List Value) (H : Heap) : iC prog Tryz.f31 l H = pT (jQ prog 102) (iE prog 102) H (get l 8) := by
 show (Option.bind (Option.bind (lN prog H 102 (get l 8)) fun v => some [v]) fun vs => _) = _
 rw [lE]
 cases pT _ _ H (get l 8) <;> rfl
theorem b7b (l : List Value) (H : Heap) : iC prog Tryz.f33 l H = some (get l 6) := rfl
theorem c6E (l : List Value) (H : Heap) : iC prog Tryz.f34 l H = some (get l 4) := rfl
theorem c6R (l : List Value) (H : Heap) : iC prog Tryz.f35 l H = some (get l 6) := rfl
theorem c7B (l : List Value) (H : Heap) : iC prog Tryz.f36 l H = (pT (jQ prog 84) (iE prog 84) H (get l 2)).bind fun v => if (jC v && (jC (get l 3) && true)) = true then some (.tuple #[v, get l 3]) else none := by
 show (Option.bind (Option.bind (lN prog H 84 (get l 2)) fun v => some [v, get l 3]) fun vs => _) = _
 rw [lE]
 cases pT _ _ H (get l 2) <;> rfl
theorem c7g (l : List Value) (H : Heap) : iC prog Tryz.f37 l H = some (get l 4) := rfl
theorem c5M (l : List Value) (H : Heap) : iC prog Tryz.f38 l H = if (jC (get l 6) && (jC (get l 7) && true)) = true then some (.tuple #[get l 6, get l 7]) else none := rfl
theorem c6Y (l : List Value) (H : Heap) : iC prog Tryz.f39 l H = some (get l 4) := rfl
theorem c3g (l : List Value) (H : Heap) : iC prog Tryz.f40 l H = if (jC (get l 8) && (jC (get l 9) && true)) = true then some (.tuple #[get l 8, get l 9]) else none := rfl
theorem c4f (l : List Value) (H : Heap) : iC prog Tryz.f41 l H = if (jC (get l 6) && (jC (get l 7) && true)) = true then some (.tuple #[get l 6, get l 7]) else none := rfl
theorem b3k (l : List Value) (H : Heap) : iC prog Tryz.f42 l H = some (get l 2) := rfl
theorem a9U (l : List Value) (H : Heap) : iC prog Tryz.f43 l H = some (get l 2) := rfl
theorem c3F (l : List Value) (H : Heap) : iC prog Tryz.f44 l H = some (get l 4) := rfl
theorem b4G (l : List Value) (H : Heap) : iC prog Tryz.f45 l H = some (get l 4) := rfl
theorem a0s (l : List Value) (H : Heap) : iC prog Tryz.f46 l H = some (get l 4) := rfl
theorem c7K (l : List Value) (H : Heap) : iC prog Tryz.f47 l H = some (get l 6) := rfl
theorem c6F (l : List Value) (H : Heap) : iC prog Tryz.f48 l H = pT (jQ prog 82) (iE prog 82) H (get l 2) := by
 show (Option.bind (Option.bind (lN prog H 82 (get l 2)) fun v => some [v]) fun vs => _) = _
 rw [lE]
 cases pT _ _ H (get l 2) <;> rfl
theorem c7t (l : List Value) (H : Heap) : iC prog Tryz.f49 l H = some (get l 2) := rfl
theorem c3z (l : List Value) (H : Heap) : iC prog Tryz.f50 l H = pT (jQ prog 84) (iE prog 84) H (get l 4) := by
 show (Option.bind (Option.bind (lN prog H 84 (get l 4)) fun v => some [v]) fun vs => _) = _
 rw [lE]
 cases pT _ _ H (get l 4) <;> rfl
theorem c7u (l : List Value) (H : Heap) : iC prog Tryz.f51 l H = pT (jQ prog 80) (iE prog 80) H (get l 2) := by
 show (Option.bind (Option.bind (lN prog H 80 (get l 2)) fun v => some [v]) fun vs => _) = _
 rw [lE]
 cases pT _ _ H (get l 2) <;> rfl
theorem c7q (l : List Value) (H : Heap) : iC prog Tryz.f52 l H = pT (jQ prog 80) (iE prog 80) H (get l 2) := by
 show (Option.bind (Option.bind (lN prog H 80 (get l 2)) fun v => some [v]) fun vs => _) = _
 rw [lE]
 cases pT _ _ H (get l 2) <;> rfl
theorem c7w (l : List Value) (H : Heap) : iC prog Tryz.f53 l H = if (jC (get l 4) && (jC (get l 5) && true)) = true then some (.tuple #[get l 4, get l 5]) else none := rfl
theorem c6x (l : List Value) (H : Heap) : iC prog Tryz.f56 l H = some (get l 6) := rfl
theorem c6W (l : List Value) (H : Heap) : iC prog Tryz.f57 l H = some (get l 6) := rfl
theorem c5E (l : List Value) (H : Heap) : iC prog Tryz.f59 l H = some (get l 4) := rfl
theorem c2U (l : List Value) (H : Heap) : iC prog Tryz.f60 l H = some (get l 2) := rfl
theorem b8Q (l : List Value) (H : Heap) : iC prog Tryz.f61 l H = some (get l 2) := rfl
theorem c6r (l : List Value) (H : Heap) : iC prog Tryz.f62 l H = pT (jQ prog 84) (iE prog 84) H (get l 4) := by
 show (Option.bind (Option.bind (lN prog H 84 (get l 4)) fun v => some [v]) fun vs => _) = _
 rw [lE]
 cases pT _ _ H (get l 4) <;> rfl
theorem c5y (l : List Value) (H : Heap) : iC prog Tryz.f63 l H = some (get l 6) := rfl
theorem c6o (l : List Value) (H : Heap) : iC prog Tryz.f64 l H = some (get l 6) := rfl
theorem c7c (l : List Value) (H : Heap) : iC prog Tryz.f65 l H = some (get l 2) := rfl
theorem b6X (l : List Value) (H : Heap) : iC prog Tryz.f66 l H = some (get l 4) := rfl
theorem c6D (l : List Value) (H : Heap) : iC prog Tryz.f67 l H = some (get l 4) := rfl
theorem c4H (l : List Value) (H : Heap) : iC prog Tryz.f68 l H = some (get l 2) := rfl
theorem c6f (l : List Value) (H : Heap) : iC prog Tryz.f69 l H = some (get l 6) := rfl
theorem b4K (l : List Value) (H : Heap) : iC prog Tryz.f70 l H = some (get l 2) := rfl
theorem b5q (l : List Value) (H : Heap) : iC prog Tryz.f71 l H = some (get l 2) := rfl
theorem c4c (l : List Value) (H : Heap) : iC prog Tryz.f72 l H = some (get l 2) := rfl
theorem c4A (l : List Value) (H : Heap) : iC prog Tryz.f73 l H = some (get l 2) := rfl
theorem a1o (l : List Value) (H : Heap) : iC prog Tryz.f74 l H = some (get l 4) := rfl
theorem c6v (l : List Value) (H : Heap) : iC prog Tryz.f75 l H = some (get l 4) := rfl
theorem c7x (l : List Value) (H : Heap) : iC prog Tryz.f76 l H = some (get l 3) := rfl
theorem c4y (l : List Value) (H : Heap) : iC prog Tryz.f77 l H = some (get l 4) := rfl
theorem c6t (l : List Value) (H : Heap) : iC prog Tryz.f78 l H = some (get l 4) := rfl
theorem c7k (l : List Value) (H : Heap) : iC prog Tryz.f79 l H = some (get l 4) := rfl
theorem c6p (l : List Value) (H : Heap) : iC prog Tryz.f80 l H = some (get l 6) := rfl
theorem c6L (l : List Value) (H : Heap) : iC prog Tryz.f81 l H = some (get l 4) := rfl
theorem c5L (l : List Value) (H : Heap) : iC prog Tryz.f83 l H = some (get l 4) := rfl
theorem c1D (l : List Value) (H : Heap) : iC prog Tryz.f86 l H = some (get l 4) := rfl
theorem c7j (l : List Value) (H : Heap) : iC prog Tryz.f87 l H = some (get l 6) := rfl
theorem c6B (l : List Value) (H : Heap) : iC prog Tryz.f88 l H = some (get l 6) := rfl
theorem c6A (l : List Value) (H : Heap) : iC prog Tryz.f89 l H = some (get l 2) := rfl
theorem c5G (l : List Value) (H : Heap) : iC prog Tryz.f90 l H = if (jC (get l 6) && (jC (get l 7) && true)) = true then some (.tuple #[get l 6, get l 7]) else none := rfl
theorem c7z (l : List Value) (H : Heap) : iC prog Tryz.f91 l H = some (get l 4) := rfl
theorem b2O (l : List Value) (H : Heap) : iC prog Tryz.f92 l H = some (get l 2) := rfl
theorem c7n (l : List Value) (H : Heap) : iC prog Tryz.f93 l H = some (get l 4) := rfl
theorem c5s (l : List Value) (H : Heap) : iC prog Tryz.f94 l H = some (get l 2) := rfl
theorem c3m (l : List Value) (H : Heap) : iC prog Tryz.f95 l H = some (get l 2) := rfl
theorem a8Y (l : List Value) (H : Heap) : iC prog Tryz.f96 l H = some (get l 4) := rfl
theorem c4G (l : List Value) (H : Heap) : iC prog Tryz.f97 l H = some (get l 4) := rfl
theorem c5i (l : List Value) (H : Heap) : iC prog Tryz.f102 l H = some (.tuple #[]) := rfl
theorem b1N (l : List Value) (H : Heap) : iC prog Tryz.f103 l H = some (get l 4) := rfl
theorem c0G (l : List Value) (H : Heap) : iC prog Tryz.f104 l H = some (get l 4) := rfl
theorem c6a (l : List Value) (H : Heap) : iC prog Tryz.f116 l H = some (get l 6) := rfl
theorem c0S (l : List Value) (H : Heap) : iC prog Tryz.f117 l H = some (.tuple #[]) := rfl
theorem c5x (l : List Value) (H : Heap) : iC prog Tryz.f118 l H = some (get l 4) := rfl
theorem b4I (l : List Value) (H : Heap) : iC prog Tryz.f119 l H = some (get l 2) := rfl
theorem c5Y (l : List Value) (H : Heap) : iC prog Tryz.f120 l H = some (get l 2) := rfl
theorem c5l (l : List Value) (H : Heap) : iC prog Tryz.f121 l H = some (get l 2) := rfl
theorem c0D (l : List Value) (H : Heap) : iC prog Tryz.f122 l H = some (get l 2) := rfl
theorem b6z (l : List Value) (H : Heap) : iC prog Tryz.f123 l H = some (get l 4) := rfl
theorem c3C (l : List Value) (H : Heap) : iC prog Tryz.f124 l H = some (get l 4) := rfl
theorem c0Q (l : List Value) (H : Heap) : iC prog Tryz.f125 l H = some (get l 2) := rfl
theorem c0w (l : List Value) (H : Heap) : iC prog Tryz.f126 l H = some (get l 4) := rfl
theorem c6e (l : List Value) (H : Heap) : iC prog Tryz.f127 l H = some (get l 4) := rfl
theorem c0U (l : List Value) (H : Heap) : iC prog Tryz.f150 l H = pT (jQ prog 137) (iE prog 137) H (get l 4) := by
 show (Option.bind (Option.bind (lN prog H 137 (get l 4)) fun v => some [v]) fun vs => _) = _
 rw [lE]
 cases pT _ _ H (get l 4) <;> rfl
theorem b0Q (l : List Value) (H : Heap) : iC prog Tryz.f151 l H = (pT (jQ prog 122) (iE prog 122) H (get l 6)).bind fun v => if (jC v && (jC (get l 7) && true)) = true then some (.tuple #[v, get l 7]) else none := by
 show (Option.bind (Option.bind (lN prog H 122 (get l 6)) fun v => some [v, get l 7]) fun vs => _) = _
 rw [lE]
 cases pT _ _ H (get l 6) <;> rfl
theorem c5B (l : List Value) (H : Heap) : iC prog Tryz.f152 l H = some (get l 2) := rfl
theorem c5p (l : List Value) (H : Heap) : iC prog Tryz.f153 l H = some (get l 4) := rfl
theorem c4Q (l : List Value) (H : Heap) : iC prog Tryz.f154 l H = some (.tuple #[]) := rfl
theorem c5X (l : List Value) (H : Heap) : iC prog Tryz.f155 l H = some (get l 2) := rfl
theorem c5F (l : List Value) (H : Heap) : iC prog Tryz.f156 l H = some (get l 2) := rfl
theorem c1b (l : List Value) (H : Heap) : iC prog Tryz.f157 l H = some (get l 4) := rfl
theorem c0I (l : List Value) (H : Heap) : iC prog Tryz.f173 l H = some (get l 4) := rfl
theorem c0x (l : List Value) (H : Heap) : iC prog Tryz.f174 l H = some (get l 3) := rfl
theorem c4D (l : List Value) (H : Heap) : iC prog Tryz.f175 l H = some (get l 4) := rfl
theorem a7y : MapK prog 128 Value.string (.bool false) := MapK.str (kt := 9) (et := 4) (by kernel_rfl) (by kernel_rfl) (by kernel_rfl) rfl
theorem a6l : MapK prog 211 (fun p : Int × Int => .agg #[I p.1, I p.2]) (.bool false) := MapK.struct (kt := 61) (et := 4) (fs := (a0N prog 61).toArray) (by kernel_rfl) (by kernel_rfl) (by kernel_rfl) rfl (fun b k => by cases b <;> kernel_rfl) (fun a b => c2r (by kernel_rfl) (by kernel_rfl) (by kernel_rfl) (fun _ _ _ _ => by kernel_rfl) a b) (fun k => c3l k)
theorem tt0 : jQ prog 3 = some false ∧ jQ prog 4 = some false ∧ iE prog 4 = some 1 ∧ jQ prog 5 = some false ∧ iE prog 5 = some 1 ∧ jQ prog 9 = some false ∧ iE prog 9 = some 1 ∧ jQ prog 22 = some false ∧ iE prog 22 = some 1 ∧ jQ prog 23 = some false ∧ iE prog 23 = some 1 ∧ jQ prog 24 = some false ∧ iE prog 24 = some 1 ∧ jQ prog 26 = some true ∧ jQ prog 27 = some true ∧ jQ prog 31 = some false ∧ jQ prog 32 = some false ∧ jQ prog 33 = some false ∧ jQ prog 35 = some true ∧ jQ prog 37 = some false ∧ jQ prog 38 = some false ∧ jQ prog 40 = some true ∧ jQ prog 43 = some false ∧ iE prog 43 = some 1 ∧ jQ prog 44 = some true ∧ jQ prog 46 = some false ∧ iE prog 46 = some 1 ∧ jQ prog 49 = some false ∧ jQ prog 61 = some true ∧ jQ prog 80 = some true ∧ jQ prog 82 = some true ∧ jQ prog 84 = some true ∧ jQ prog 87 = some false ∧ iE prog 87 = some 1 ∧ jQ prog 89 = some true ∧ jQ prog 91 = some false ∧ iE prog 91 = some 1 ∧ jQ prog 93 = some true ∧ jQ prog 96 = some true ∧ jQ prog 97 = some false := by and_intros <;> kernel_rfl
theorem tt1 : jQ prog 99 = some true ∧ jQ prog 100 = some false ∧ jQ prog 102 = some true ∧ jQ prog 105 = some true ∧ jQ prog 107 = some true ∧ jQ prog 109 = some true ∧ jQ prog 122 = some true ∧ jQ prog 134 = some true ∧ jQ prog 135 = some false ∧ iE prog 135 = some 1 ∧ jQ prog 137 = some true ∧ jQ prog 149 = some false ∧ jQ prog 170 = some true ∧ jQ prog 211 = some false ∧ iR prog 22 = some 9 ∧ iR prog 23 = some 4 ∧ iR prog 24 = some 4 ∧ iR prog 28 = some 3 ∧ iR prog 31 = some 6 ∧ iR prog 32 = some 5 ∧ iR prog 33 = some 5 ∧ iR prog 37 = some 1 ∧ iR prog 46 = some 2 ∧ iR prog 87 = some 4 ∧ iR prog 94 = some 1 ∧ iR prog 97 = some 4 ∧ iR prog 100 = some 3 ∧ iR prog 115 = some 2 ∧ iR prog 125 = some 1 ∧ iR prog 126 = some 2 ∧ iR prog 135 = some 2 ∧ iR prog 149 = some 2 ∧ iR prog 158 = some 3 ∧ iR prog 173 = some 2 ∧ lG prog 31 = true ∧ lG prog 32 = true ∧ lG prog 33 = true ∧ lG prog 37 = true ∧ lG prog 42 = true ∧ lG prog 46 = true := by and_intros <;> kernel_rfl
theorem tt2 : lG prog 49 = true ∧ lG prog 94 = true ∧ lG prog 97 = true ∧ lG prog 100 = true ∧ lG prog 115 = true ∧ lG prog 125 = true ∧ lG prog 126 = true ∧ lG prog 135 = true ∧ lG prog 149 = true ∧ lG prog 158 = true ∧ lG prog 173 = true ∧ iR prog 9 = none ∧ oO prog 9 = true ∧ iW prog 26 0 = some 0 ∧ iW prog 26 1 = some 1 ∧ iW prog 26 2 = some 2 ∧ iW prog 35 0 = some 0 ∧ iW prog 35 1 = some 1 ∧ iW prog 35 2 = some 2 ∧ iW prog 35 3 = some 3 ∧ iW prog 40 0 = some 0 ∧ iW prog 40 1 = some 1 ∧ iW prog 40 2 = some 2 ∧ iW prog 61 0 = some 0 ∧ iW prog 61 1 = some 1 ∧ iW prog 80 0 = some 0 ∧ iW prog 80 1 = some 1 ∧ iW prog 82 0 = some 0 ∧ iW prog 82 1 = some 1 ∧ iW prog 82 2 = some 2 ∧ iW prog 82 3 = some 4 ∧ iW prog 82 4 = some 5 ∧ iW prog 84 0 = some 0 ∧ iW prog 84 1 = some 1 ∧ iW prog 89 0 = some 0 ∧ iW prog 89 1 = some 1 ∧ iW prog 89 2 = some 2 ∧ iW prog 89 3 = some 3 ∧ iW prog 93 0 = some 0 ∧ iW prog 93 1 = some 1 := by and_intros <;> kernel_rfl
theorem tt3 : iW prog 93 2 = some 2 ∧ iW prog 93 3 = some 3 ∧ iW prog 93 4 = some 4 ∧ iW prog 96 0 = some 0 ∧ iW prog 96 1 = some 1 ∧ iW prog 99 0 = some 0 ∧ iW prog 99 2 = some 2 ∧ iW prog 99 3 = some 4 ∧ iW prog 102 0 = some 0 ∧ iW prog 102 1 = some 1 ∧ iW prog 102 2 = some 3 ∧ iW prog 105 0 = some 0 ∧ iW prog 105 1 = some 1 ∧ iW prog 105 2 = some 2 ∧ iW prog 105 3 = some 3 ∧ iW prog 107 0 = some 0 ∧ iW prog 107 1 = some 1 ∧ iW prog 107 2 = some 2 ∧ iW prog 107 3 = some 3 ∧ iW prog 109 0 = some 0 ∧ iW prog 109 1 = some 1 ∧ iW prog 109 2 = some 2 ∧ iW prog 109 3 = some 3 ∧ iW prog 109 4 = some 4 ∧ iW prog 122 0 = some 0 ∧ iW prog 122 1 = some 1 ∧ iW prog 134 0 = some 0 ∧ iW prog 134 1 = some 1 ∧ iW prog 137 0 = some 0 ∧ iW prog 137 1 = some 1 ∧ iW prog 137 2 = some 2 ∧ iW prog 170 0 = some 0 ∧ iW prog 170 1 = some 1 ∧ jA prog 35 = some (.agg #[.string ⟨#[]⟩, .slice none 0 0, .slice none 0 0, .slice none 0 0]) ∧ jP prog 35 = none ∧ jA prog 40 = some (.agg #[.slice none 0 0, .int .u64 0, .int .u64 0]) ∧ jP prog 40 = none ∧ jA prog 44 = some (.agg #[.int .u16 0, .int .u16 0, .int .u16 0]) ∧ jP prog 44 = some (3, 43) ∧ jA prog 61 = some (.agg #[.int .i64 0, .int .i64 0]) := by and_intros <;> kernel_rfl
theorem tt4 : jP prog 61 = none ∧ jA prog 80 = some (.agg #[.int .i64 0, .int .i64 0]) ∧ jP prog 80 = none ∧ jA prog 82 = some (.agg #[.string ⟨#[]⟩, .string ⟨#[]⟩, .int .i64 0, .int .i64 0, .int .i64 0, .slice none 0 0]) ∧ jP prog 82 = none ∧ jA prog 84 = some (.agg #[.int .u64 0, .int .u64 0]) ∧ jP prog 84 = none ∧ jA prog 89 = some (.agg #[.int .u8 0, .int .u8 0, .bool false, .slice none 0 0]) ∧ jP prog 89 = none ∧ jA prog 96 = some (.agg #[.int .i64 0, .int .i64 0]) ∧ jP prog 96 = none ∧ jA prog 99 = some (.agg #[.string ⟨#[]⟩, .bool false, .int .i64 0, .int .i64 0, .slice none 0 0]) ∧ jP prog 99 = none ∧ jA prog 102 = some (.agg #[.string ⟨#[]⟩, .int .i64 0, .int .i64 0, .slice none 0 0]) ∧ jP prog 102 = none ∧ jA prog 107 = some (.agg #[.int .u8 0, .int .u8 0, .int .i8 0, .bool false]) ∧ jP prog 107 = none ∧ jA prog 109 = some (.agg #[.string ⟨#[]⟩, .int .i64 0, .int .i64 0, .int .i64 0, .bool false]) ∧ jP prog 109 = none ∧ jA prog 122 = some (.agg #[.int .i64 0, .int .i64 0]) ∧ jP prog 122 = none ∧ jA prog 134 = some (.agg #[.int .i64 0, .int .i64 0]) ∧ jP prog 134 = none ∧ jA prog 137 = some (.agg #[.int .i64 0, .int .i64 0, .slice none 0 0]) ∧ jP prog 137 = none ∧ jA prog 149 = some (.slice none 0 0) ∧ jP prog 149 = none ∧ jA prog 211 = some (.map none) ∧ jP prog 211 = none ∧ a1q prog 3 = some .i64 ∧ a1q prog 5 = some .u8 ∧ a1q prog 38 = some .u64 ∧ a1q prog 91 = some .i8 ∧ a1q prog 110 = some .u64 := by and_intros <;> kernel_rfl
def TS := (And.intro (And.intro (And.intro (And.intro (And.intro @tt0 (And.intro @tt1 @tt2)) (And.intro @tt3 (And.intro @tt4 @tS3))) (And.intro (And.intro @b9j (And.intro @c3o @c3D)) (And.intro @c4o (And.intro @b9H @lO)))) (And.intro (And.intro (And.intro @c3B (And.intro @c2Y @nJ)) (And.intro @b9f (And.intro @b3e @lQ))) (And.intro (And.intro @a0b (And.intro @a1p @nZ)) (And.intro (And.intro @b8P @c2n) (And.intro @a1l @c4T))))) (And.intro (And.intro (And.intro (And.intro @yQ (And.intro @wO @oC)) (And.intro @b6S (And.intro @b1O @tS))) (And.intro (And.intro @mM (And.intro @wM @zK)) (And.intro @a1Q (And.intro @b1t @b5w)))) (And.intro (And.intro (And.intro @c1t (And.intro @c2Z @c6U)) (And.intro @c6J (And.intro @c4V @c3T))) (And.intro (And.intro @c4F (And.intro @c5r @c3N)) (And.intro (And.intro @c3q @c1q) (And.intro @c3h @c3k))))))
def RZ := And.intro @RB (And.intro @RC @TS)
end Go.Ds
