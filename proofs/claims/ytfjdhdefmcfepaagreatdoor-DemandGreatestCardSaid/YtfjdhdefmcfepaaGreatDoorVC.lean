/-
  A part of the proof of DemandGreatest.
-/
import Derived.Test.YtfjdhdefmcfepaaGreatDoorVA
import Derived.Test.YtfjdhdefmcfepaaGreatDoorVB
import Derived.Test.YtfjdhdefmcfepaaGreatDoorProg
import Derived.KernelRfl
import Derived.Lib.LaidTab
import Derived.Stop.LaidErr
import Derived.Laws.Strings
set_option linter.unusedVariables false
set_option linter.unusedSimpArgs false
set_option linter.defProp false
set_option linter.unusedSectionVars false
namespace Go.Ds
noncomputable section
inductive Pth where
 | z
 | l (p : Pth)
 | r (p : Pth)
inductive Fr where
 | e
 | n (v : Value) (l r : Fr)
def a5i : Nat → Nat → Pth := fun f => Nat.rec (motive := fun _ => Nat → Pth) (fun _ => .z) (fun _ ih k => Nat.rec (motive := fun _ => Pth) .z (fun k _ => Bool.rec (motive := fun _ => Pth) (.r (ih (Nat.div k 2))) (.l (ih (Nat.div k 2))) (Nat.beq (Nat.mod k 2) 0)) k) f
def kT (k : Nat) : Pth := a5i k k
def oK (p : Pth) : Fr → Value := Pth.rec (motive := fun _ => Fr → Value)
 (fun f => Fr.rec (motive := fun _ => Value) undef (fun v _ _ _ _ => v) f)
 (fun _ ih f => Fr.rec (motive := fun _ => Value) undef (fun _ l _ _ _ => ih l) f)
 (fun _ ih f => Fr.rec (motive := fun _ => Value) undef (fun _ _ r _ _ => ih r) f) p
def qF {α : Type} (v : Value) (p : Pth) : Fr → (Fr → α) → α := Pth.rec (motive := fun _ => Fr → (Fr → α) → α)
 (fun f K => Fr.rec (motive := fun _ => α) (K (.n v .e .e)) (fun _ l r _ _ => K (.n v l r)) f)
 (fun _ ih f K => Fr.rec (motive := fun _ => α) (ih .e fun l => K (.n undef l .e)) (fun w l r _ _ => ih l fun l => K (.n w l r)) f)
 (fun _ ih f K => Fr.rec (motive := fun _ => α) (ih .e fun r => K (.n undef .e r)) (fun w l r _ _ => ih r fun r => K (.n w l r)) f) p
def lR {α : Type} (p : Pth) : (Pth → α) → α := Pth.rec (motive := fun _ => (Pth → α) → α) (fun K => K .z) (fun _ ih K => ih fun p => K (.l p)) (fun _ ih K => ih fun p => K (.r p)) p
inductive LArg where
 | t (p : Pth)
 | c (v : Value)
def mP (f : Fr) (x : LArg) : Value := LArg.rec (motive := fun _ => Value) (fun p => oK p f) (fun v => v) x
inductive Rs where
 | no
 | ok (v : Value) (H : Heap)
 | th (v : Value) (H : Heap)
def oT {α : Type} (v : Value) (K : Value → α) : α :=
 match v with
 | .bool b => K (.bool b)
 | .int k n => K (.int k n)
 | .string s => K (.string s)
 | .pointer a => K (.pointer a)
 | .slice a n c => K (.slice a n c)
 | .map r => K (.map r)
 | .func fn a b => K (.func fn a b)
 | .agg cs => K (.agg cs)
 | .tuple vs => K (.tuple vs)
 | v => K v
inductive LOp where
 | bad
 | mv (x : LArg)
 | pick (c a b : LArg)
 | bin (g : IntKind → Int → Int → Option Value) (x y : LArg)
 | not (x : LArg)
 | ld1 (x : LArg)
 | ldn (n : Nat) (x : LArg)
 | st (n : Nat) (x y : LArg)
 | fa (off : Nat) (x : LArg)
 | ixs (size : Nat) (x i : LArg)
 | ixa (n size : Nat) (x i : LArg)
 | ext (i : Nat) (x : LArg)
 | f1 (off : Nat) (x : LArg)
 | fn (off n : Nat) (x : LArg)
 | len (x : LArg)
 | slen (x : LArg)
 | app (elem size bytes : Nat) (x y : LArg)
 | alloc (t : TypeId) (cs : List Value)
 | callF (f : FuncId) (p : Pth) (args : List LArg)
 | callV (g : LArg) (args : List LArg)
 | gen (o : Oper)
inductive LOps where
 | nil
 | cons (d : Option Pth) (o : LOp) (rest : LOps)
 | gcons (p : Pth) (w : Bool) (d : Option Pth) (o : LOp) (rest : LOps)
inductive LCode where
 | bad
 | skip
 | reg (ops : LOps)
 | drw (ops : LOps) (tab : List (Nat × Option Nat × Option (Pth × Bool) × LOp))
 | seq (a b : LCode)
 | cond (c : LArg) (x y : LCode)
 | block (id : Nat) (b : LCode)
 | loop (b : LCode)
 | exit (id : Nat)
 | ret
 | range (g : LArg) (ps : List Pth) (pp : List Pth) (params : Array Tmp) (assign body : Code) (a b : LCode)
inductive LRes where
 | t (p : Pth)
 | c1 (p : Pth)
 | cn (n : Nat) (p : Pth)
structure LFunc where
 ps : List Pth
 body : LCode
 res : List LRes
inductive LT where
 | e
 | n (g : Option LFunc) (l r : LT)
def a3j (p : Pth) : LT → Option LFunc := Pth.rec (motive := fun _ => LT → Option LFunc)
 (fun f => LT.rec (motive := fun _ => Option LFunc) none (fun v _ _ _ _ => v) f)
 (fun _ ih f => LT.rec (motive := fun _ => Option LFunc) none (fun _ l _ _ _ => ih l) f)
 (fun _ ih f => LT.rec (motive := fun _ => Option LFunc) none (fun _ _ r _ _ => ih r) f) p
def sN {α : Type} (v : LFunc) (p : Pth) : LT → (LT → α) → α := Pth.rec (motive := fun _ => LT → (LT → α) → α)
 (fun f K => LT.rec (motive := fun _ => α) (K (.n (some v) .e .e)) (fun _ l r _ _ => K (.n (some v) l r)) f)
 (fun _ ih f K => LT.rec (motive := fun _ => α) (ih .e fun l => K (.n none l .e)) (fun w l r _ _ => ih l fun l => K (.n w l r)) f)
 (fun _ ih f K => LT.rec (motive := fun _ => α) (ih .e fun r => K (.n none .e r)) (fun w l r _ _ => ih r fun r => K (.n w l r)) f) p
structure LEnv where
 L : Nat
 ps : List Pth
 pp : List Pth
 a : LCode
 b : LCode
def b9b (P : Program) (o : Oper) (ρ : Operand → Value) (H : Heap) : Option (Value × Heap) :=
 if o.op.operands.toList.all (fun x => flat (ρ x)) then
  match iN P (execOp ρ o) with
  | some (.value v) => if flat v then some (v, H) else none
  | _ => none
 else none
def c2B (P : Program) (o : Oper) (ρ : Operand → Value) (H : Heap) : Option (Value × Heap) :=
 let keep (v : Option Value) : Option (Value × Heap) := v.map fun v => (v, H)
 let plain : Option (Value × Heap) := b9b P o ρ H
 match o.op with
 | .move x | .assign x => some (ρ x, H)
 | .pick c a b => match ρ c with | .bool t => some (if t then ρ a else ρ b, H) | _ => none
 | .alloc t => (jA P t).bind fun z => if jB z then rH P H t z else none
 | .box t x => xQ P H t (ρ x)
 | .build t parts =>
   let ps := parts.toList.map fun (i, x) => (i, ρ x)
   if (jA P t).any jB && ps.all (fun x => x.2.cells.toList.all oneCell) then
    (P.built t ps).map fun cs => (.agg cs, H)
   else none
 | .buildSlice t len parts =>
   (iI P t).bind fun elem => (iE P elem).bind fun size => (jA P elem).bind fun z =>
   let ps := parts.toList.map fun (i, x) => (i, ρ x)
   if len == 0 && ps.isEmpty && size != 0 then some (.slice (some ⟨H.length, 0, some 0⟩) 0 size, sF H elem []) else
   if jB z && ps.all (fun x => x.2.cells.toList.all oneCell) && len * size ≤ 2 ^ 24 && len * size != 0 && z.cells.size == size then
    (Instr.fill (fun i => some (i * size, size)) ((Array.range (len * size)).map (z.cells[· % z.cells.size]!)) ps).map fun cs =>
      (.slice (some ⟨H.length, 0, some cs.toList.length⟩) len size, sF H elem cs.toList)
   else none
 | .makeSlice t n c =>
   (iI P t).bind fun elem => (iE P elem).bind fun size => (mW P elem).bind fun bytes => (jA P elem).bind fun z =>
   match ρ n, ρ c with
   | .int .i64 a, .int .i64 b =>
     if jB z && decide (a ≤ b) && 0 ≤ a && b * (bytes + 1) ≤ (oG : Int) && size != 0 && z.cells.size == size then
      let cs := if size = 1 then List.replicate b.toNat (z.cells[0]!) else (madeCells z.cells (b.toNat * size)).toList
      some (.slice (some ⟨H.length, 0, some cs.length⟩) a.toNat size, sF H elem cs)
     else none
   | _, _ => none
 | .load t a => keep (lQ P H t (ρ a))
 | .store t a x => (rM P H t (ρ a) (ρ x)).map fun H => (undef, H)
 | .nilCheck x => match ρ x with
   | .pointer (some a) => some (.pointer (some a), H)
   | .func (.func f) a b => some (.func (.func f) a b, H)
   | _ => none
 | .fieldAddr s x f => match ρ x with
   | .pointer (some ⟨A, i, some e⟩) => (oR P s f).bind fun fd => (iE P fd.type).bind fun n => if n == 0 then none else some (.pointer (some ⟨A, i + fd.offset, some e⟩), H)
   | _ => none
 | .indexAddr t x ix => match P.underlying t, ρ x, ρ ix with
   | some (.slice elem), .slice (some ⟨A, i, some e⟩) n _, .int _ j => (iE P elem).bind fun size =>
     if 0 ≤ j && j < n then some (.pointer (some ⟨A, i + j.toNat * size, some e⟩), H) else none
   | some (.array n elem), .pointer (some ⟨A, i, some e⟩), .int _ j => (iE P elem).bind fun size =>
     if 0 ≤ j && j < n then some (.pointer (some ⟨A, i + j.toNat * size, some e⟩), H) else none
   | some (.array n elem), .pointer (some ⟨A, i, none⟩), .int _ j => (iE P elem).bind fun size =>
     if 0 ≤ j && j < n then some (.pointer (some ⟨A, i + j.toNat * size, none⟩), H) else none
   | _, _, _ => none
 | .slice t x lo hi none => if flat (ρ x) then plain else match jT P t with
   | some (n, elem) => keep (a5J P H n elem (ρ x) (lo.map ρ) (hi.map ρ))
   | none => keep (xP P t (ρ x) (lo.map ρ) (hi.map ρ))
 | .field t x f => if flat (ρ x) then plain else
   match ρ x with
   | .agg cs => (oR P t f).bind fun fd => match jR P fd.type with
     | some true => (iE P fd.type).map fun n => (.agg (cs.extract fd.offset (fd.offset + n)), H)
     | some false => (cs[fd.offset]?).map fun v => (v, H)
     | none => none
   | _ => none
 | .extract t i => match ρ t with
   | .tuple vs => (vs[i]?).map fun v => (v, H)
   | _ => none
 | .makeFunc fn first captured => match fn with
   | .func f => if (first ++ captured).toList.all (fun x => pU (ρ x)) then some (.func (.func f) (first.map ρ) (captured.map ρ), H) else none
   | _ => none
 | .binOp op t x y _ => match op, ρ x, ρ y with
   | .eql, .slice (some _) _ _, .slice none 0 0 => if ((P.underlying t).map wK) == some true then some (.bool false, H) else none
   | .neq, .slice (some _) _ _, .slice none 0 0 => if ((P.underlying t).map wK) == some true then some (.bool true, H) else none
   | op, .int k a, .int k' b => if k = k' then (match mR op k a b with | some v => some (v, H) | none => plain) else plain
   | .eql, .pointer (some _), .pointer none => if uG P t then some (.bool false, H) else none
   | .neq, .pointer (some _), .pointer none => if uG P t then some (.bool true, H) else none
   | .eql, .pointer (some ⟨A, i, some e⟩), .pointer (some ⟨A', i', some e'⟩) => if uG P t && A == A' && i == i' && e == e' then some (.bool true, H) else none
   | .neq, .pointer (some ⟨A, i, some e⟩), .pointer (some ⟨A', i', some e'⟩) => if uG P t && A == A' && i == i' && e == e' then some (.bool false, H) else none
   | _, _, _ => plain
 | .call c => match c.callee with
   | .builtin .len => if c.args.size == 1 && c.argTypes.size == 1 then
      match (P.underlying (c.argTypes.getD 0 0)), ρ (c.args.getD 0 (.tmp 0)) with
      | some (.slice _), .slice a n k => keep (xU H (.slice a n k))
      | some .string, .string s => keep (xU H (.string s))
      | some (.map _ _), .map r => keep (xU H (.map r))
      | _, _ => none
     else none
   | .builtin .append => if c.args.size == 2 && c.argTypes.size == 2 && ((P.underlying (c.argTypes.getD 1 0)).map qD) == some true then
      nT P H (c.argTypes.getD 0 0) (ρ (c.args.getD 0 (.tmp 0))) (ρ (c.args.getD 1 (.tmp 0)))
     else none
   | .builtin .copy => if c.args.size == 2 && c.argTypes.size == 2 then a1e P H (c.argTypes.getD 0 0) (ρ (c.args.getD 0 (.tmp 0))) (ρ (c.args.getD 1 (.tmp 0))) else none
   | .builtin .clear => if c.args.size == 1 && c.argTypes.size == 1 then tJ P H (c.argTypes.getD 0 0) (ρ (c.args.getD 0 (.tmp 0))) else none
   | .builtin .cap => plain
   | .builtin .unsafeSliceData => if c.args.size == 1 && c.argTypes.size == 1 then match ρ (c.args.getD 0 (.tmp 0)) with
      | .slice (some a) n _ => if n == 0 then none else some (.pointer (some a), H)
      | _ => none
     else none
   | .builtin .unsafeString => if c.args.size == 2 && c.argTypes.size == 2 then wN P H (c.argTypes.getD 0 0) (ρ (c.args.getD 0 (.tmp 0))) (ρ (c.args.getD 1 (.tmp 0))) else none
   | .builtin .max => plain
   | .builtin .min => plain
   | _ => none
 | .unOp op _ x => match op, ρ x with
   | .not, .bool b => some (.bool (!b), H)
   | _, _ => plain
 | .makeMap t r => qC P H t (r.map ρ)
 | .lookup t x k c => keep (pS P H t (ρ x) (ρ k) c)
 | .mapUpdate t m k v => (a1B P H t (ρ m) (ρ k) (ρ v)).map fun H => (undef, H)
 | .mapEntry t m k => tG P H t (ρ m) (ρ k)
 | .entryStore _ m b v => (sJ H (ρ m) (ρ b) (ρ v)).map fun H => (undef, H)
 | .convert s t x => if flat (ρ x) && !(lF P t) then plain else match ρ x with
   | .slice (some ⟨A, i, some e⟩) n _ => if lF P s && oQ P t then keep ((jC H A i e n).bind fun l => (nO l).map .string) else none
   | .string b => if lF P t && oQ P s && b.size ≤ 2 ^ 40 then (iI P t).bind fun elem => some (.slice (some ⟨H.length, 0, some b.size⟩) b.size 1, b6h H elem (b.data.toList.map fun c => .int .u8 c.toNat)) else none
   | .pointer (some ⟨A, 0, some e⟩) => if a4G P H s t A e then some (.pointer (some ⟨A, 0, some e⟩), H) else none
   | _ => none
 | .index _ _ _ => plain
 | .makeInterface _ _ => plain
 | _ => none
def oJ {α : Type} (b : Bool) (no : α) (x : α) : α := Bool.rec (motive := fun _ => α) no x b
def a7w {α : Type} (cs : List α) : Nat → Bool := List.rec (motive := fun _ => Nat → Bool) (fun e => Nat.beq e 0) (fun _ _ ih e => Nat.rec (motive := fun _ => Bool) true (fun m _ => ih m) e) cs
def a4k {α : Type} (cs : List α) : Nat → Bool := List.rec (motive := fun _ => Nat → Bool) (fun e => Nat.beq e 0) (fun _ _ ih e => Nat.rec (motive := fun _ => Bool) false (fun m _ => ih m) e) cs
def a1x {α : Type} (cs : List α) : Nat → Option α := List.rec (motive := fun _ => Nat → Option α) (fun _ => none) (fun v _ ih e => Nat.rec (motive := fun _ => Option α) (some v) (fun m _ => ih m) e) cs
def a3u {α : Type} (cs : List α) : Nat → (List α → Rs) → Rs := List.rec (motive := fun _ => Nat → (List α → Rs) → Rs) (fun n K => Nat.rec (motive := fun _ => Rs) (K []) (fun _ _ => .no) n) (fun v _ ih n K => Nat.rec (motive := fun _ => Rs) (K []) (fun m _ => ih m fun l => K (v :: l)) n) cs
def b2s {α : Type} (cs : List α) : Nat → List α := List.rec (motive := fun _ => Nat → List α) (fun _ => []) (fun v t ih n => Nat.rec (motive := fun _ => List α) (v :: t) (fun m _ => ih m) n) cs
def kIx (k : IntKind) : Nat := IntKind.rec (motive := fun _ => Nat) 0 1 2 3 4 5 6 7 k
def hMv (x : LArg) (f : Fr) (H : Heap) : Rs := oT (mP f x) fun v => .ok v H
def b7V (c a b : LArg) (f : Fr) (H : Heap) : Rs := match mP f c with
 | .bool t => oT (mP f (Bool.rec (motive := fun _ => LArg) b a t)) fun v => .ok v H
 | _ => .no
def oV (v : Option Value) (H : Heap) : Rs := Option.rec (motive := fun _ => Rs) .no (fun v => .th v H) v
def c2b (g : IntKind → Int → Int → Option Value) (k : IntKind) (a : Int) (H : Heap) (y : Value) : Rs := match y with
 | .int k' b => oJ (Nat.beq (kIx k) (kIx k')) .no (oV (g k a b) H)
 | _ => .no
def c3i (g : IntKind → Int → Int → Option Value) (x y : LArg) (f : Fr) (H : Heap) : Rs := match mP f x with
 | .int k a => c2b g k a H (mP f y)
 | _ => .no
def c7K (x : LArg) (f : Fr) (H : Heap) : Rs := match mP f x with
 | .bool b => .ok (.bool (Bool.rec (motive := fun _ => Bool) true false b)) H
 | _ => .no
def b9T (b : Option Blk) (i e : Nat) (H : Heap) : Rs := match b with
 | some (.cells cs _ _ lo _) => oJ (Nat.ble lo e) .no (oJ (a7w cs e) .no (oJ (Nat.ble (Nat.succ i) e) .no (Option.rec (motive := fun _ => Rs) .no (fun v => oT v fun v => .ok v H) (a1x cs i))))
 | _ => .no
def c3Y (b : Option Blk) (i : Nat) (H : Heap) : Rs := match b with
 | some (.cells cs _ false lo 1) => oJ (a7w cs lo) .no (Option.rec (motive := fun _ => Rs) .no (fun v => oT v fun v => .ok v H) (a1x cs i))
 | _ => .no
def b2N (x : LArg) (f : Fr) (H : Heap) : Rs := match mP f x with
 | .pointer (some ⟨A, i, some e⟩) => b9T (iR H A) i e H
 | .pointer (some ⟨A, i, none⟩) => c3Y (iR H A) i H
 | _ => .no
def c0T (b : Option Blk) (n i e : Nat) (H : Heap) : Rs := match b with
 | some (.cells cs _ _ lo _) => oJ (Nat.ble lo e) .no (oJ (a7w cs e) .no (oJ (Nat.ble (Nat.add i n) e) .no (a3u (b2s cs i) n fun l => .ok (.agg ⟨l⟩) H)))
 | _ => .no
def b4t (n : Nat) (x : LArg) (f : Fr) (H : Heap) : Rs := match mP f x with
 | .pointer (some ⟨A, i, some e⟩) => c0T (iR H A) n i e H
 | _ => .no
def stB (b : Option Blk) (n A i e : Nat) (vs : List Value) (H : Heap) : Rs := match b with
 | some (.cells cs ty true lo ver) => oJ (a4k vs n) .no (oJ (vs.all oneCell) .no (oJ (a4k cs e) .no (oJ (Nat.ble (Nat.add i n) e) .no (oJ (Nat.ble lo e) .no
    (.th undef (hset H A (.cells (iX cs i vs) ty true e ver)))))))
 | _ => .no
def hSt (n : Nat) (x y : LArg) (f : Fr) (H : Heap) : Rs := match mP f x with
 | .pointer (some ⟨A, i, some e⟩) => stB (iR H A) n A i e (mP f y).cells.toList H
 | _ => .no
def hFa (off : Nat) (x : LArg) (f : Fr) (H : Heap) : Rs := match mP f x with
 | .pointer (some ⟨A, i, some e⟩) => kE (Nat.add i off) fun i => .ok (.pointer (some ⟨A, i, some e⟩)) H
 | _ => .no
def ixP (A i e size n : Nat) (H : Heap) (j : Value) : Rs := match j with
 | .int _ (.ofNat j) => oJ (Nat.blt j n) .no (kE (Nat.add i (Nat.mul j size)) fun i => .ok (.pointer (some ⟨A, i, some e⟩)) H)
 | _ => .no
def c2x (size : Nat) (x i : LArg) (f : Fr) (H : Heap) : Rs := match mP f x with
 | .slice (some ⟨A, a, some e⟩) n _ => ixP A a e size n H (mP f i)
 | _ => .no
def ixG (A i size n : Nat) (H : Heap) (j : Value) : Rs := match j with
 | .int _ (.ofNat j) => oJ (Nat.blt j n) .no (kE (Nat.add i (Nat.mul j size)) fun i => .ok (.pointer (some ⟨A, i, none⟩)) H)
 | _ => .no
def c3W (n size : Nat) (x i : LArg) (f : Fr) (H : Heap) : Rs := match mP f x with
 | .pointer (some ⟨A, a, some e⟩) => ixP A a e size n H (mP f i)
 | .pointer (some ⟨A, a, none⟩) => ixG A a size n H (mP f i)
 | _ => .no
def okV (v : Option Value) (H : Heap) : Rs := Option.rec (motive := fun _ => Rs) .no (fun v => oT v fun v => .ok v H) v
def c3G (i : Nat) (x : LArg) (f : Fr) (H : Heap) : Rs := match mP f x with
 | .tuple ⟨vs⟩ => okV (a1x vs i) H
 | _ => .no
def hF1 (off : Nat) (x : LArg) (f : Fr) (H : Heap) : Rs := match mP f x with
 | .agg ⟨cs⟩ => okV (a1x cs off) H
 | _ => .no
def hFn (off n : Nat) (x : LArg) (f : Fr) (H : Heap) : Rs := match mP f x with
 | .agg ⟨cs⟩ => a3u (b2s cs off) n fun l => .ok (.agg ⟨l⟩) H
 | _ => .no
def c2c (x : LArg) (f : Fr) (H : Heap) : Rs := match mP f x with
 | .slice _ n _ => .th (goInt n) H
 | _ => .no
def b5L (x : LArg) (f : Fr) (H : Heap) : Rs := match mP f x with
 | .string s => .th (goInt s.size) H
 | _ => .no
def c4M (b : Option Blk) (elem size bytes A i e k : Nat) (n : Nat) (l : List Value) (P : Program) (H : Heap) : Rs := match b with
 | some (.cells cs ty true lo ver) => oJ (Bool.rec (motive := fun _ => Bool) (iE P ty == some size) true (Nat.beq ty elem)) .no (oJ (a4k cs e) .no (oJ (Nat.ble lo e) .no
    (oJ (Nat.beq (Nat.add i (Nat.mul k size)) e)
      (oJ (Nat.beq n 0) (oJ (Nat.ble (Nat.add i (Nat.mul (Nat.add k n) size)) e) .no (.th (.slice (some ⟨A, i, some e⟩) (k + n) size) (hset H A (.cells (iX cs (i + k * size) l) ty true e ver)))) .no)
      (oJ (Nat.ble (Nat.mul (Nat.add k n) (Nat.succ bytes)) oG) .no (.th (.slice (some ⟨A, i, some (e + l.length)⟩) (k + n) size) (hset H A (.cells (a5U cs l) ty true lo (Bool.rec (motive := fun _ => Nat) 2 ver (Nat.beq ty elem)))))))))
 | _ => .no
def c4W (P : Program) (elem size bytes : Nat) (s : Value) (H : Heap) (n : Nat) (l : List Value) : Rs := match s with
 | .slice none k c => oJ (Nat.beq k 0) .no (oJ (Nat.beq c 0) .no (oJ (Nat.ble (Nat.mul n (Nat.succ bytes)) oG) .no (oJ (Nat.beq n 0) (.th (.slice (some ⟨H.length, 0, some l.length⟩) n size) (sF H elem l)) (.ok (.slice none 0 0) H))))
 | .slice (some ⟨A, i, some e⟩) k _ => c4M (iR H A) elem size bytes A i e k n l P H
 | _ => .no
def c3t (P : Program) (elem size bytes : Nat) (x y : LArg) (f : Fr) (H : Heap) : Rs := match a0l H size (mP f y) with
 | some (n, l) => c4W P elem size bytes (mP f x) H n l
 | none => .no
def c2f (t : TypeId) (cs : List Value) (_ : Fr) (H : Heap) : Rs := .th (.pointer (some ⟨H.length, 0, some cs.length⟩)) (sF H t cs)
def evF (f : Fr) : Operand → Value
 | .tmp t => oK (kT t) f
 | .const v => v
 | .global g => .pointer (some ⟨g, 0, none⟩)
 | .func k => .func (.func k) #[] #[]
def c7n (P : Program) (o : Oper) (f : Fr) (H : Heap) : Rs := match c2B P o (evF f) H with
 | some (v, H1) => .th v H1
 | none => .no
def a4B {α : Type} (f : Fr) (l : List LArg) : (List Value → α) → α := List.rec (motive := fun _ => (List Value → α) → α) (fun K => K []) (fun x _ ih K => oT (mP f x) fun v => ih fun l => K (v :: l)) l
structure Calls' where
 fn : Pth → FuncId → List Value → Heap → Rs
 rd : Nat → List Value → Heap → Rs
def c4e (C : Calls') (k : FuncId) (p : Pth) (args : List LArg) (f : Fr) (H : Heap) : Rs := a4B f args fun l => C.fn p k l H
def b0n (C : Calls') (l : List Value) (H : Heap) (g : Value) : Rs := match g with
 | .func (.func k) ⟨a⟩ ⟨b⟩ => kE k fun k => lR (kT k) fun p => C.fn p k (a5U a (a5U l b)) H
 | .func (.yield L) _ _ => C.rd L l H
 | _ => .no
def c2Q (C : Calls') (g : LArg) (args : List LArg) (f : Fr) (H : Heap) : Rs := a4B f args fun l => b0n C l H (mP f g)
def c7m (_ : Fr) (_ : Heap) : Rs := .no
def opF (P : Program) (C : Calls') (o : LOp) : Fr → Heap → Rs :=
 LOp.rec (motive := fun _ => Fr → Heap → Rs) c7m hMv b7V c3i c7K b2N b4t hSt hFa c2x c3W c3G hF1 hFn c2c b5L (c3t P) c2f (c4e C) (c2Q C) (c7n P) o
inductive Rf where
 | no
 | ok (f : Fr) (H : Heap)
def vZ {α : Type} (d : Option Pth) (v : Value) (f : Fr) (K : Fr → α) : α := Option.rec (motive := fun _ => α) (K f) (fun p => qF v p f K) d
def b1D {α : Type} (no : α) (d : Option Pth) (f : Fr) (K : Fr → Heap → α) (r : Rs) : α :=
 Rs.rec (motive := fun _ => α) no (fun v H => vZ d v f fun f => K f H) (fun v H => yN v fun v => nX H fun H => vZ d v f fun f => K f H) r
def isB (v : Value) (w : Bool) : Bool := match v with
 | .bool b => Bool.rec (motive := fun _ => Bool) (Bool.rec (motive := fun _ => Bool) true false w) w b
 | _ => false
def yZ (P : Program) (C : Calls') (ops : LOps) : Fr → Heap → Rf := LOps.rec (motive := fun _ => Fr → Heap → Rf)
 (fun f H => .ok f H)
 (fun d o _ ih f H => b1D .no d f ih (opF P C o f H))
 (fun p w d o _ ih f H => oJ (isB (oK p f) w) (vZ d undef f fun f => ih f H) (b1D .no d f ih (opF P C o f H))) ops
inductive Rt where
 | no
 | ok (tr : List (Fr × Heap × Value)) (f : Fr) (H : Heap)
def b2m (tr : List (Fr × Heap × Value)) (f0 : Fr) (H0 : Heap) (d : Option Pth) (K : List (Fr × Heap × Value) → Fr → Heap → Rt) (r : Rs) : Rt :=
 Rs.rec (motive := fun _ => Rt) .no (fun v H => vZ d v f0 fun f => K ((f0, H0, v) :: tr) f H) (fun v H => yN v fun v => nX H fun H => vZ d v f0 fun f => K ((f0, H0, v) :: tr) f H) r
def rW (P : Program) (C : Calls') (ops : LOps) : List (Fr × Heap × Value) → Fr → Heap → Rt := LOps.rec (motive := fun _ => List (Fr × Heap × Value) → Fr → Heap → Rt)
 (fun tr f H => .ok tr f H)
 (fun d o _ ih tr f H => b2m tr f H d ih (opF P C o f H))
 (fun p w d o _ ih tr f H => oJ (isB (oK p f) w) (vZ d undef f fun f1 => ih ((f, H, undef) :: tr) f1 H) (b2m tr f H d ih (opF P C o f H))) ops
def b8X (v : Value) (r : Rs) : Bool := Rs.rec (motive := fun _ => Bool) false (fun w _ => veq w v) (fun w _ => veq w v) r
def b7a (f : Fr) (g : Option (Pth × Bool)) : Bool := match g with
 | none => true
 | some (p, w) => isB (oK p f) w
def b4K (P : Program) (C : Calls') (tr : List (Fr × Heap × Value)) (H1 : Heap) (x : Nat × Option Nat × Option (Pth × Bool) × LOp) : Bool :=
 match a1x tr x.1 with
 | some (f, _, v) => oJ (b7a f x.2.2.1) true (match x.2.1 with
   | none => b8X v (opF P C x.2.2.2 f H1)
   | some m => match a1x tr m with
     | some (_, H, _) => b8X v (opF P C x.2.2.2 f H)
     | none => false)
 | none => false
def b4O {α : Type} (p : α → Bool) (l : List α) : Bool := List.rec (motive := fun _ => Bool) true (fun x _ ih => oJ (p x) false ih) l
inductive Rc where
 | no
 | ok (e : Ex) (f : Fr) (H : Heap)
def c6f (r : Rf) : Rc := Rf.rec (motive := fun _ => Rc) .no (fun f H => .ok .normal f H) r
def c1O (P : Program) (C : Calls') (tab : List (Nat × Option Nat × Option (Pth × Bool) × LOp)) (r : Rt) : Rc := Rt.rec (motive := fun _ => Rc) .no (fun tr f H => oJ (b4O (b4K P C tr H) tab) .no (.ok .normal f H)) r
def pJ {α : Type} (no : α) (l : List Value) : List Pth → Fr → (Fr → α) → α := List.rec (motive := fun _ => List Pth → Fr → (Fr → α) → α) (fun _ f K => K f)
 (fun v _ ih ps f K => List.rec (motive := fun _ => α) no (fun p ps _ => qF v p f fun f => ih ps f K) ps) l
def a4h (H : Heap) (f : Fr) (r : LRes) : Rs := LRes.rec (motive := fun _ => Rs) (fun p => oT (oK p f) fun v => .ok v H) (fun p => b2N (.t p) f H) (fun n p => b4t n (.t p) f H) r
def b4L (H : Heap) (f : Fr) (l : List LRes) : (List Value → Rs) → Rs := List.rec (motive := fun _ => (List Value → Rs) → Rs) (fun K => K []) (fun r _ ih K => Rs.rec (motive := fun _ => Rs) .no (fun v _ => ih fun l => K (v :: l)) (fun _ _ => .no) (a4h H f r)) l
def noT (v : Value) : Bool := match v with | .tuple _ => false | _ => true
def a7r (l : List LRes) (f : Fr) (H : Heap) : Rs := match l with
 | [r] => a4h H f r
 | l => b4L H f l fun vs => oJ (b4O noT vs) .no (.ok (.tuple ⟨vs⟩) H)
def c2V (l : List LRes) (r : Rc) : Rs := match r with
 | .ok .normal f H => a7r l f H
 | .ok .ret f H => a7r l f H
 | _ => .no
abbrev qQ := List LEnv → LCode → Fr → Heap → Rc
def c3j (P : Program) (k : FuncId) (args : List Value) (H : Heap) : Rs := match qI P k args H with
 | some (v, H1) => .th v H1
 | none => .no
def nA (T : LT) (ih : qQ) (E : List LEnv) (p : Pth) (args : List Value) (H : Heap) : Rs := match a3j p T with
 | some g => pJ .no args g.ps .e fun f => c2V g.res (ih E g.body f H)
 | none => .no
def b5P (P : Program) (T : LT) (ih : qQ) (E : List LEnv) (p : Pth) (k : FuncId) (args : List Value) (H : Heap) : Rs := match a3j p T with
 | some g => pJ .no args g.ps .e fun f => c2V g.res (ih E g.body f H)
 | none => c3j P k args H
def b5l (E : List LEnv) (L : Nat) : Option LEnv := List.rec (motive := fun _ => Option LEnv) none (fun e _ ih => oJ (Nat.beq e.L L) ih (some e)) E
def c1E (e : Ex) : Option Code := match e with | .normal => none | .ret => some .ret | .exit id => some (.exit id)
def a3z (L : Nat) (e : Ex) (H : Heap) : Rs := match iR H L with
 | some (.loop ⟨_, _, fn, tmps, ps, a, b, d⟩) => match c1E e with
   | none => .th (.bool true) (hset H L (.loop ⟨.ready, none, fn, tmps, ps, a, b, d⟩))
   | some c => .th (.bool false) (hset H L (.loop ⟨.done, some c, fn, tmps, ps, a, b, d⟩))
 | _ => .no
def b3s (L : Nat) (r : Rc) : Rs := match r with
 | .ok e _ H => a3z L e H
 | .no => .no
def a0j (ih : qQ) (E : List LEnv) (en : LEnv) (f : Fr) (H : Heap) : Rs := match iR H en.L with
 | some (.loop ⟨.ready, p, fn, tmps, ps, a, b, d⟩) => nX (hset H en.L (.loop ⟨.busy, p, fn, tmps, ps, a, b, d⟩)) fun H => b3s en.L (ih E en.b f H)
 | _ => .no
def uE (ih : qQ) (E : List LEnv) (en : LEnv) (r : Rc) : Rs := match r with
 | .ok .normal f H => a0j ih E en f H
 | _ => .no
def a9s (ih : qQ) (E : List LEnv) (L : Nat) (args : List Value) (H : Heap) : Rs := match b5l E L with
 | some en => match iR H L with
   | some (.loop ⟨.ready, _, _, ⟨tmps⟩, ps, _, _, _⟩) => oJ (a4k args ps.size) .no (pJ .no tmps en.ps .e fun f => pJ .no args en.pp f fun f => uE ih E en (ih E en.a f H))
   | _ => .no
 | none => .no
def a0N (P : Program) (T : LT) (ih : qQ) (E : List LEnv) : Calls' := ⟨b5P P T ih E, a9s ih E⟩
def c7b (_ : Fr) (_ : Heap) : Rc := .no
def c5V (f : Fr) (H : Heap) : Rc := .ok .normal f H
def c7V (P : Program) (T : LT) (ih : qQ) (E : List LEnv) (ops : LOps) (f : Fr) (H : Heap) : Rc := c6f (yZ P (a0N P T ih E) ops f H)
def c8b (P : Program) (T : LT) (ih : qQ) (E : List LEnv) (ops : LOps) (tab : List (Nat × Option Nat × Option (Pth × Bool) × LOp)) (f : Fr) (H : Heap) : Rc := c1O P (a0N P T ih E) tab (rW P (a0N P T ih E) ops [] f H)
def b8Y (ih : qQ) (E : List LEnv) (b : LCode) (r : Rc) : Rc := match r with
 | .ok .normal f H => ih E b f H
 | r => r
def c7c (ih : qQ) (E : List LEnv) (a b : LCode) (_ _ : Fr → Heap → Rc) (f : Fr) (H : Heap) : Rc := b8Y ih E b (ih E a f H)
def b6Z (ih : qQ) (E : List LEnv) (c : LArg) (x y : LCode) (_ _ : Fr → Heap → Rc) (f : Fr) (H : Heap) : Rc := match mP f c with
 | .bool t => ih E (Bool.rec (motive := fun _ => LCode) y x t) f H
 | _ => .no
def c5w (id : Nat) (r : Rc) : Rc := match r with
 | .ok (.exit i) f H => .ok (Bool.rec (motive := fun _ => Ex) (.exit i) .normal (Nat.beq i id)) f H
 | r => r
def c2S (ih : qQ) (E : List LEnv) (id : Nat) (b : LCode) (_ : Fr → Heap → Rc) (f : Fr) (H : Heap) : Rc := c5w id (ih E b f H)
def c4Y (ih : qQ) (E : List LEnv) (b : LCode) (_ : Fr → Heap → Rc) (f : Fr) (H : Heap) : Rc := b8Y ih E (.loop b) (ih E b f H)
def c5i (id : Nat) (f : Fr) (H : Heap) : Rc := .ok (.exit id) f H
def c8f (f : Fr) (H : Heap) : Rc := .ok .ret f H
def frL {α : Type} (f : Fr) (ps : List Pth) : (List Value → α) → α := List.rec (motive := fun _ => (List Value → α) → α) (fun K => K []) (fun p _ ih K => oT (oK p f) fun v => ih fun l => K (v :: l)) ps
def wB (L : Nat) (f : Fr) (H : Heap) : Rc := match iR H L with
 | some (.loop ⟨.ready, none, fn, tmps, ps, a, b, d⟩) => nX (hset H L (.loop ⟨.exhausted, none, fn, tmps, ps, a, b, d⟩)) fun H => .ok .normal f H
 | some (.loop ⟨.done, none, fn, tmps, ps, a, b, d⟩) => nX (hset H L (.loop ⟨.exhausted, none, fn, tmps, ps, a, b, d⟩)) fun H => .ok .normal f H
 | some (.loop ⟨.done, some .ret, fn, tmps, ps, a, b, d⟩) => nX (hset H L (.loop ⟨.exhausted, some .ret, fn, tmps, ps, a, b, d⟩)) fun H => .ok .ret f H
 | some (.loop ⟨.done, some (.exit id), fn, tmps, ps, a, b, d⟩) => nX (hset H L (.loop ⟨.exhausted, some (.exit id), fn, tmps, ps, a, b, d⟩)) fun H => .ok (.exit id) f H
 | _ => .no
def b3F (L : Nat) (f : Fr) (r : Rs) : Rc := match r with
 | .no => .no
 | .ok _ H => wB L f H
 | .th _ H => nX H fun H => wB L f H
def b1R (T : LT) (ih : qQ) (E : List LEnv) (f : Fr) (L : Nat) (k : FuncId) (args : List Value) (H : Heap) : Rc := lR (kT k) fun p => b3F L f (nA T ih E p args H)
def b0X (T : LT) (ih : qQ) (E : List LEnv) (g : LArg) (ps pp : List Pth) (params : Array Tmp) (assign body : Code) (a b : LCode) (_ _ : Fr → Heap → Rc) (f : Fr) (H : Heap) : Rc := match mP f g with
 | .func (.func k) ⟨x⟩ ⟨y⟩ => kE H.length fun L => frL f ps fun l => nX (H.cons (.loop ⟨.ready, none, 0, ⟨l⟩, params, assign, body, 0⟩)) fun H1 =>
    kE k fun k => b1R T ih (⟨L, ps, pp, a, b⟩ :: E) f L k (a5U x (.func (.yield L) #[] #[] :: y)) H1
 | _ => .no
def b2o (P : Program) (T : LT) (ih : qQ) (E : List LEnv) (c : LCode) : Fr → Heap → Rc :=
 LCode.rec (motive := fun _ => Fr → Heap → Rc) c7b c5V (c7V P T ih E) (c8b P T ih E) (c7c ih E) (b6Z ih E) (c2S ih E) (c4Y ih E) c5i c8f (b0X T ih E) c
def exF (P : Program) (T : LT) (n : Nat) : qQ := Nat.rec (motive := fun _ => qQ) (fun _ _ _ _ => .no) (fun _ ih => b2o P T ih) n
section
variable {α : Type}
def lV (x : Operand) (K : LArg → α) : α := match x with
 | .tmp t => lR (kT t) fun p => K (.t p)
 | .const v => K (.c v)
 | .global g => K (.c (.pointer (some ⟨g, 0, none⟩)))
 | .func k => K (.c (.func (.func k) #[] #[]))
def a5o (l : List Operand) : (List LArg → α) → α := List.rec (motive := fun _ => (List LArg → α) → α) (fun K => K []) (fun x _ ih K => lV x fun x => ih fun l => K (x :: l)) l
def a3L (o : Option Nat) (d : α) (K : Nat → α) : α := match o with
 | some n => kE n K
 | none => d
def c7u (k : IntKind) (a b : Int) : Option Value := some (.int k (xE k (b9J a b)))
def c8d (k : IntKind) (a b : Int) : Option Value := some (.int k (xE k (b9R a b)))
def c5I (a b : Int) : Int := match a, b with
 | .ofNat a, .ofNat b => .ofNat (Nat.mul a b)
 | a, b => a * b
def c5v (k : IntKind) (a b : Int) : Option Value := some (.int k (xE k (c5I a b)))
def c4R (a b : Int) : Int := match a, b with
 | .ofNat a, .ofNat b => .ofNat (Nat.div a b)
 | a, b => a.tdiv b
def c4L (a b : Int) : Int := match a, b with
 | .ofNat a, .ofNat b => .ofNat (Nat.mod a b)
 | a, b => a.tmod b
def b9D (k : IntKind) (a b : Int) : Option Value := match eqI b 0 with | true => none | false => some (.int k (xE k (c4R a b)))
def c0D (k : IntKind) (a b : Int) : Option Value := match eqI b 0 with | true => none | false => some (.int k (c4L a b))
def c8e (_ : IntKind) (a b : Int) : Option Value := some (.bool (eqI a b))
def c8o (_ : IntKind) (a b : Int) : Option Value := some (.bool (!eqI a b))
def c7Z (_ : IntKind) (a b : Int) : Option Value := some (.bool (ltI a b))
def c8i (_ : IntKind) (a b : Int) : Option Value := some (.bool (!ltI b a))
def c7h (_ : IntKind) (a b : Int) : Option Value := some (.bool (ltI b a))
def c8h (_ : IntKind) (a b : Int) : Option Value := some (.bool (!ltI a b))
def c0F (op : BinOp) : Option (IntKind → Int → Int → Option Value) := match op with
 | .add => some c7u
 | .sub => some c8d
 | .mul => some c5v
 | .quo => some b9D
 | .rem => some c0D
 | .eql => some c8e
 | .neq => some c8o
 | .lss => some c7Z
 | .leq => some c8i
 | .gtr => some c7h
 | .geq => some c8h
 | _ => none
def c3I (d : Option TypeDesc) : Bool := match d with | some (.int _) => true | _ => false
def c8D (P : Program) (s : TypeId) (f : Nat) (d : α) (K1 : Nat → α) (Kn : Nat → Nat → α) : α := match oR P s f with
 | some fd => kE fd.offset fun off => match jR P fd.type with
   | some true => a3L (iE P fd.type) d fun n => Kn off n
   | some false => K1 off
   | none => d
 | none => d
def b4W (P : Program) (o : Oper) (c : Call) (K : LOp → α) : α := match c.callee with
 | .value (.func k) => lR (kT k) fun p => a5o c.args.toList fun l => K (.callF k p l)
 | .value g => lV g fun g => a5o c.args.toList fun l => K (.callV g l)
 | .builtin .len => oJ (c.args.size == 1 && c.argTypes.size == 1) (K (.gen o)) (match P.underlying (c.argTypes.getD 0 0) with
    | some (.slice _) => lV (c.args.getD 0 (.tmp 0)) fun x => K (.len x)
    | some .string => lV (c.args.getD 0 (.tmp 0)) fun x => K (.slen x)
    | _ => K (.gen o))
 | .builtin .append => oJ (c.args.size == 2 && c.argTypes.size == 2 && ((P.underlying (c.argTypes.getD 1 0)).map qD) == some true) (K (.gen o))
    (match iI P (c.argTypes.getD 0 0) with
     | some elem => a3L (iE P elem) (K (.gen o)) fun size => a3L (mW P elem) (K (.gen o)) fun bytes => match jA P elem with
       | some z => oJ (z.cells.size == size && size != 0) (K (.gen o)) (kE elem fun elem => lV (c.args.getD 0 (.tmp 0)) fun x => lV (c.args.getD 1 (.tmp 0)) fun y => K (.app elem size bytes x y))
       | none => K (.gen o)
     | none => K (.gen o))
 | _ => K (.gen o)
def c5c (P : Program) (o : Oper) (K : LOp → α) : α := match o.op with
 | .move x => lV x fun x => K (.mv x)
 | .assign x => lV x fun x => K (.mv x)
 | .pick c a b => lV c fun c => lV a fun a => lV b fun b => K (.pick c a b)
 | .binOp op t x y _ => oJ (c3I (P.underlying t)) (K (.gen o)) (match c0F op with
   | some g => lV x fun x => lV y fun y => K (.bin g x y)
   | none => K (.gen o))
 | .load t x => match jR P t with
   | some true => a3L (iE P t) (K (.gen o)) fun n => lV x fun x => K (.ldn n x)
   | some false => lV x fun x => K (.ld1 x)
   | none => K (.gen o)
 | .store t x y => a3L (iE P t) (K (.gen o)) fun n => lV x fun x => lV y fun y => K (.st n x y)
 | .fieldAddr s x f => match oR P s f with
   | some fd => match iE P fd.type with
     | some 0 => K (.gen o)
     | some _ => kE fd.offset fun off => lV x fun x => K (.fa off x)
     | none => K (.gen o)
   | none => K (.gen o)
 | .indexAddr t x i => match P.underlying t with
   | some (.slice elem) => a3L (iE P elem) (K (.gen o)) fun size => lV x fun x => lV i fun i => K (.ixs size x i)
   | some (.array n elem) => a3L (iE P elem) (K (.gen o)) fun size => lV x fun x => lV i fun i => K (.ixa n size x i)
   | _ => K (.gen o)
 | .extract t i => kE i fun i => lV t fun t => K (.ext i t)
 | .call c => b4W P o c K
 | _ => K (.gen o)
def yL (P : Program) (o : Oper) (K : LOp → α) : α := oJ (o.op.operands.toList.all iP) (K .bad) (c5c P o K)
def a8f (k : Nat) (d : Option Tmp) (no : α) (K : Option Pth → α) : α := match d with
 | none => K none
 | some t => oJ (Nat.blt t k) no (lR (kT t) fun p => K (some p))
def vS (P : Program) (k : Nat) (ops : Array Oper) (l : List Oper) : (LOps → α) → α → α := List.rec (motive := fun _ => (LOps → α) → α → α) (fun K _ => K .nil)
 (fun o _ ih K no => a8f k o.dst no fun d => yL P o fun o' => match o.guard with
   | none => ih (fun r => K (.cons d o' r)) no
   | some (j, w) => match (ops[j]?).bind (·.dst) with
     | some t => oJ (Nat.blt t k) no (lR (kT t) fun p => a0k w fun w => ih (fun r => K (.gcons p w d o' r)) no)
     | none => no) l
def loG (k : Nat) (ops : Array Oper) (g : Option (Nat × Bool)) (no : α) (K : Option (Pth × Bool) → α) : α := match g with
 | none => K none
 | some (j, w) => match (ops[j]?).bind (·.dst) with
   | some t => oJ (Nat.blt t k) no (lR (kT t) fun p => a0k w fun w => K (some (p, w)))
   | none => no
def uO (P : Program) (k : Nat) (ops : Array Oper) (N : Nat) (tab : List (Nat × Nat)) : (List (Nat × Option Nat × Option (Pth × Bool) × LOp) → α) → α → α := List.rec (motive := fun _ => (List (Nat × Option Nat × Option (Pth × Bool) × LOp) → α) → α → α) (fun K _ => K [])
 (fun x _ ih K no => match ops[x.1]? with
   | some o => loG k ops o.guard no fun g => yL P o fun o' => kE (N - 1 - x.1) fun i => oJ (Nat.blt x.2 N) (ih (fun l => K ((i, none, g, o') :: l)) no) (kE (N - 1 - x.2) fun m => ih (fun l => K ((i, some m, g, o') :: l)) no)
   | none => no) tab
def b5d (k : Nat) : (List Pth → α) → α := Nat.rec (motive := fun _ => (List Pth → α) → α) (fun K => K []) (fun n ih K => lR (kT n) fun p => ih fun l => K (p :: l)) k
def c3u {β : Type} (l : List β) : List β → (List β → α) → α := List.rec (motive := fun _ => List β → (List β → α) → α) (fun a K => K a) (fun x _ ih a K => ih (x :: a) K) l
def b4d (k : Nat) (K : List Pth → α) : α := b5d k fun l => c3u l [] K
def yG (k : Nat) (l : List Tmp) : (List Pth → α) → α → α := List.rec (motive := fun _ => (List Pth → α) → α → α) (fun K _ => K []) (fun t _ ih K no => oJ (Nat.blt t k) no (lR (kT t) fun p => ih (fun l => K (p :: l)) no)) l
def nK (P : Program) (k : Nat) (c : Code) : (LCode → α) → α := Code.rec (motive := fun _ => (LCode → α) → α)
 (fun K => K .skip)
 (fun _ ops d K => Bool.rec (motive := fun _ => α) (vS P k ops ops.toList (fun l => K (.reg l)) (K .bad))
   (match nE P ops with
     | some [] => vS P k ops ops.toList (fun l => K (.reg l)) (K .bad)
     | some tab => vS P k ops ops.toList (fun l => uO P k ops ops.size tab (fun t => K (.drw l t)) (K .bad)) (K .bad)
     | none => K .bad) d)
 (fun _ _ iha ihb K => iha fun a => ihb fun b => K (.seq a b))
 (fun c _ _ ihx ihy K => oJ (iP c) (K .bad) (lV c fun c => ihx fun x => ihy fun y => K (.cond c x y)))
 (fun id _ ih K => kE id fun id => ih fun b => K (.block id b))
 (fun _ ih K => ih fun b => K (.loop b))
 (fun g ps assign body iha ihb K => oJ (iP g) (K .bad) (lV g fun g' => b4d k fun pp => yG k ps.toList (fun q => iha fun a => ihb fun b => K (.range g' pp q ps assign body a b)) (K .bad)))
 (fun id K => kE id fun id => K (.exit id))
 (fun _ _ K => K .bad)
 (fun _ K => K .skip)
 (fun _ K => K .bad)
 (fun K => K .ret)
 (fun _ K => K .bad) c
def a1h (P : Program) (l : List ResultVar) : (List LRes → α) → α → α := List.rec (motive := fun _ => (List LRes → α) → α → α) (fun K _ => K [])
 (fun r _ ih K no => match r with
   | .tmp t => lR (kT t) fun p => ih (fun l => K (.t p :: l)) no
   | .cell a t => match jR P t with
     | some true => a3L (iE P t) no fun n => lR (kT a) fun p => ih (fun l => K (.cn n p :: l)) no
     | some false => lR (kT a) fun p => ih (fun l => K (.c1 p :: l)) no
     | none => no) l
def a2M (P : Program) (f : FuncId) (no : α) (K : LFunc → α) : α := match P.funcs[f]? with
 | some fn => match fn.body with
   | some c => oJ (fn.name == "runtime.NumGoroutine") (a1h P fn.results.toList (fun res => b4d fn.ntmps fun ps => nK P fn.ntmps c fun b => K ⟨ps, b, res⟩) no) no
   | none => no
 | none => no
def uM (P : Program) (fs : List FuncId) : LT → (LT → α) → α := List.rec (motive := fun _ => LT → (LT → α) → α) (fun T K => K T)
 (fun f _ ih T K => a2M P f (ih T K) fun g => lR (kT f) fun p => sN g p T fun T => ih T K) fs
end
end
end Go.Ds
namespace Go.Ds
section
variable {α : Type}
theorem wI (f k : Nat) : a5i (f + 1) (k + 1) = if k % 2 = 0 then .l (a5i f (k / 2)) else .r (a5i f (k / 2)) := by
 show Bool.rec (motive := fun _ => Pth) (.r (a5i f (k / 2))) (.l (a5i f (k / 2))) (Nat.beq (k % 2) 0) = _
 by_cases h : k % 2 = 0
 ·rw [if_pos h, h]; rfl
 ·rw [if_neg h]
  have : Nat.beq (k % 2) 0 = false := fS.2 fun e => h (dX e)
  rw [this]
theorem a4Q (f : Nat) : a5i f 0 = .z := by cases f <;> rfl
theorem a2B : ∀ (f g a b : Nat), a ≤ f → b ≤ g → a5i f a = a5i g b → a = b
 | _, _, 0, 0, _, _, _ => rfl
 | 0, _, a + 1, _, h, _, _ => by omega
 | _, 0, _, b + 1, _, h, _ => by omega
 | f, g + 1, 0, b + 1, _, _, h => by
   rw [a4Q, wI] at h
   split at h <;> cases h
 | f + 1, g, a + 1, 0, _, _, h => by
   rw [a4Q, wI] at h
   split at h <;> cases h
 | f + 1, g + 1, a + 1, b + 1, ha, hb, h => by
   rw [wI, wI] at h
   by_cases h1 : a % 2 = 0
   ·rw [if_pos h1] at h
    by_cases h2 : b % 2 = 0
    ·rw [if_pos h2] at h
     injection h with h
     have := a2B f g (a / 2) (b / 2) (by omega) (by omega) h
     omega
    ·rw [if_neg h2] at h; cases h
   ·rw [if_neg h1] at h
    by_cases h2 : b % 2 = 0
    ·rw [if_pos h2] at h; cases h
    ·rw [if_neg h2] at h
     injection h with h
     have := a2B f g (a / 2) (b / 2) (by omega) (by omega) h
     omega
theorem b1S {a b : Nat} (h : kT a = kT b) : a = b := a2B _ _ _ _ (di _) (di _) h
theorem lN (p : Pth) (K : Pth → α) : lR p K = K p := by
 induction p generalizing K with
 | z => rfl
 | l p ih => exact ih _
 | r p ih => exact ih _
theorem mV (v : Value) (K : Value → α) : oT v K = K v := by cases v <;> rfl
theorem tP (v : Value) (p : Pth) (f : Fr) (K : Fr → α) : qF v p f K = K (qF v p f fun f => f) := by
 induction p generalizing f α with
 | z => cases f <;> rfl
 | l p ih =>
   cases f with
   | e =>
     show qF v p .e (fun l => K (.n undef l .e)) = K (qF v p .e fun l => .n undef l .e)
     rw [ih, ih (K := fun l => Fr.n undef l .e)]
   | n w l r =>
     show qF v p l (fun l => K (.n w l r)) = K (qF v p l fun l => .n w l r)
     rw [ih, ih (K := fun l => Fr.n w l r)]
 | r p ih =>
   cases f with
   | e =>
     show qF v p .e (fun l => K (.n undef .e l)) = K (qF v p .e fun l => .n undef .e l)
     rw [ih, ih (K := fun l => Fr.n undef .e l)]
   | n w l r =>
     show qF v p r (fun r => K (.n w l r)) = K (qF v p r fun r => .n w l r)
     rw [ih, ih (K := fun r => Fr.n w l r)]
theorem vN (p : Pth) : oK p .e = undef := by
 cases p <;> rfl
theorem b3u (v : Value) (p q : Pth) (f : Fr) : (q = p → oK q (qF v p f fun f => f) = v) ∧ (q ≠ p → oK q (qF v p f fun f => f) = oK q f) := by
 induction p generalizing f q with
 | z =>
   refine ⟨fun h => ?_, fun h => ?_⟩
   ·subst h; cases f <;> rfl
   ·cases q with
    | z => exact absurd rfl h
    | l q =>
      cases f with
      | e => show oK q .e = undef; exact vN q
      | n => rfl
    | r q =>
      cases f with
      | e => show oK q .e = undef; exact vN q
      | n => rfl
 | l p ih =>
   have h1 : ∀ f, qF v (.l p) f (fun f => f) = match f with | .e => .n undef (qF v p .e fun f => f) .e | .n w l r => .n w (qF v p l fun f => f) r := fun f => by
    cases f with
    | e => exact tP v p .e fun l => Fr.n undef l .e
    | n w l r => exact tP v p l fun l => Fr.n w l r
   rw [h1]
   cases q with
   | z => exact ⟨fun h => (nomatch h), fun _ => by cases f <;> rfl⟩
   | r q =>
     refine ⟨fun h => (nomatch h), fun _ => ?_⟩
     cases f with
     | e => show oK q .e = undef; exact vN q
     | n => rfl
   | l q =>
     refine ⟨fun h => ?_, fun h => ?_⟩
     ·injection h with h
      cases f with
      | e => exact (ih q .e).1 h
      | n w l r => exact (ih q l).1 h
     ·have h : q ≠ p := fun e => h (by rw [e])
      cases f with
      | e => show oK q (qF v p .e fun f => f) = undef; rw [(ih q .e).2 h, vN]
      | n w l r => exact (ih q l).2 h
 | r p ih =>
   have h1 : ∀ f, qF v (.r p) f (fun f => f) = match f with | .e => .n undef .e (qF v p .e fun f => f) | .n w l r => .n w l (qF v p r fun f => f) := fun f => by
    cases f with
    | e => exact tP v p .e fun l => Fr.n undef .e l
    | n w l r => exact tP v p r fun r => Fr.n w l r
   rw [h1]
   cases q with
   | z => exact ⟨fun h => (nomatch h), fun _ => by cases f <;> rfl⟩
   | l q =>
     refine ⟨fun h => (nomatch h), fun _ => ?_⟩
     cases f with
     | e => show oK q .e = undef; exact vN q
     | n => rfl
   | r q =>
     refine ⟨fun h => ?_, fun h => ?_⟩
     ·injection h with h
      cases f with
      | e => exact (ih q .e).1 h
      | n w l r => exact (ih q r).1 h
     ·have h : q ≠ p := fun e => h (by rw [e])
      cases f with
      | e => show oK q (qF v p .e fun f => f) = undef; rw [(ih q .e).2 h, vN]
      | n w l r => exact (ih q r).2 h
def FAg (f : Fr) (l : List Value) : Prop := ∀ t, oK (kT t) f = get l t
def FRel (k : Nat) (f : Fr) (l : List Value) : Prop := l.length = k ∧ FAg f l
noncomputable def b7n (f : Fr) (t : Tmp) (v : Value) : Fr := qF v (kT t) f fun f => f
theorem a4Z (f : Fr) (t u : Tmp) (v : Value) : oK (kT u) (b7n f t v) = if u = t then v else oK (kT u) f := by
 have h := b3u v (kT t) (kT u) f
 by_cases he : u = t
 ·rw [if_pos he]; exact h.1 (by rw [he])
 ·rw [if_neg he]; exact h.2 (fun e => he (b1S e))
theorem FRel.put {k : Nat} {f : Fr} {l : List Value} (h : FRel k f l) {t : Tmp} (ht : t < k) (v : Value) : FRel k (b7n f t v) (Go.Ds.put l (some t) v) := by
 refine ⟨by simp [Go.Ds.put, nI, h.1], fun u => ?_⟩
 rw [a4Z, b1B]
 by_cases he : u = t
 ·subst he; rw [if_pos rfl, if_pos ⟨rfl, by rw [h.1]; exact ht⟩]
 ·rw [if_neg he, if_neg (fun hh => he (cV hh.1).symm)]; exact h.2 u
theorem FRel.set {k : Nat} {f : Fr} {l : List Value} (h : FRel k f l) {t : Tmp} (ht : t < k) (v : Value) : FRel k (b7n f t v) (l.set t v) := by
 have := h.put ht v
 simpa [Go.Ds.put, nI] using this
def Rs.Is (r : Rs) (v : Value) (H : Heap) : Prop := r = .ok v H ∨ r = .th v H
theorem Rs.ar {v : Value} {H : Heap} : ¬ Rs.no.Is v H := by rintro (h | h) <;> cases h
theorem Rs.aN {v w : Value} {H H1 : Heap} (h : (Rs.ok v H).Is w H1) : w = v ∧ H1 = H := by
 rcases h with h | h
 ·injection h with a b; exact ⟨a.symm, b.symm⟩
 ·cases h
theorem Rs.aQ {v w : Value} {H H1 : Heap} (h : (Rs.th v H).Is w H1) : w = v ∧ H1 = H := by
 rcases h with h | h
 ·cases h
 ·injection h with a b; exact ⟨a.symm, b.symm⟩
theorem kS (b : Bool) (no x : α) : oJ b no x = if b = true then x else no := by cases b <;> rfl
theorem lJ {b : Bool} {x : Rs} {v : Value} {H : Heap} (h : (oJ b Rs.no x).Is v H) : b = true ∧ x.Is v H := by
 cases b with
 | false => exact absurd h Rs.ar
 | true => exact ⟨rfl, h⟩
theorem zD {β : Type} : ∀ (cs : List β) (e : Nat), a7w cs e = decide (e ≤ cs.length)
 | [], 0 => rfl
 | [], e + 1 => by simp; rfl
 | _ :: _, 0 => rfl
 | _ :: cs, e + 1 => by show a7w cs e = _; rw [zD cs e]; simp
theorem a0d {β : Type} : ∀ (cs : List β) (e : Nat), a4k cs e = decide (e = cs.length)
 | [], 0 => rfl
 | [], e + 1 => by simp; rfl
 | _ :: _, 0 => by simp; rfl
 | _ :: cs, e + 1 => by show a4k cs e = _; rw [a0d cs e]; simp
theorem zY {β : Type} : ∀ (cs : List β) (e : Nat), a1x cs e = cs[e]?
 | [], _ => rfl
 | _ :: _, 0 => rfl
 | _ :: cs, e + 1 => by show a1x cs e = _; rw [zY cs e]; simp
theorem a6x {β : Type} : ∀ (cs : List β) (e : Nat), b2s cs e = cs.drop e
 | [], e => by cases e <;> rfl
 | _ :: _, 0 => rfl
 | _ :: cs, e + 1 => by show b2s cs e = _; rw [a6x cs e]; rfl
theorem a8P {β : Type} : ∀ {cs : List β} {n : Nat} {K : List β → Rs} {v : Value} {H : Heap}, (a3u cs n K).Is v H → n ≤ cs.length ∧ (K (cs.take n)).Is v H
 | [], 0, K, v, H, h => ⟨di _, h⟩
 | [], n + 1, K, v, H, h => absurd h Rs.ar
 | _ :: _, 0, K, v, H, h => ⟨eV _, h⟩
 | c :: cs, n + 1, K, v, H, h => by
   have h' : (a3u cs n fun l => K (c :: l)).Is v H := h
   obtain ⟨h1, h2⟩ := a8P h'
   exact ⟨by simp; omega, h2⟩
theorem b8J {a b : IntKind} (h : Nat.beq (kIx a) (kIx b) = true) : a = b := by
 cases a <;> cases b <;> first | rfl | (exact absurd h (by decide))
theorem b6Y (k : Nat) (K : List Pth → α) : b5d k K = K ((List.range k).map kT).reverse := by
 induction k generalizing K with
 | zero => rfl
 | succ n ih =>
   show lR (kT n) (fun p => b5d n fun l => K (p :: l)) = _
   rw [lN, ih, dY]
   simp
theorem c0O {β : Type} (l : List β) : ∀ (a : List β) (K : List β → α), c3u l a K = K (l.reverse ++ a) := by
 induction l with
 | nil => intro a K; rfl
 | cons x l ih => intro a K; show c3u l (x :: a) K = _; rw [ih]; simp
theorem b1O (k : Nat) (K : List Pth → α) : b4d k K = K ((List.range k).map kT) := by
 unfold b4d; rw [b6Y, c0O]; simp
theorem pG (n : Nat) (d : α) (K : Nat → α) : a3L (some n) d K = K n := kB n K
def LK (H H' : Heap) : Prop := H.length ≤ H'.length ∧ ∀ A r', A < H.length → iR H' A = some (.loop r') →
 ∃ r, iR H A = some (.loop r) ∧ r'.assign = r.assign ∧ r'.body = r.body ∧ r'.params = r.params ∧ r'.tmps = r.tmps
theorem LK.refl (H : Heap) : LK H H := ⟨di _, fun _ r _ h => ⟨r, h, rfl, rfl, rfl, rfl⟩⟩
theorem LK.trans {H H1 H2 : Heap} (h : LK H H1) (k : LK H1 H2) : LK H H2 := ⟨dC h.1 k.1, fun A r' hA hr => by
 obtain ⟨r1, h1, a1, b1, c1, d1⟩ := k.2 A r' (dM hA h.1) hr
 obtain ⟨r, h2, a2, b2, c2, d2⟩ := h.2 A r1 hA h1
 exact ⟨r, h2, a1.trans a2, b1.trans b2, c1.trans c2, d1.trans d2⟩⟩
def Blk.cb : Blk → Bool
 | .loop _ => true
 | _ => false
theorem LK.hset (H : Heap) (A : Nat) {b : Blk} (hb : b.cb = false) : LK H (hset H A b) := by
 refine ⟨by rw [jQ]; exact di _, fun B r' hB h => ?_⟩
 by_cases he : A = B
 ·subst he; rw [iS _ hB] at h; injection h with h; subst h; cases hb
 ·rw [iZ _ he] at h; exact ⟨r', h, rfl, rfl, rfl, rfl⟩
theorem LK.cons (H : Heap) (b : Blk) : LK H (H.cons b) := by
 refine ⟨by rw [length_cons]; omega, fun B r' hB h => ?_⟩
 rw [jO b hB] at h; exact ⟨r', h, rfl, rfl, rfl, rfl⟩
theorem LK.row (H : Heap) (ty : TypeId) (cs : List Value) : LK H (sF H ty cs) := by rw [lG]; exact .cons _ _
theorem LK.loop {H : Heap} {L : Nat} {r r' : Loop} (h : iR H L = some (.loop r)) (e : r'.assign = r.assign ∧ r'.body = r.body ∧ r'.params = r.params ∧ r'.tmps = r.tmps) : LK H (Go.Ds.hset H L (.loop r')) := by
 refine ⟨by rw [jQ]; exact di _, fun B r2 hB hg => ?_⟩
 by_cases he : L = B
 ·subst he; rw [iS _ hB] at hg; injection hg with hg; injection hg with hg; subst hg; exact ⟨r, h, e⟩
 ·rw [iZ _ he] at hg; exact ⟨r2, hg, rfl, rfl, rfl, rfl⟩
variable {P : Program}
theorem a6w {H H' : Heap} {t : TypeId} {p v : Value} (h : rM P H t p v = some H') : LK H H' := by
 unfold rM at h
 split at h
 ·split at h
  ·dsimp only at h
   split at h
   ·injection h with h; subst h; exact .hset _ _ rfl
   ·cases h
  ·cases h
 ·cases h
theorem a5b {H H' : Heap} {t : TypeId} {v r : Value} (h : xQ P H t v = some (r, H')) : LK H H' := by
 unfold xQ at h
 dsimp only at h
 split at h
 ·injection h with h; injection h with _ h; subst h; exact .row _ _ _
 ·cases h
theorem a6p {H H' : Heap} {t : TypeId} {s x r : Value} (h : nT P H t s x = some (r, H')) : LK H H' := by
 unfold nT at h
 simp only [cY] at h
 obtain ⟨elem, _, size, _, bytes, _, z, _, ⟨n, l⟩, _, h⟩ := h
 try dsimp only at h
 split at h
 ·split at h
  ·split at h
   ·injection h with h; injection h with _ h; subst h; exact .refl _
   ·injection h with h; injection h with _ h; subst h; exact .row _ _ _
  ·cases h
 ·split at h
  ·split at h
   ·injection h with h; injection h with _ h; subst h; exact .hset _ _ rfl
   ·split at h
    ·injection h with h; injection h with _ h; subst h; exact .hset _ _ rfl
    ·cases h
  ·cases h
 ·cases h
theorem a8M {H H' : Heap} {t : TypeId} {v r : Value} (h : rH P H t v = some (r, H')) : LK H H' := by
 unfold rH at h
 split at h
 ·dsimp only at h
  rename_i n elem _
  have key : ∀ (b : Bool), (if b = true then some (Value.pointer (some ⟨H.length, 0, some v.cells.toList.length⟩), b6t H elem v.cells.toList) else none) = some (r, H') → LK H H' := by
   intro b h
   cases b
   ·cases h
   ·injection h with h; injection h with _ h; subst h; rw [a1N]; exact .cons _ _
  exact key _ h
 ·exact a5b h
theorem a5x {H H' : Heap} {t : TypeId} {x y r : Value} (h : wN P H t x y = some (r, H')) : LK H H' := by
 unfold wN at h
 split at h
 ·split at h
  ·split at h
   ·simp only [dh] at h
    obtain ⟨_, _, h⟩ := h
    injection h with _ h; subst h; exact .hset _ _ rfl
   ·cases h
  ·cases h
 ·cases h
theorem a5k {H H' : Heap} {k : FuncId} {args : List Value} {r : Value} (h : qI P k args H = some (r, H')) : LK H H' := by
 unfold qI at h
 simp only [cY] at h
 obtain ⟨fn, _, h⟩ := h
 split at h
 case isFalse => cases h
 split at h
 ·split at h
  ·injection h with h; injection h with _ h; subst h; exact .refl _
  ·cases h
 split at h
 ·split at h
  ·split at h
   ·simp only [cY] at h
    obtain ⟨_, _, h⟩ := h
    split at h
    ·injection h with h; injection h with _ h; subst h; exact .row _ _ _
    ·cases h
   ·cases h
  ·cases h
 split at h
 ·split at h
  ·split at h
   ·split at h
    ·injection h with h; injection h with _ h; subst h; exact .refl _
    ·cases h
   ·cases h
  ·cases h
 ·cases h
theorem b0C {H H' : Heap} {t : TypeId} {s x r : Value} (h : a1e P H t s x = some (r, H')) : LK H H' := by
 unfold a1e at h
 simp only [cY] at h
 obtain ⟨elem, _, size, _, m, _, h⟩ := h
 try dsimp only at h
 split at h
 ·split at h
  ·injection h with h; injection h with _ h; subst h; exact .refl _
  ·cases h
 ·split at h
  ·injection h with h; injection h with _ h; subst h; exact .refl _
  ·simp only [cY] at h
   obtain ⟨l, _, h⟩ := h
   split at h
   ·split at h
    ·injection h with h; injection h with _ h; subst h; exact .hset _ _ rfl
    ·cases h
   ·cases h
 ·cases h
theorem a7i {H H' : Heap} {t : TypeId} {x r : Value} (h : tJ P H t x = some (r, H')) : LK H H' := by
 unfold tJ at h
 simp only [cY] at h
 obtain ⟨elem, _, z, _, h⟩ := h
 split at h
 ·injection h with h; injection h with _ h; subst h; exact .refl _
 ·split at h
  ·injection h with h; injection h with _ h; subst h; exact .refl _
  ·try dsimp only at h
   split at h
   ·split at h
    ·injection h with h; injection h with _ h; subst h; exact .hset _ _ rfl
    ·cases h
   ·cases h
 ·cases h
theorem b3x {H H' : Heap} {t : TypeId} {m k v : Value} (h : a1B P H t m k v = some H') : LK H H' := by
 unfold a1B at h
 simp only [cY] at h
 obtain ⟨⟨kt, et⟩, _, h⟩ := h
 dsimp only at h
 split at h
 ·split at h
  ·split at h
   ·simp only [cY] at h
    obtain ⟨r, _, h⟩ := h
    split at h
    ·simp only [cY] at h
     obtain ⟨e, _, h⟩ := h
     split at h
     ·injection h with h; subst h; exact .hset _ _ rfl
     ·cases h
    ·injection h with h; subst h; exact .hset _ _ rfl
   ·cases h
  ·cases h
 ·cases h
theorem a6Y {H H' : Heap} {t : TypeId} {m k r : Value} (h : tG P H t m k = some (r, H')) : LK H H' := by
 unfold tG at h
 simp only [cY] at h
 obtain ⟨⟨kt, et⟩, _, h⟩ := h
 dsimp only at h
 split at h
 ·split at h
  ·split at h
   ·simp only [cY] at h
    obtain ⟨r, _, h⟩ := h
    split at h
    ·simp only [cY] at h
     obtain ⟨e, _, h⟩ := h
     split at h
     ·injection h with h; injection h with _ h; subst h; exact .hset _ _ rfl
     ·cases h
    ·simp only [cY] at h
     obtain ⟨z, _, h⟩ := h
     split at h
     ·injection h with h; injection h with _ h; subst h; exact .hset _ _ rfl
     ·cases h
   ·cases h
  ·cases h
 ·cases h
theorem a8y {H H' : Heap} {m b v : Value} (h : sJ H m b v = some H') : LK H H' := by
 unfold sJ at h
 split at h
 ·split at h
  ·split at h
   ·simp only [cY] at h
    obtain ⟨e, _, h⟩ := h
    injection h with h; subst h; exact .hset _ _ rfl
   ·cases h
  ·cases h
 ·cases h
theorem a3I {H H' : Heap} {t : TypeId} {o : Option Value} {r : Value} (h : qC P H t o = some (r, H')) : LK H H' := by
 unfold qC at h
 simp only [cY] at h
 obtain ⟨_, _, h⟩ := h
 split at h
 ·injection h with h; injection h with _ h; subst h; exact .cons _ _
 ·injection h with h; injection h with _ h; subst h; exact .cons _ _
 ·cases h
theorem a6H {H H' : Heap} {o : Oper} {l : List Value} {r : Value} (h : kP P o l H = some (r, H')) : H' = H := by
 unfold kP at h
 split at h
 ·split at h
  ·split at h
   ·injection h with h; injection h with _ h; exact h.symm
   ·cases h
  ·cases h
 ·cases h
theorem wL {H H' : Heap} {v r : Value} (h : some (v, H) = some (r, H')) : LK H H' := by injection h with h; injection h with _ h; subst h; exact .refl _
theorem wA {H H' : Heap} {v : Option Value} {r : Value} (h : v.map (fun v => (v, H)) = some (r, H')) : LK H H' := by
 cases v with
 | none => cases h
 | some v => exact wL h
set_option maxHeartbeats 1000000 in
theorem b6y {H H' : Heap} {o : Oper} {l : List Value} {r : Value} (h : opD P o l H = some (r, H')) : LK H H' := by
 obtain ⟨dst, op, type, pos, after, guard⟩ := o
 have pl : ∀ {o : Oper}, kP P o l H = some (r, H') → LK H H' := fun h => by rw [a6H h]; exact .refl _
 cases op with
 | alloc t =>
   simp only [opD, cY] at h
   obtain ⟨z, _, h⟩ := h
   split at h
   ·exact a8M h
   ·cases h
 | box t x => simp only [opD] at h; exact a5b h
 | store t x y =>
   simp only [opD, dh] at h
   obtain ⟨H1, h, e⟩ := h
   injection e with _ e; subst e
   exact a6w h
 | mapUpdate t m x y =>
   simp only [opD, dh] at h
   obtain ⟨H1, h, e⟩ := h
   injection e with _ e; subst e
   exact b3x h
 | mapEntry t m x => simp only [opD] at h; exact a6Y h
 | entryStore t m x y =>
   simp only [opD, dh] at h
   obtain ⟨H1, h, e⟩ := h
   injection e with _ e; subst e
   exact a8y h
 | makeMap t x => simp only [opD] at h; exact a3I h
 | buildSlice t len parts =>
   simp only [opD, cY] at h
   obtain ⟨elem, _, size, _, z, _, h⟩ := h
   split at h
   ·injection h with h; injection h with _ h; subst h; exact .row _ _ _
   split at h
   ·simp only [dh] at h
    obtain ⟨cs, _, e⟩ := h
    injection e with _ e; subst e
    exact .row _ _ _
   ·cases h
 | makeSlice t n c =>
   simp only [opD, cY] at h
   obtain ⟨elem, _, size, _, bytes, _, z, _, h⟩ := h
   split at h
   ·split at h
    ·injection h with h; injection h with _ h; subst h; exact .row _ _ _
    ·cases h
   ·cases h
 | call c =>
   simp only [opD] at h
   split at h
   ·split at h
    ·split at h
     all_goals first | exact wA h | cases h
    ·cases h
   ·split at h
    ·exact a6p h
    ·cases h
   ·split at h
    ·exact b0C h
    ·cases h
   ·split at h
    ·exact a7i h
    ·cases h
   ·exact pl h
   ·split at h
    ·split at h
     ·split at h
      ·cases h
      ·exact wL h
     ·cases h
    ·cases h
   ·split at h
    ·exact a5x h
    ·cases h
   ·exact pl h
   ·exact pl h
   ·cases h
 | convert s t x =>
   simp only [opD] at h
   split at h
   ·exact pl h
   ·split at h
    ·split at h
     ·exact wA h
     ·cases h
    ·split at h
     ·simp only [cY] at h
      obtain ⟨_, _, h⟩ := h
      injection h with h; injection h with _ h; subst h
      rw [b1n]; exact .cons _ _
     ·cases h
    ·split at h
     ·exact wL h
     ·cases h
    ·cases h
 | slice t x lo hi mx =>
   cases mx with
   | some _ => simp only [opD] at h; cases h
   | none =>
     simp only [opD] at h
     split at h
     ·exact pl h
     ·split at h
      ·exact wA h
      ·exact wA h
 | _ =>
   simp only [opD] at h
   repeat' first
    | exact LK.refl _
    | exact wL h
    | exact wA h
    | exact pl h
    | (cases h; done)
    | split at h
    | (simp only [cY, dh] at h; obtain ⟨_, _, h⟩ := h)
    | (obtain ⟨_, _, h⟩ := h)
    | (injection h with h; injection h with _ h; subst h; exact LK.refl _)
    | (injection h with _ h; subst h; exact LK.refl _)
    | (cases h; exact LK.refl _)
end
end Go.Ds
namespace Go.Ds
variable {P : Program}
structure CallsOk (P : Program) (C : Calls') (H0 : Heap) : Prop where
 fn : ∀ p f args H v H1, LK H0 H → (C.fn p f args H).Is v H1 → p = kT f → (FnS P f args H (fun v' H' => v' = v ∧ H' = H1) ∨ qI P f args H = some (v, H1)) ∧ LK H H1
 rd : ∀ L args H v H1, LK H0 H → (C.rd L args H).Is v H1 → zH P L args H v H1 ∧ LK H H1
noncomputable def iV (x : Operand) : LArg := match x with
 | .tmp t => .t (kT t)
 | .const v => .c v
 | .global g => .c (.pointer (some ⟨g, 0, none⟩))
 | .func k => .c (.func (.func k) #[] #[])
theorem lD {α : Type} (x : Operand) (K : LArg → α) : lV x K = K (iV x) := by
 cases x with
 | tmp t => exact lN _ _
 | _ => rfl
theorem jV {f : Fr} {l : List Value} (h : FAg f l) (x : Operand) : mP f (iV x) = ev l x := by
 cases x with
 | tmp t => exact h t
 | _ => rfl
theorem a4R {α : Type} (l : List Operand) (K : List LArg → α) : a5o l K = K (l.map iV) := by
 induction l generalizing K with
 | nil => rfl
 | cons x l ih =>
   show lV x (fun x => a5o l fun l => K (x :: l)) = _
   rw [lD, ih]; rfl
theorem a6D {α : Type} {f : Fr} {l : List Value} (h : FAg f l) (xs : List Operand) (K : List Value → α) : a4B f (xs.map iV) K = K (xs.map (ev l)) := by
 induction xs generalizing K with
 | nil => rfl
 | cons x xs ih =>
   show oT (mP f (iV x)) (fun v => a4B f (xs.map iV) fun l => K (v :: l)) = _
   rw [mV, ih, jV h]; rfl
theorem c3o {f : Fr} {l : List Value} (h : FAg f l) : evF f = ev l := by
 funext x
 cases x with
 | tmp t => exact h t
 | _ => rfl
def wU (P : Program) (o : Oper) (lo : LOp) : Prop := ∀ C H0 f l H v H1, CallsOk P C H0 → LK H0 H → FAg f l → (opF P C lo f H).Is v H1 → StepR P o l H v H1 ∧ LK H H1
def LowPl (P : Program) (o : Oper) (lo : LOp) : Prop := ∀ C f l H v H1, FAg f l → (opF P C lo f H).Is v H1 → opD P o l H = some (v, H1)
theorem LowPl.low {o : Oper} {lo : LOp} (hok : o.op.operands.toList.all iP = true) (h : LowPl P o lo) : wU P o lo :=
 fun C _ f l H v H1 _ _ hf hr => by have := h C f l H v H1 hf hr; exact ⟨.op hok this, b6y this⟩
theorem b8C (o : Oper) : wU P o .bad := fun _ _ _ _ _ _ _ _ _ _ h => absurd h Rs.ar
theorem c0Z (o : Oper) : LowPl P o (.gen o) := fun C f l H v H1 hf hr => by
 have hr : (match c2B P o (evF f) H with | some (v, H1) => Rs.th v H1 | none => .no).Is v H1 := hr
 rw [c3o hf] at hr
 have e : c2B P o (ev l) H = opD P o l H := rfl
 rw [e] at hr
 split at hr
 ·rename_i v2 H2 h2
  obtain ⟨rfl, rfl⟩ := Rs.aQ hr
  exact h2
 ·exact absurd hr Rs.ar
section
variable {dst : Option Tmp} {type : TypeId} {pos : String} {after : Array Edge} {guard : Option (Nat × Bool)}
theorem c2j (x : Operand) : LowPl P ⟨dst, .move x, type, pos, after, guard⟩ (.mv (iV x)) := fun C f l H v H1 hf hr => by
 have hr : (oT (mP f (iV x)) fun v => Rs.ok v H).Is v H1 := hr
 rw [mV, jV hf] at hr
 obtain ⟨rfl, rfl⟩ := Rs.aN hr
 rfl
theorem c2N (x : Operand) : LowPl P ⟨dst, .assign x, type, pos, after, guard⟩ (.mv (iV x)) := fun C f l H v H1 hf hr => by
 have hr : (oT (mP f (iV x)) fun v => Rs.ok v H).Is v H1 := hr
 rw [mV, jV hf] at hr
 obtain ⟨rfl, rfl⟩ := Rs.aN hr
 rfl
theorem b7y (c a b : Operand) : LowPl P ⟨dst, .pick c a b, type, pos, after, guard⟩ (.pick (iV c) (iV a) (iV b)) := fun C f l H v H1 hf hr => by
 have hr : (b7V (iV c) (iV a) (iV b) f H).Is v H1 := hr
 unfold b7V at hr
 rw [jV hf] at hr
 split at hr
 ·rename_i t ht
  rw [mV] at hr
  simp only [opD, ht]
  cases t
  ·have hr : (Rs.ok (mP f (iV b)) H).Is v H1 := hr
   rw [jV hf] at hr
   obtain ⟨rfl, rfl⟩ := Rs.aN hr; rfl
  ·have hr : (Rs.ok (mP f (iV a)) H).Is v H1 := hr
   rw [jV hf] at hr
   obtain ⟨rfl, rfl⟩ := Rs.aN hr; rfl
 ·exact absurd hr Rs.ar
theorem c0x (a b : Int) : c5I a b = a * b := by cases a <;> cases b <;> rfl
theorem a6r (a b : Int) : c4R a b = a.tdiv b := by cases a <;> cases b <;> rfl
theorem a5h (a b : Int) : c4L a b = a.tmod b := by cases a <;> cases b <;> rfl
theorem b8B {op : BinOp} {g : IntKind → Int → Int → Option Value} (h : c0F op = some g) (k : IntKind) (a b : Int) : mR op k a b = g k a b := by
 cases op <;> simp only [c0F] at h <;> first | (cases h; done) | (injection h with h; subst h)
 all_goals first
  | rfl
  | (simp only [mR, c5v, c0x]; done)
  | (simp only [mR, b9D, a6r]; done)
  | (simp only [mR, c0D, a5h]; done)
  | (simp only [mR, b9D, a6r]; rfl)
  | (simp only [mR, c0D, a5h]; rfl)
  | (simp only [mR, b9D, a6r]; cases eqI b 0 <;> rfl)
  | (simp only [mR, c0D, a5h]; cases eqI b 0 <;> rfl)
theorem c4t {o : Option Value} {H H1 : Heap} {v : Value} (h : (oV o H).Is v H1) : o = some v ∧ H1 = H := by
 cases o with
 | none => exact absurd h Rs.ar
 | some w => obtain ⟨rfl, rfl⟩ := Rs.aQ h; exact ⟨rfl, rfl⟩
theorem b4M {o : Option Value} {H H1 : Heap} {v : Value} (h : (okV o H).Is v H1) : o = some v ∧ H1 = H := by
 cases o with
 | none => exact absurd h Rs.ar
 | some w =>
   have h : (oT w fun v => Rs.ok v H).Is v H1 := h
   rw [mV] at h
   obtain ⟨rfl, rfl⟩ := Rs.aN h; exact ⟨rfl, rfl⟩
theorem b9n {op : BinOp} {g : IntKind → Int → Int → Option Value} (hg : c0F op = some g) (t yt : TypeId) (x y : Operand) : LowPl P ⟨dst, .binOp op t x y yt, type, pos, after, guard⟩ (.bin g (iV x) (iV y)) := fun C f l H v H1 hf hr => by
 have hr : (c3i g (iV x) (iV y) f H).Is v H1 := hr
 unfold c3i at hr
 rw [jV hf] at hr
 split at hr
 ·rename_i k a hx
  unfold c2b at hr
  rw [jV hf] at hr
  split at hr
  ·rename_i k' b hy
   obtain ⟨hk, hq⟩ := lJ hr
   obtain rfl := b8J hk
   obtain ⟨hv, rfl⟩ := c4t hq
   rw [← b8B hg] at hv
   have : opD P ⟨dst, .binOp op t x y yt, type, pos, after, guard ⟩ l H1 = if k = k then (match mR op k a b with | some v => some (v, H1) | none => kP P ⟨dst, .binOp op t x y yt, type, pos, after, guard ⟩ l H1) else kP P ⟨dst, .binOp op t x y yt, type, pos, after, guard ⟩ l H1 := by
    simp only [opD, hx, hy]
    cases op <;> rfl
   rw [this, if_pos rfl, hv]
  ·exact absurd hr Rs.ar
 ·exact absurd hr Rs.ar
theorem c0f {b : Option Blk} {i e : Nat} {H H1 : Heap} {v : Value} (h : (b9T b i e H).Is v H1) : H1 = H ∧ ∃ cs ty rw lo ver, b = some (.cells cs ty rw lo ver) ∧ lo ≤ e ∧ e ≤ cs.length ∧ i + 1 ≤ e ∧ cs[i]? = some v := by
 unfold b9T at h
 split at h
 ·rename_i cs ty rw lo ver
  obtain ⟨h1, h⟩ := lJ h
  obtain ⟨h2, h⟩ := lJ h
  obtain ⟨h3, h⟩ := lJ h
  have h : (okV (a1x cs i) H).Is v H1 := h
  obtain ⟨h4, h5⟩ := b4M h
  rw [zD] at h2
  rw [zY] at h4
  exact ⟨h5, cs, ty, rw, lo, ver, rfl, eE h1, by simpa using h2, eE h3, h4⟩
 ·exact absurd h Rs.ar
theorem c0u {b : Option Blk} {n i e : Nat} {H H1 : Heap} {v : Value} (h : (c0T b n i e H).Is v H1) : H1 = H ∧ ∃ cs ty rw lo ver, b = some (.cells cs ty rw lo ver) ∧ lo ≤ e ∧ e ≤ cs.length ∧ i + n ≤ e ∧ v = .agg ((cs.drop i).take n).toArray := by
 unfold c0T at h
 split at h
 ·rename_i cs ty rw lo ver
  obtain ⟨h1, h⟩ := lJ h
  obtain ⟨h2, h⟩ := lJ h
  obtain ⟨h3, h⟩ := lJ h
  obtain ⟨h4, h⟩ := a8P h
  obtain ⟨rfl, rfl⟩ := Rs.aN h
  rw [zD] at h2
  exact ⟨rfl, cs, ty, rw, lo, ver, rfl, eE h1, by simpa using h2, eE h3, by rw [a6x]⟩
 ·exact absurd h Rs.ar
theorem b1r {X : LArg} {f : Fr} {H H1 : Heap} {v w : Value} {t : TypeId} (ht : jR P t = some false) (hw : mP f X = w) (h : (b2N X f H).Is v H1) : H1 = H ∧ lQ P H t w = some v := by
 unfold b2N at h
 rw [hw] at h
 split at h
 ·rename_i A i e
  obtain ⟨h1, cs, ty, rw', lo, ver, h2, h3, h4, h5, h6⟩ := c0f h
  refine ⟨h1, ?_⟩
  simp only [lQ, ht, jC, h2]
  rw [if_pos (by simp; omega)]
  simp [h6]
 ·rename_i A i
  unfold c3Y at h
  split at h
  ·rename_i cs ty lo hg
   obtain ⟨h1, h⟩ := lJ h
   rw [zD] at h1
   have h1 : lo ≤ cs.length := by simpa using h1
   cases hn : a1x cs i with
   | none => rw [hn] at h; exact absurd h Rs.ar
   | some c =>
     rw [hn] at h
     have h : (oT c fun v => Rs.ok v H).Is v H1 := h
     rw [mV] at h
     obtain ⟨rfl, rfl⟩ := Rs.aN h
     rw [zY] at hn
     have hi := (dy.1 hn).1
     refine ⟨rfl, ?_⟩
     simp only [lQ, ht, jC, hg]
     rw [if_pos (by simp; omega)]
     simp [hn]
  ·exact absurd h Rs.ar
 ·exact absurd h Rs.ar
theorem b1u {X : LArg} {f : Fr} {H H1 : Heap} {v w : Value} {t : TypeId} {n : Nat} (ht : jR P t = some true) (hn : iE P t = some n) (hw : mP f X = w) (h : (b4t n X f H).Is v H1) : H1 = H ∧ lQ P H t w = some v := by
 unfold b4t at h
 rw [hw] at h
 split at h
 ·rename_i A i e
  obtain ⟨h1, cs, ty, rw', lo, ver, h2, h3, h4, h5, h6⟩ := c0u h
  refine ⟨h1, ?_⟩
  simp only [lQ, ht, hn, cX, jC, h2]
  rw [if_pos (by simp; omega), h6]
  rfl
 ·exact absurd h Rs.ar
theorem b9s {t : TypeId} (ht : jR P t = some false) (x : Operand) : LowPl P ⟨dst, .load t x, type, pos, after, guard⟩ (.ld1 (iV x)) := fun C f l H v H1 hf hr => by
 obtain ⟨rfl, h⟩ := b1r (P := P) ht (jV hf x) hr
 simp only [opD, h, dP]
theorem b9Q {t : TypeId} {n : Nat} (ht : jR P t = some true) (hn : iE P t = some n) (x : Operand) : LowPl P ⟨dst, .load t x, type, pos, after, guard⟩ (.ldn n (iV x)) := fun C f l H v H1 hf hr => by
 obtain ⟨rfl, h⟩ := b1u (P := P) ht hn (jV hf x) hr
 simp only [opD, h, dP]
theorem c2F {t : TypeId} {n : Nat} (hn : iE P t = some n) (x y : Operand) : LowPl P ⟨dst, .store t x y, type, pos, after, guard⟩ (.st n (iV x) (iV y)) := fun C f l H v H1 hf hr => by
 have hr : (hSt n (iV x) (iV y) f H).Is v H1 := hr
 unfold hSt at hr
 rw [jV hf, jV hf] at hr
 split at hr
 ·rename_i A i e hx
  unfold stB at hr
  split at hr
  ·rename_i cs ty lo ver hg
   obtain ⟨h1, hr⟩ := lJ hr
   obtain ⟨h2, hr⟩ := lJ hr
   obtain ⟨h3, hr⟩ := lJ hr
   obtain ⟨h4, hr⟩ := lJ hr
   obtain ⟨h5, hr⟩ := lJ hr
   obtain ⟨rfl, rfl⟩ := Rs.aQ hr
   rw [a0d] at h1 h3
   have h1 : n = (ev l y).cells.toList.length := by simpa only [decide_eq_true_eq] using h1
   have h3 : e = cs.length := by simpa only [decide_eq_true_eq] using h3
   have h4 : i + n ≤ e := eE h4
   have h5 : lo ≤ e := eE h5
   simp only [opD, rM, hx, hg]
   rw [if_pos ⟨by rw [hn, h1], h2, h3, by omega, h5⟩]
   simp only [dP]
   rw [h3]
  ·exact absurd hr Rs.ar
 ·exact absurd hr Rs.ar
theorem c3J {s : TypeId} {k n : Nat} {fd : Field} (hf' : oR P s k = some fd) (hn : iE P fd.type = some n) (hn0 : n ≠ 0) (x : Operand) : LowPl P ⟨dst, .fieldAddr s x k, type, pos, after, guard⟩ (.fa fd.offset (iV x)) := fun C f l H v H1 hf hr => by
 have hr : (hFa fd.offset (iV x) f H).Is v H1 := hr
 unfold hFa at hr
 rw [jV hf] at hr
 split at hr
 ·rename_i A i e hx
  rw [kB] at hr
  obtain ⟨rfl, rfl⟩ := Rs.aN hr
  simp only [opD, hx, hf', cX, hn]
  rw [if_neg (by simpa using hn0)]; rfl
 ·exact absurd hr Rs.ar
theorem b6z {A i e size n : Nat} {H H1 : Heap} {j v : Value} (h : (ixP A i e size n H j).Is v H1) : H1 = H ∧ ∃ k m, j = .int k (.ofNat m) ∧ m < n ∧ v = .pointer (some ⟨A, i + m * size, some e⟩) := by
 unfold ixP at h
 split at h
 ·rename_i k m
  obtain ⟨h1, h⟩ := lJ h
  rw [kB] at h
  obtain ⟨rfl, rfl⟩ := Rs.aN h
  rw [blt_eq] at h1
  exact ⟨rfl, k, m, rfl, by simpa using h1, rfl⟩
 ·exact absurd h Rs.ar
theorem b9H {t elem : TypeId} {size : Nat} (ht : P.underlying t = some (.slice elem)) (hs : iE P elem = some size) (x i : Operand) : LowPl P ⟨dst, .indexAddr t x i, type, pos, after, guard⟩ (.ixs size (iV x) (iV i)) := fun C f l H v H1 hf hr => by
 have hr : (c2x size (iV x) (iV i) f H).Is v H1 := hr
 unfold c2x at hr
 rw [jV hf, jV hf] at hr
 split at hr
 ·rename_i A a e n c hx
  obtain ⟨rfl, k, m, hj, hm, rfl⟩ := b6z hr
  simp only [opD, ht, hx, hj, hs, cX]
  rw [if_pos (by simp; omega)]
  rfl
 ·exact absurd hr Rs.ar
theorem c6p (a b : Nat) : Nat.beq a b = (a == b) := by
 cases h : Nat.beq a b with
 | true => rw [dX h]; simp
 | false => have := Nat.ne_of_beq_eq_false h; simp [this]
theorem c3N {A i size n : Nat} {H H1 : Heap} {j v : Value} (h : (ixG A i size n H j).Is v H1) : H1 = H ∧ ∃ k m, j = .int k (.ofNat m) ∧ m < n ∧ v = .pointer (some ⟨A, i + m * size, none⟩) := by
 unfold ixG at h
 split at h
 ·rename_i k m
  obtain ⟨h1, h⟩ := lJ h
  rw [kB] at h
  obtain ⟨rfl, rfl⟩ := Rs.aN h
  exact ⟨rfl, k, m, rfl, by simpa [ic] using h1, rfl⟩
 ·exact absurd h Rs.ar
theorem b8W {t elem : TypeId} {n size : Nat} (ht : P.underlying t = some (.array n elem)) (hs : iE P elem = some size) (x i : Operand) : LowPl P ⟨dst, .indexAddr t x i, type, pos, after, guard⟩ (.ixa n size (iV x) (iV i)) := fun C f l H v H1 hf hr => by
 have hr : (c3W n size (iV x) (iV i) f H).Is v H1 := hr
 unfold c3W at hr
 rw [jV hf, jV hf] at hr
 split at hr
 ·rename_i A a e hx
  obtain ⟨rfl, k, m, hj, hm, rfl⟩ := b6z hr
  simp only [opD, ht, hx, hj, hs, cX]
  rw [if_pos (by simp; omega)]
  rfl
 ·rename_i A a hx
  obtain ⟨rfl, k, m, hj, hm, rfl⟩ := c3N hr
  simp only [opD, ht, hx, hj, hs, cX]
  rw [if_pos (by simp; omega)]
  rfl
 ·exact absurd hr Rs.ar
theorem b8L (i : Nat) (x : Operand) : LowPl P ⟨dst, .extract x i, type, pos, after, guard⟩ (.ext i (iV x)) := fun C f l H v H1 hf hr => by
 have hr : (c3G i (iV x) f H).Is v H1 := hr
 unfold c3G at hr
 rw [jV hf] at hr
 split at hr
 ·rename_i vs hx
  obtain ⟨h1, rfl⟩ := b4M hr
  rw [zY] at h1
  simp only [opD, hx]
  simp [h1]
 ·exact absurd hr Rs.ar
theorem c0G {c : Call} {elem : TypeId} (hc : c.callee = .builtin .len) (h1 : c.args.size = 1) (h2 : c.argTypes.size = 1) (ht : P.underlying (c.argTypes.getD 0 0) = some (.slice elem)) : LowPl P ⟨dst, .call c, type, pos, after, guard⟩ (.len (iV (c.args.getD 0 (.tmp 0)))) := fun C f l H v H1 hf hr => by
 have hr : (c2c (iV (c.args.getD 0 (.tmp 0))) f H).Is v H1 := hr
 unfold c2c at hr
 rw [jV hf] at hr
 split at hr
 ·rename_i a n k hx
  obtain ⟨rfl, rfl⟩ := Rs.aQ hr
  simp only [opD, hc, h1, h2, ht, hx, xU]; rfl
 ·exact absurd hr Rs.ar
theorem b8c {c : Call} (hc : c.callee = .builtin .len) (h1 : c.args.size = 1) (h2 : c.argTypes.size = 1) (ht : P.underlying (c.argTypes.getD 0 0) = some .string) : LowPl P ⟨dst, .call c, type, pos, after, guard⟩ (.slen (iV (c.args.getD 0 (.tmp 0)))) := fun C f l H v H1 hf hr => by
 have hr : (b5L (iV (c.args.getD 0 (.tmp 0))) f H).Is v H1 := hr
 unfold b5L at hr
 rw [jV hf] at hr
 split at hr
 ·rename_i s hx
  obtain ⟨rfl, rfl⟩ := Rs.aQ hr
  simp only [opD, hc, h1, h2, ht, hx, xU]; rfl
 ·exact absurd hr Rs.ar
theorem c1d {c : Call} {elem : TypeId} {size bytes : Nat} {z : Value} (hc : c.callee = .builtin .append) (h1 : c.args.size = 2) (h2 : c.argTypes.size = 2) (hi : ((P.underlying (c.argTypes.getD 1 0)).map qD) = some true)
 (he : iI P (c.argTypes.getD 0 0) = some elem) (hs : iE P elem = some size) (hb : mW P elem = some bytes) (hz : jA P elem = some z) (hzs : z.cells.size = size) (hs0 : size ≠ 0) :
 LowPl P ⟨dst, .call c, type, pos, after, guard⟩ (.app elem size bytes (iV (c.args.getD 0 (.tmp 0))) (iV (c.args.getD 1 (.tmp 0)))) := fun C f l H v H1 hf hr => by
 have hr : (c3t P elem size bytes (iV (c.args.getD 0 (.tmp 0))) (iV (c.args.getD 1 (.tmp 0))) f H).Is v H1 := hr
 unfold c3t at hr
 rw [jV hf, jV hf] at hr
 have hD : opD P ⟨dst, .call c, type, pos, after, guard⟩ l H = nT P H (c.argTypes.getD 0 0) (ev l (c.args.getD 0 (.tmp 0))) (ev l (c.args.getD 1 (.tmp 0))) := by
  simp only [opD, hc, h1, h2, hi]; rfl
 rw [hD]
 unfold nT
 rw [he, cX, hs, cX, hb, cX, hz, cX]
 split at hr
 ·rename_i n m hsrc
  rw [hsrc, cX]
  unfold c4W at hr
  split at hr
  ·rename_i k cc hx
   obtain ⟨g1, hq1⟩ := lJ hr
   obtain ⟨g2, hq2⟩ := lJ hq1
   obtain ⟨g3, hq⟩ := lJ hq2
   clear hr hq1 hq2
   obtain rfl : k = 0 := dX g1
   obtain rfl : cc = 0 := dX g2
   have g3 : n * (bytes + 1) ≤ oG := eE g3
   simp only [hx]
   rw [if_pos (by simp [hs0, hzs, g3])]
   rw [kS] at hq
   by_cases hn : n = 0
   ·subst hn
    rw [if_pos (by rfl)] at hq
    obtain ⟨rfl, rfl⟩ := Rs.aN hq
    simp
   ·rw [if_neg (fun e => hn (dX e))] at hq
    obtain ⟨rfl, rfl⟩ := Rs.aQ hq
    simp [hn]
  ·rename_i A i e k cc hx
   unfold c4M at hr
   split at hr
   ·rename_i cs ty lo ver hg
    obtain ⟨g2, hr⟩ := lJ hr
    obtain ⟨g4, hr⟩ := lJ hr
    obtain ⟨g5, hr⟩ := lJ hr
    have g2 : (ty == elem || iE P ty == some size) = true := by
     rw [c6p] at g2
     cases hh : (ty == elem) with
     | true => rfl
     | false => rw [hh] at g2; exact g2
    rw [a0d] at g4
    have g4 : e = cs.length := by simpa only [decide_eq_true_eq] using g4
    have g5 : lo ≤ e := eE g5
    simp only [hx, hg]
    rw [kS] at hr
    by_cases g3 : i + k * size = e
    ·rw [if_pos (by simpa using g3)] at hr
     obtain ⟨g1, hr⟩ := lJ hr
     obtain ⟨rfl, rfl⟩ := Rs.aQ hr
     have g1 : (k + n) * (bytes + 1) ≤ oG := eE g1
     have et : (Bool.rec (motive := fun _ => Nat) 2 ver (Nat.beq ty elem)) = (if (ty == elem) = true then ver else 2) := by
      rw [c6p]
      cases hh : (ty == elem) with
      | true => rfl
      | false => rfl
     rw [et, if_pos (by simp only [g2, fu, cW, bne_iff_ne, beq_iff_eq, decide_eq_true_eq]; exact ⟨⟨⟨⟨⟨hs0, g1⟩, by simpa using hzs⟩, g3⟩, g4⟩, g5⟩)]
    ·rw [if_neg (by simpa using g3)] at hr
     rw [kS] at hr
     by_cases hn : n = 0
     ·rw [if_pos (by simpa using hn)] at hr
      exact absurd hr Rs.ar
     ·rw [if_neg (by simpa using hn)] at hr
      obtain ⟨g6, hr⟩ := lJ hr
      obtain ⟨rfl, rfl⟩ := Rs.aQ hr
      have g6 : i + (k + n) * size ≤ e := eE g6
      rw [if_neg (by simp [g3]), if_pos (by simp only [g2, fu, cW, bne_iff_ne, beq_iff_eq, decide_eq_true_eq]; exact ⟨⟨⟨⟨⟨hs0, hn⟩, by simpa using hzs⟩, g6⟩, g4⟩, g5⟩), g4]
   ·exact absurd hr Rs.ar
  ·exact absurd hr Rs.ar
 ·exact absurd hr Rs.ar
theorem b4i {c : Call} {k : FuncId} (hc : c.callee = .value (.func k)) (hok : (Op.call c).operands.toList.all iP = true) : wU P ⟨dst, .call c, type, pos, after, guard⟩ (.callF k (kT k) (c.args.toList.map iV)) := fun C H0 f l H v H1 hC hk hf hr => by
 have hr : (a4B f (c.args.toList.map iV) fun l => C.fn (kT k) k l H).Is v H1 := hr
 rw [a6D hf] at hr
 obtain ⟨h1 | hx, h2⟩ := hC.fn _ _ _ _ _ _ hk hr rfl
 case inr => exact ⟨.ext hok c (.func k) k #[] #[] rfl hc rfl (by simpa using hx), h2⟩
 obtain ⟨he, v', H', hcall, rfl, rfl⟩ := h1.fn
 exact ⟨.call hok c (.func k) k #[] #[] rfl hc rfl he (by simpa using hcall), h2⟩
theorem b2T {c : Call} {g : Operand} (hc : c.callee = .value g) (hok : (Op.call c).operands.toList.all iP = true) : wU P ⟨dst, .call c, type, pos, after, guard⟩ (.callV (iV g) (c.args.toList.map iV)) := fun C H0 f l H v H1 hC hk hf hr => by
 have hr : (a4B f (c.args.toList.map iV) fun l => b0n C l H (mP f (iV g))).Is v H1 := hr
 rw [a6D hf, jV hf] at hr
 unfold b0n at hr
 split at hr
 ·rename_i k a b hg
  rw [kB, lN] at hr
  obtain ⟨h1 | hx, h2⟩ := hC.fn _ _ _ _ _ _ hk hr rfl
  case inr => exact ⟨.ext hok c g k ⟨a⟩ ⟨b⟩ rfl hc hg (by simpa [yK] using hx), h2⟩
  obtain ⟨he, v', H', hcall, rfl, rfl⟩ := h1.fn
  exact ⟨.call hok c g k ⟨a⟩ ⟨b⟩ rfl hc hg he (by simpa [yK] using hcall), h2⟩
 ·rename_i L a b hg
  obtain ⟨h1, h2⟩ := hC.rd _ _ _ _ _ hk hr
  exact ⟨.round hok c g L _ _ rfl hc hg h1, h2⟩
 ·exact absurd hr Rs.ar
end
set_option maxHeartbeats 1000000 in
theorem b1E {α : Type} (o : Oper) (K : LOp → α) : ∃ lo, wU P o lo ∧ yL P o K = K lo := by
 unfold yL
 rw [kS]
 by_cases hok : o.op.operands.toList.all iP = true
 case neg => rw [if_neg hok]; exact ⟨_, b8C o, rfl⟩
 rw [if_pos hok]
 have gen : ∃ lo, wU P o lo ∧ K (.gen o) = K lo := ⟨_, (c0Z o).low hok, rfl⟩
 obtain ⟨dst, op, type, pos, after, guard⟩ := o
 unfold c5c
 cases op with
 | move x => simp only [lD]; exact ⟨_, (c2j x).low hok, rfl⟩
 | assign x => simp only [lD]; exact ⟨_, (c2N x).low hok, rfl⟩
 | pick c a b => simp only [lD]; exact ⟨_, (b7y c a b).low hok, rfl⟩
 | binOp op t x y yt =>
   simp only [lD, kS]
   split
   ·split
    ·rename_i g hg; exact ⟨_, (b9n hg t yt x y).low hok, rfl⟩
    ·exact gen
   ·exact gen
 | load t x =>
   simp only [lD]
   split
   ·rename_i ht
    cases hn : iE P t with
    | none => exact gen
    | some n => rw [pG]; exact ⟨_, (b9Q ht hn x).low hok, rfl⟩
   ·rename_i ht; exact ⟨_, (b9s ht x).low hok, rfl⟩
   ·exact gen
 | store t x y =>
   simp only [lD]
   cases hn : iE P t with
   | none => exact gen
   | some n => rw [pG]; exact ⟨_, (c2F hn x y).low hok, rfl⟩
 | fieldAddr s x k =>
   simp only [lD]
   split
   ·rename_i fd hfd
    split
    ·exact gen
    ·rename_i n hn0 hn
     rw [kB]
     exact ⟨_, (c3J hfd hn (fun e => hn0 e) x).low hok, rfl⟩
    ·exact gen
   ·exact gen
 | indexAddr t x i =>
   simp only [lD]
   split
   ·rename_i elem ht
    cases hs : iE P elem with
    | none => exact gen
    | some n => rw [pG]; exact ⟨_, (b9H ht hs x i).low hok, rfl⟩
   ·rename_i n elem ht
    cases hs : iE P elem with
    | none => exact gen
    | some m => rw [pG]; exact ⟨_, (b8W ht hs x i).low hok, rfl⟩
   ·exact gen
 | extract t i => simp only [lD]; rw [kB]; exact ⟨_, (b8L i t).low hok, rfl⟩
 | call c =>
   simp only
   unfold b4W
   split
   ·rename_i k hc
    rw [lN, a4R]
    exact ⟨_, b4i hc hok, rfl⟩
   ·rename_i g _ hc
    rw [lD, a4R]
    exact ⟨_, b2T hc hok, rfl⟩
   ·rename_i hc
    rw [kS]
    split
    ·rename_i h1
     simp only [cW, beq_iff_eq] at h1
     split
     ·rename_i elem ht; rw [lD]; exact ⟨_, (c0G hc h1.1 h1.2 ht).low hok, rfl⟩
     ·rename_i ht; rw [lD]; exact ⟨_, (b8c hc h1.1 h1.2 ht).low hok, rfl⟩
     ·exact gen
    ·exact gen
   ·rename_i hc
    rw [kS]
    split
    ·rename_i h1
     simp only [cW, beq_iff_eq] at h1
     split
     ·rename_i elem he
      cases hs : iE P elem with
      | none => exact gen
      | some size =>
        rw [pG]
        cases hb : mW P elem with
        | none => exact gen
        | some bytes =>
          rw [pG]
          split
          ·rename_i z hz
           rw [kS]
           split
           ·rename_i h2
            simp only [cW, beq_iff_eq, bne_iff_ne] at h2
            rw [kB, lD, lD]
            exact ⟨_, (c1d hc h1.1.1 h1.1.2 h1.2 he hs hb hz h2.1 h2.2).low hok, rfl⟩
           ·exact gen
          ·exact gen
     ·exact gen
    ·exact gen
   ·exact gen
 | _ => exact gen
def DOk (k : Nat) (dst : Option Tmp) (d : Option Pth) : Prop := (dst = none ∧ d = none) ∨ ∃ t, dst = some t ∧ t < k ∧ d = some (kT t)
inductive LowOps (P : Program) (k : Nat) (ops : Array Oper) : List Oper → LOps → Prop
 | nil : LowOps P k ops [] .nil
 | cons {o : Oper} {os : List Oper} {d : Option Pth} {lo : LOp} {r : LOps} (hd : DOk k o.dst d) (ho : wU P o lo) (hg : o.guard = none) (hr : LowOps P k ops os r) : LowOps P k ops (o :: os) (.cons d lo r)
 | gcons {o : Oper} {os : List Oper} {d : Option Pth} {lo : LOp} {r : LOps} {j t : Nat} {w : Bool} (hd : DOk k o.dst d) (ho : wU P o lo) (hg : o.guard = some (j, w)) (ht : (ops[j]?).bind (·.dst) = some t) (htk : t < k) (hr : LowOps P k ops os r) : LowOps P k ops (o :: os) (.gcons (kT t) w d lo r)
def GOk (ops : Array Oper) (o : Oper) (g : Option (Pth × Bool)) : Prop := (o.guard = none ∧ g = none) ∨ ∃ j w t, o.guard = some (j, w) ∧ (ops[j]?).bind (·.dst) = some t ∧ g = some (kT t, w)
theorem GOk.runs {ops : Array Oper} {o : Oper} {g : Option (Pth × Bool)} (h : GOk ops o g) {f : Fr} {l : List Value} (hf : FAg f l) (hw : Region.wanted o (iU ops l) = true) : b7a f g = true := by
 rcases h with ⟨_, rfl⟩ | ⟨j, w, t, hg, ht, rfl⟩
 ·rfl
 ·simp only [Region.wanted, hg, iU, ht] at hw
  show isB (oK (kT t) f) w = true
  rw [hf t, oS, dc]
  cases hl : l[t]? with
  | none => rw [hl] at hw; simp at hw
  | some v =>
    rw [hl] at hw
    cases v <;> simp at hw
    subst hw
    rename_i b
    cases b <;> rfl
inductive LowTab (P : Program) (ops : Array Oper) : List (Nat × Nat) → List (Nat × Option Nat × Option (Pth × Bool) × LOp) → Prop
 | nil : LowTab P ops [] []
 | cons {i m : Nat} {o : Oper} {lo : LOp} {tab : List (Nat × Nat)} {t : List (Nat × Option Nat × Option (Pth × Bool) × LOp)} {g : Option (Pth × Bool)} (ho : ops[i]? = some o) (hgd : GOk ops o g) (hl : wU P o lo) (hr : LowTab P ops tab t) :
    LowTab P ops ((i, m) :: tab) ((ops.size - 1 - i, if m < ops.size then some (ops.size - 1 - m) else none, g, lo) :: t)
inductive Low (P : Program) (k : Nat) : Code → LCode → Prop
 | bad (c : Code) : Low P k c .bad
 | skip : Low P k .skip .skip
 | label (t : Nat) : Low P k (.label t) .skip
 | reg {id : Nat} {ops : Array Oper} {d : Bool} {lo : LOps} (h : LowOps P k ops ops.toList lo) (hd : d = true → nE P ops = some []) : Low P k (.region id ops d) (.reg lo)
 | drw {id : Nat} {ops : Array Oper} {lo : LOps} {tab : List (Nat × Nat)} {t : List (Nat × Option Nat × Option (Pth × Bool) × LOp)} (h : LowOps P k ops ops.toList lo) (ht : nE P ops = some tab) (hl : LowTab P ops tab t) : Low P k (.region id ops true) (.drw lo t)
 | seq {a b : Code} {A B : LCode} (ha : Low P k a A) (hb : Low P k b B) : Low P k (.seq a b) (.seq A B)
 | cond {c : Operand} {x y : Code} {X Y : LCode} (hc : iP c = true) (hx : Low P k x X) (hy : Low P k y Y) : Low P k (.cond c x y) (.cond (iV c) X Y)
 | block {id : Nat} {b : Code} {B : LCode} (hb : Low P k b B) : Low P k (.block id b) (.block id B)
 | loop {b : Code} {B : LCode} (hb : Low P k b B) : Low P k (.loop b) (.loop B)
 | exit (id : Nat) : Low P k (.exit id) (.exit id)
 | ret : Low P k .ret .ret
 | range {g : Operand} {ps : Array Tmp} {assign body : Code} {A B : LCode} (hg : iP g = true) (hps : ∀ t ∈ ps.toList, t < k) (ha : Low P k assign A) (hb : Low P k body B) :
    Low P k (.rangeFunc g ps assign body) (.range (iV g) ((List.range k).map kT) (ps.toList.map kT) ps assign body A B)
section
variable {α : Type}
theorem b6I (k : Nat) (dst : Option Tmp) (no : α) (K : Option Pth → α) : (∃ d, DOk k dst d ∧ a8f k dst no K = K d) ∨ a8f k dst no K = no := by
 cases dst with
 | none => exact .inl ⟨none, .inl ⟨rfl, rfl⟩, rfl⟩
 | some t =>
   simp only [a8f, kS]
   split
   ·rename_i h
    rw [lN]
    rw [blt_eq] at h
    exact .inl ⟨_, .inr ⟨t, rfl, by simpa using h, rfl⟩, rfl⟩
   ·exact .inr rfl
theorem a2w (k : Nat) (ops : Array Oper) (l : List Oper) (K : LOps → α) (no : α) : (∃ L, LowOps P k ops l L ∧ vS P k ops l K no = K L) ∨ vS P k ops l K no = no := by
 induction l generalizing K with
 | nil => exact .inl ⟨_, .nil, rfl⟩
 | cons o l ih =>
   let K2 : Option Pth → LOp → α := fun d o' => match o.guard with
    | none => vS P k ops l (fun r => K (.cons d o' r)) no
    | some (j, w) => match (ops[j]?).bind (·.dst) with
      | some t => oJ (Nat.blt t k) no (lR (kT t) fun p => a0k w fun w => vS P k ops l (fun r => K (.gcons p w d o' r)) no)
      | none => no
   have e : vS P k ops (o :: l) K no = a8f k o.dst no fun d => yL P o fun o' => K2 d o' := rfl
   rw [e]
   rcases b6I k o.dst no (fun d => yL P o fun o' => K2 d o') with ⟨d, hd, h1⟩ | h1
   ·rw [h1]
    obtain ⟨lo, hlo, h2⟩ := b1E (P := P) o (fun o' => K2 d o')
    rw [h2]
    simp only [K2]
    split
    ·rename_i hg
     rcases ih (fun r => K (.cons d lo r)) with ⟨L, hL, h3⟩ | h3
     ·exact .inl ⟨_, .cons hd hlo hg hL, h3⟩
     ·exact .inr h3
    ·rename_i j w hg
     split
     ·rename_i t ht
      rw [kS]
      split
      ·rename_i htk
       rw [lN, wE]
       rw [blt_eq] at htk
       rcases ih (fun r => K (.gcons (kT t) w d lo r)) with ⟨L, hL, h3⟩ | h3
       ·exact .inl ⟨_, .gcons hd hlo hg ht (by simpa using htk) hL, h3⟩
       ·exact .inr h3
      ·exact .inr rfl
     ·exact .inr rfl
   ·exact .inr h1
theorem c3T (k : Nat) (ops : Array Oper) (o : Oper) (no : α) (K : Option (Pth × Bool) → α) : (∃ g, GOk ops o g ∧ loG k ops o.guard no K = K g) ∨ loG k ops o.guard no K = no := by
 cases hg : o.guard with
 | none => exact .inl ⟨none, .inl ⟨hg, rfl⟩, rfl⟩
 | some x =>
   obtain ⟨j, w⟩ := x
   unfold loG
   cases ht : (ops[j]?).bind (·.dst) with
   | none => exact .inr (by simp only [ht])
   | some t =>
     simp only [ht, kS]
     split
     ·refine .inl ⟨some (kT t, w), .inr ⟨j, w, t, hg, ht, rfl⟩, ?_⟩
      rw [lN, wE]
     ·exact .inr rfl
theorem b5w (k : Nat) (ops : Array Oper) (tab : List (Nat × Nat)) (K : List (Nat × Option Nat × Option (Pth × Bool) × LOp) → α) (no : α) : (∃ t, LowTab P ops tab t ∧ uO P k ops ops.size tab K no = K t) ∨ uO P k ops ops.size tab K no = no := by
 induction tab generalizing K with
 | nil => exact .inl ⟨_, .nil, rfl⟩
 | cons x tab ih =>
   obtain ⟨i, m⟩ := x
   cases ho : ops[i]? with
   | none =>
     refine .inr ?_
     show (match ops[i]? with
      | some o => _
      | none => no) = no
     rw [ho]
   | some o =>
     let K2 : Option (Pth × Bool) → LOp → α := fun g o' => kE (ops.size - 1 - i) fun i => oJ (Nat.blt m ops.size) (uO P k ops ops.size tab (fun l => K ((i, none, g, o') :: l)) no) (kE (ops.size - 1 - m) fun m => uO P k ops ops.size tab (fun l => K ((i, some m, g, o') :: l)) no)
     have e : uO P k ops ops.size ((i, m) :: tab) K no = loG k ops o.guard no fun g => yL P o fun o' => K2 g o' := by
      show (match ops[i]? with
       | some o => loG k ops o.guard no fun g => yL P o fun o' => K2 g o'
       | none => no) = _
      rw [ho]
     rw [e]
     rcases c3T k ops o no (fun g => yL P o fun o' => K2 g o') with ⟨g, hgd, h1⟩ | h1
     ·rw [h1]
      obtain ⟨lo, hlo, h2⟩ := b1E (P := P) o (fun o' => K2 g o')
      rw [h2]
      show (∃ t, _ ∧ kE (ops.size - 1 - i) (fun i => oJ (Nat.blt m ops.size) (uO P k ops ops.size tab (fun l => K ((i, none, g, lo) :: l)) no) (kE (ops.size - 1 - m) fun m => uO P k ops ops.size tab (fun l => K ((i, some m, g, lo) :: l)) no)) = K t) ∨ kE (ops.size - 1 - i) (fun i => oJ (Nat.blt m ops.size) (uO P k ops ops.size tab (fun l => K ((i, none, g, lo) :: l)) no) (kE (ops.size - 1 - m) fun m => uO P k ops ops.size tab (fun l => K ((i, some m, g, lo) :: l)) no)) = no
      rw [kB, kS, kB, blt_eq]
      by_cases hm : m < ops.size
      ·rw [if_pos (by simpa using hm)]
       rcases ih (fun l => K ((ops.size - 1 - i, some (ops.size - 1 - m), g, lo) :: l)) with ⟨t, ht, h3⟩ | h3
       ·have := LowTab.cons (m := m) ho hgd hlo ht
        rw [if_pos hm] at this
        exact .inl ⟨_, this, h3⟩
       ·exact .inr h3
      ·rw [if_neg (by simpa using hm)]
       rcases ih (fun l => K ((ops.size - 1 - i, none, g, lo) :: l)) with ⟨t, ht, h3⟩ | h3
       ·have := LowTab.cons (m := m) ho hgd hlo ht
        rw [if_neg hm] at this
        exact .inl ⟨_, this, h3⟩
       ·exact .inr h3
     ·exact .inr h1
theorem b2K (k : Nat) (l : List Tmp) (K : List Pth → α) (no : α) : ((∀ t ∈ l, t < k) ∧ yG k l K no = K (l.map kT)) ∨ yG k l K no = no := by
 induction l generalizing K with
 | nil => exact .inl ⟨by simp, rfl⟩
 | cons t l ih =>
   show _ ∨ oJ (Nat.blt t k) no (lR (kT t) fun p => yG k l (fun l => K (p :: l)) no) = no
   have e : yG k (t :: l) K no = oJ (Nat.blt t k) no (lR (kT t) fun p => yG k l (fun l => K (p :: l)) no) := rfl
   rw [e, kS, lN, blt_eq]
   by_cases h : t < k
   ·rw [if_pos (by simpa using h)]
    rcases ih (fun l => K (kT t :: l)) with ⟨h1, h2⟩ | h2
    ·exact .inl ⟨by simpa using ⟨h, h1⟩, h2⟩
    ·exact .inr h2
   ·rw [if_neg (by simpa using h)]; exact .inr rfl
theorem b3b (k : Nat) (c : Code) (K : LCode → α) : ∃ C, Low P k c C ∧ nK P k c K = K C := by
 induction c generalizing K with
 | skip => exact ⟨_, .skip, rfl⟩
 | region id ops d =>
   cases d with
   | false =>
     show ∃ C, _ ∧ vS P k ops ops.toList (fun l => K (.reg l)) (K .bad) = K C
     rcases a2w (P := P) k ops ops.toList (fun l => K (.reg l)) (K .bad) with ⟨L, hL, h⟩ | h
     ·exact ⟨_, .reg hL (fun h => by cases h), h⟩
     ·exact ⟨_, .bad _, h⟩
   | true =>
     show ∃ C, _ ∧ (match nE P ops with
      | some [] => vS P k ops ops.toList (fun l => K (.reg l)) (K .bad)
      | some tab => vS P k ops ops.toList (fun l => uO P k ops ops.size tab (fun t => K (.drw l t)) (K .bad)) (K .bad)
      | none => K .bad) = K C
     split
     ·rename_i hd
      rcases a2w (P := P) k ops ops.toList (fun l => K (.reg l)) (K .bad) with ⟨L, hL, h⟩ | h
      ·exact ⟨_, .reg hL (fun _ => hd), h⟩
      ·exact ⟨_, .bad _, h⟩
     ·rename_i tab _ hd
      rcases a2w (P := P) k ops ops.toList (fun l => uO P k ops ops.size tab (fun t => K (.drw l t)) (K .bad)) (K .bad) with ⟨L, hL, h⟩ | h
      ·rw [h]
       rcases b5w (P := P) k ops tab (fun t => K (.drw L t)) (K .bad) with ⟨t, ht, h2⟩ | h2
       ·exact ⟨_, .drw hL hd ht, h2⟩
       ·exact ⟨_, .bad _, h2⟩
      ·exact ⟨_, .bad _, h⟩
     ·exact ⟨_, .bad _, rfl⟩
 | seq a b iha ihb =>
   show ∃ C, _ ∧ nK P k a (fun a => nK P k b fun b => K (.seq a b)) = K C
   obtain ⟨A, hA, h1⟩ := iha (fun a => nK P k b fun b => K (.seq a b))
   obtain ⟨B, hB, h2⟩ := ihb (fun b => K (.seq A b))
   exact ⟨_, .seq hA hB, h1.trans h2⟩
 | cond c x y ihx ihy =>
   show ∃ C, _ ∧ oJ (iP c) (K .bad) (lV c fun c => nK P k x fun x => nK P k y fun y => K (.cond c x y)) = K C
   rw [kS]
   split
   ·rename_i hc
    rw [lD]
    obtain ⟨X, hX, h1⟩ := ihx (fun x => nK P k y fun y => K (.cond (iV c) x y))
    obtain ⟨Y, hY, h2⟩ := ihy (fun y => K (.cond (iV c) X y))
    exact ⟨_, .cond hc hX hY, h1.trans h2⟩
   ·exact ⟨_, .bad _, rfl⟩
 | block id b ih =>
   show ∃ C, _ ∧ kE id (fun id => nK P k b fun b => K (.block id b)) = K C
   rw [kB]
   obtain ⟨B, hB, h1⟩ := ih (fun b => K (.block id b))
   exact ⟨_, .block hB, h1⟩
 | loop b ih =>
   show ∃ C, _ ∧ nK P k b (fun b => K (.loop b)) = K C
   obtain ⟨B, hB, h1⟩ := ih (fun b => K (.loop b))
   exact ⟨_, .loop hB, h1⟩
 | rangeFunc g ps assign body iha ihb =>
   show ∃ C, _ ∧ oJ (iP g) (K .bad) (lV g fun g' => b4d k fun pp => yG k ps.toList (fun q => nK P k assign fun a => nK P k body fun b => K (.range g' pp q ps assign body a b)) (K .bad)) = K C
   rw [kS]
   split
   ·rename_i hg
    rw [lD, b1O]
    rcases b2K k ps.toList (fun q => nK P k assign fun a => nK P k body fun b => K (.range (iV g) ((List.range k).map kT) q ps assign body a b)) (K .bad) with ⟨hps, h⟩ | h
    ·obtain ⟨A, hA, h1⟩ := iha (fun a => nK P k body fun b => K (.range (iV g) ((List.range k).map kT) (ps.toList.map kT) ps assign body a b))
     obtain ⟨B, hB, h2⟩ := ihb (fun b => K (.range (iV g) ((List.range k).map kT) (ps.toList.map kT) ps assign body A b))
     exact ⟨_, .range hg hps hA hB, h.trans (h1.trans h2)⟩
    ·exact ⟨_, .bad _, h⟩
   ·exact ⟨_, .bad _, rfl⟩
 | exit id =>
   show ∃ C, _ ∧ kE id (fun id => K (.exit id)) = K C
   rw [kB]
   exact ⟨_, .exit id, rfl⟩
 | label t => exact ⟨_, .label t, rfl⟩
 | ret => exact ⟨_, .ret, rfl⟩
 | scope b _ => exact ⟨_, .bad _, rfl⟩
 | goto t => exact ⟨_, .bad _, rfl⟩
 | refuse w => exact ⟨_, .bad _, rfl⟩
end
theorem wJ {α : Type} {k : Nat} {f : Fr} {l : List Value} (h : FRel k f l) {dst : Option Tmp} {d : Option Pth} (hd : DOk k dst d) (v : Value) (K : Fr → α) : ∃ f', vZ d v f K = K f' ∧ FRel k f' (put l dst v) := by
 rcases hd with ⟨rfl, rfl⟩ | ⟨t, rfl, ht, rfl⟩
 ·exact ⟨f, rfl, h⟩
 ·exact ⟨b7n f t v, tP v (kT t) f K, h.put ht v⟩
theorem zK {ops : Array Oper} {l : List Value} {j t : Nat} (ht : (ops[j]?).bind (·.dst) = some t) (htl : t < l.length) (w : Bool) : (iU ops l j == some w) = isB (get l t) w := by
 have hg : get l t = l[t] := by rw [oS]; simp [htl]
 unfold iU
 rw [ht, hg]
 simp only [dq htl]
 cases hv : l[t] <;> simp [isB]
 rename_i b
 cases b <;> cases w <;> rfl
theorem b9x {k : Nat} {ops : Array Oper} {C : Calls'} {H0 : Heap} (hC : CallsOk P C H0) {os : List Oper} {lo : LOps} (hlo : LowOps P k ops os lo) : ∀ {i : Nat}, ops.toList.drop i = os → ∀ {f : Fr} {l : List Value} {H : Heap} {f1 : Fr} {H1 : Heap},
 FRel k f l → LK H0 H → yZ P C lo f H = .ok f1 H1 → ∃ l1, FRel k f1 l1 ∧ OpsR P ops (List.range' i os.length) l H l1 H1 ∧ LK H H1 := by
 induction hlo with
 | nil =>
   intro i _ f l H f1 H1 hf _ h
   injection h with h1 h2
   subst h1 h2
   exact ⟨l, hf, .nil l H, .refl H⟩
 | @cons o os d lo r hd ho hg hr ih =>
   intro i hi f l H f1 H1 hf hk h
   have hio : ops[i]? = some o := by
    have : (ops.toList.drop i)[0]? = some o := by rw [hi]; rfl
    rw [dH] at this
    simpa using this
   have hi' : ops.toList.drop (i + 1) = os := by rw [← fx, hi]; rfl
   have hw : Region.wanted o (iU ops l) = true := by simp [Region.wanted, hg]
   have h : b1D Rf.no d f (yZ P C r) (opF P C lo f H) = .ok f1 H1 := h
   have key : ∀ v H2, (opF P C lo f H).Is v H2 → (vZ d v f fun f => yZ P C r f H2) = .ok f1 H1 → ∃ l1, FRel k f1 l1 ∧ OpsR P ops (List.range' i (o :: os).length) l H l1 H1 ∧ LK H H1 := by
    intro v H2 hop hrest
    obtain ⟨hs, hk2⟩ := ho C H0 f l H v H2 hC hk hf.2 hop
    obtain ⟨f', e, hf'⟩ := wJ hf hd v (fun f => yZ P C r f H2)
    rw [e] at hrest
    obtain ⟨l1, h1, h2, h3⟩ := ih hi' hf' (hk.trans hk2) hrest
    exact ⟨l1, h1, .step hio hw hs h2, hk2.trans h3⟩
   cases hop : opF P C lo f H with
   | no => rw [hop] at h; cases h
   | ok v H2 => rw [hop] at h; exact key v H2 (.inl hop) h
   | th v H2 =>
     rw [hop] at h
     have h : yN v (fun v => nX H2 fun H2 => vZ d v f fun f => yZ P C r f H2) = .ok f1 H1 := h
     rw [yM, mB] at h
     exact key v H2 (.inr hop) h
 | @gcons o os d lo r j t w hd ho hg ht htk hr ih =>
   intro i hi f l H f1 H1 hf hk h
   have hio : ops[i]? = some o := by
    have : (ops.toList.drop i)[0]? = some o := by rw [hi]; rfl
    rw [dH] at this
    simpa using this
   have hi' : ops.toList.drop (i + 1) = os := by rw [← fx, hi]; rfl
   have hwi : Region.wanted o (iU ops l) = isB (oK (kT t) f) w := by
    simp only [Region.wanted, hg]
    rw [zK ht (by rw [hf.1]; exact htk) w, hf.2 t]
   have h : oJ (isB (oK (kT t) f) w) (vZ d undef f fun f => yZ P C r f H) (b1D Rf.no d f (yZ P C r) (opF P C lo f H)) = .ok f1 H1 := h
   rw [kS] at h
   split at h
   ·rename_i hb
    have key : ∀ v H2, (opF P C lo f H).Is v H2 → (vZ d v f fun f => yZ P C r f H2) = .ok f1 H1 → ∃ l1, FRel k f1 l1 ∧ OpsR P ops (List.range' i (o :: os).length) l H l1 H1 ∧ LK H H1 := by
     intro v H2 hop hrest
     obtain ⟨hs, hk2⟩ := ho C H0 f l H v H2 hC hk hf.2 hop
     obtain ⟨f', e, hf'⟩ := wJ hf hd v (fun f => yZ P C r f H2)
     rw [e] at hrest
     obtain ⟨l1, h1, h2, h3⟩ := ih hi' hf' (hk.trans hk2) hrest
     exact ⟨l1, h1, .step hio (by rw [hwi, hb]) hs h2, hk2.trans h3⟩
    cases hop : opF P C lo f H with
    | no => rw [hop] at h; cases h
    | ok v H2 => rw [hop] at h; exact key v H2 (.inl hop) h
    | th v H2 =>
      rw [hop] at h
      have h : yN v (fun v => nX H2 fun H2 => vZ d v f fun f => yZ P C r f H2) = .ok f1 H1 := h
      rw [yM, mB] at h
      exact key v H2 (.inr hop) h
   ·rename_i hb
    obtain ⟨f', e, hf'⟩ := wJ hf hd undef (fun f => yZ P C r f H)
    rw [e] at h
    obtain ⟨l1, h1, h2, h3⟩ := ih hi' hf' hk h
    exact ⟨l1, h1, .past hio (by rw [hwi]; simpa using hb) h2, h3⟩
structure Noted (P : Program) (k : Nat) (ops : Array Oper) (H : Heap) (i n : Nat) (T : Nat → List Value × Heap) (val : Nat → Value) (tr0 tr : List (Fr × Heap × Value)) : Prop where
 step : ∀ j, i ≤ j → j < i + n → xA P ops j (T j) (T (j + 1)) (val j)
 new : ∀ j, i ≤ j → j < i + n → ∃ g, tr[i + n - 1 - j]? = some (g, (T j).2, val j) ∧ FAg g (T j).1
 old : ∀ m, tr[n + m]? = tr0[m]?
 lk : ∀ j, i ≤ j → j ≤ i + n → LK H (T j).2
theorem b6G {k : Nat} {ops : Array Oper} {C : Calls'} {H0 : Heap} (hC : CallsOk P C H0) {os : List Oper} {lo : LOps} (hlo : LowOps P k ops os lo) : ∀ {i : Nat}, ops.toList.drop i = os → ∀ {tr0 tr : List (Fr × Heap × Value)} {f : Fr} {l : List Value} {H : Heap} {f1 : Fr} {H1 : Heap},
 FRel k f l → LK H0 H → rW P C lo tr0 f H = .ok tr f1 H1 → ∃ T val l1, T i = (l, H) ∧ T (i + os.length) = (l1, H1) ∧ FRel k f1 l1 ∧ Noted P k ops H i os.length T val tr0 tr := by
 have more : ∀ {i n : Nat} {o : Oper} {tr0 tr : List (Fr × Heap × Value)} {f : Fr} {l : List Value} {H : Heap} {v : Value} {l2 : List Value} {H2 : Heap} {l1 : List Value} {H1 : Heap} {f1 : Fr}, FRel k f l → xA P ops i (l, H) (l2, H2) v → LK H H2 →
  (∃ T val l1, T (i + 1) = (l2, H2) ∧ T (i + 1 + n) = (l1, H1) ∧ FRel k f1 l1 ∧ Noted P k ops H2 (i + 1) n T val ((f, H, v) :: tr0) tr) →
  ∃ T val l1, T i = (l, H) ∧ T (i + (n + 1)) = (l1, H1) ∧ FRel k f1 l1 ∧ Noted P k ops H i (n + 1) T val tr0 tr := by
  intro i n o tr0 tr f l H v l2 H2 _ H1 f1 hf hst hk ⟨T, val, l1, h1, h2, h3, hN⟩
  refine ⟨fun j => if j ≤ i then (l, H) else T j, fun j => if j ≤ i then v else val j, l1, by simp, ?_, h3, ?_⟩
  ·show (if i + (n + 1) ≤ i then (l, H) else T (i + (n + 1))) = _
   rw [if_neg (by omega), ← h2]; congr 1; omega
  ·refine ⟨fun j hj hn => ?_, fun j hj hn => ?_, fun m => ?_, fun j hj hn => ?_⟩
   ·by_cases he : j = i
    ·subst he
     simp only [di, if_true]
     rw [if_neg (by omega), h1]
     exact hst
    ·rw [if_neg (by omega), if_neg (by omega), if_neg (by omega)]
     exact hN.step j (by omega) (by omega)
   ·by_cases he : j = i
    ·subst he
     simp only [di, if_true]
     refine ⟨f, ?_, hf.2⟩
     have := hN.old 0
     rw [show j + (n + 1) - 1 - j = n + 0 by omega, this]; rfl
    ·rw [if_neg (by omega), if_neg (by omega)]
     obtain ⟨g, hg, hag⟩ := hN.new j (by omega) (by omega)
     exact ⟨g, by rw [← hg]; congr 1; omega, hag⟩
   ·have := hN.old (m + 1)
    rw [show n + 1 + m = n + (m + 1) by omega, this]; rfl
   ·by_cases he : j = i
    ·subst he; simp only [di, if_true]; exact .refl H
    ·rw [if_neg (by omega)]; exact hk.trans (hN.lk j (by omega) (by omega))
 induction hlo with
 | nil =>
   intro i _ tr0 tr f l H f1 H1 hf _ h
   injection h with h1 h2 h3
   subst h1 h2 h3
   exact ⟨fun _ => (l, H), fun _ => undef, l, rfl, rfl, hf, fun j _ h => absurd h (by simp; omega), fun j _ h => absurd h (by simp; omega), fun m => by simp, fun _ _ _ => .refl H⟩
 | @cons o os d lo r hd ho hg hr ih =>
   intro i hi tr0 tr f l H f1 H1 hf hk h
   have hio : ops[i]? = some o := by
    have : (ops.toList.drop i)[0]? = some o := by rw [hi]; rfl
    rw [dH] at this
    simpa using this
   have hi' : ops.toList.drop (i + 1) = os := by rw [← fx, hi]; rfl
   have hw : Region.wanted o (iU ops l) = true := by simp [Region.wanted, hg]
   have h : b2m tr0 f H d (rW P C r) (opF P C lo f H) = .ok tr f1 H1 := h
   have key : ∀ v H2, (opF P C lo f H).Is v H2 → (vZ d v f fun f2 => rW P C r ((f, H, v) :: tr0) f2 H2) = .ok tr f1 H1 → ∃ T val l1, T i = (l, H) ∧ T (i + (o :: os).length) = (l1, H1) ∧ FRel k f1 l1 ∧ Noted P k ops H i (o :: os).length T val tr0 tr := by
    intro v H2 hop hrest
    obtain ⟨hs, hk2⟩ := ho C H0 f l H v H2 hC hk hf.2 hop
    obtain ⟨f', e, hf'⟩ := wJ hf hd v (fun f2 => rW P C r ((f, H, v) :: tr0) f2 H2)
    rw [e] at hrest
    have := ih hi' hf' (hk.trans hk2) hrest
    exact more (o := o) (l1 := l) hf ⟨o, hio, rfl, .inl ⟨hw, hs⟩⟩ hk2 this
   cases hop : opF P C lo f H with
   | no => rw [hop] at h; cases h
   | ok v H2 => rw [hop] at h; exact key v H2 (.inl hop) h
   | th v H2 =>
     rw [hop] at h
     have h : yN v (fun v => nX H2 fun H2 => vZ d v f fun f2 => rW P C r ((f, H, v) :: tr0) f2 H2) = .ok tr f1 H1 := h
     rw [yM, mB] at h
     exact key v H2 (.inr hop) h
 | @gcons o os d lo r j t w hd ho hg ht htk hr ih =>
   intro i hi tr0 tr f l H f1 H1 hf hk h
   have hio : ops[i]? = some o := by
    have : (ops.toList.drop i)[0]? = some o := by rw [hi]; rfl
    rw [dH] at this
    simpa using this
   have hi' : ops.toList.drop (i + 1) = os := by rw [← fx, hi]; rfl
   have hwi : Region.wanted o (iU ops l) = isB (oK (kT t) f) w := by
    simp only [Region.wanted, hg]
    rw [zK ht (by rw [hf.1]; exact htk) w, hf.2 t]
   have h : oJ (isB (oK (kT t) f) w) (vZ d undef f fun f2 => rW P C r ((f, H, undef) :: tr0) f2 H) (b2m tr0 f H d (rW P C r) (opF P C lo f H)) = .ok tr f1 H1 := h
   rw [kS] at h
   split at h
   ·rename_i hb
    have key : ∀ v H2, (opF P C lo f H).Is v H2 → (vZ d v f fun f2 => rW P C r ((f, H, v) :: tr0) f2 H2) = .ok tr f1 H1 → ∃ T val l1, T i = (l, H) ∧ T (i + (o :: os).length) = (l1, H1) ∧ FRel k f1 l1 ∧ Noted P k ops H i (o :: os).length T val tr0 tr := by
     intro v H2 hop hrest
     obtain ⟨hs, hk2⟩ := ho C H0 f l H v H2 hC hk hf.2 hop
     obtain ⟨f', e, hf'⟩ := wJ hf hd v (fun f2 => rW P C r ((f, H, v) :: tr0) f2 H2)
     rw [e] at hrest
     exact more (o := o) (l1 := l) hf ⟨o, hio, rfl, .inl ⟨by rw [hwi, hb], hs⟩⟩ hk2 (ih hi' hf' (hk.trans hk2) hrest)
    cases hop : opF P C lo f H with
    | no => rw [hop] at h; cases h
    | ok v H2 => rw [hop] at h; exact key v H2 (.inl hop) h
    | th v H2 =>
      rw [hop] at h
      have h : yN v (fun v => nX H2 fun H2 => vZ d v f fun f2 => rW P C r ((f, H, v) :: tr0) f2 H2) = .ok tr f1 H1 := h
      rw [yM, mB] at h
      exact key v H2 (.inr hop) h
   ·rename_i hb
    obtain ⟨f', e, hf'⟩ := wJ hf hd undef (fun f2 => rW P C r ((f, H, undef) :: tr0) f2 H)
    rw [e] at h
    exact more (o := o) (l1 := l) hf ⟨o, hio, rfl, .inr ⟨by rw [hwi]; simpa using hb, rfl, rfl⟩⟩ (.refl H) (ih hi' hf' hk h)
theorem b1Y {α : Type} (p : α → Bool) (l : List α) : b4O p l = l.all p := by
 induction l with
 | nil => rfl
 | cons x l ih =>
   show oJ (p x) false (b4O p l) = _
   rw [kS, ih, ft]
   cases p x <;> rfl
theorem b8E {v : Value} {r : Rs} (h : b8X v r = true) : ∃ H, r.Is v H := by
 cases r with
 | no => cases h
 | ok w H => exact ⟨H, .inl (by rw [b5f (show veq w v = true from h)])⟩
 | th w H => exact ⟨H, .inr (by rw [b5f (show veq w v = true from h)])⟩
theorem LowTab.get {ops : Array Oper} {tab : List (Nat × Nat)} {t : List (Nat × Option Nat × Option (Pth × Bool) × LOp)} (h : LowTab P ops tab t) {i m : Nat} (hm : (i, m) ∈ tab) : ∃ o lo g, ops[i]? = some o ∧ GOk ops o g ∧ wU P o lo ∧ (ops.size - 1 - i, (if m < ops.size then some (ops.size - 1 - m) else none), g, lo) ∈ t := by
 induction h with
 | nil => cases hm
 | @cons i2 m2 o lo tab t g ho hgd hl hr ih =>
   rcases dV.1 hm with he | hm
   ·injection he with h1 h2
    subst h1 h2
    exact ⟨o, lo, g, ho, hgd, hl, by simp⟩
   ·obtain ⟨o', lo', g', h1, h0, h2, h3⟩ := ih hm
    exact ⟨o', lo', g', h1, h0, h2, dO _ h3⟩
theorem a9p {fl : Fl} {ops : Array Oper} {i m : Nat} (h : (i, m) ∈ mO fl ops) {o : Oper} (ho : ops[i]? = some o) : oB o.op = true := by
 unfold mO at h
 simp only [dR] at h
 obtain ⟨⟨x, j⟩, hx, h⟩ := h
 dsimp only at h
 split at h
 ·rename_i hr
  simp only [dz] at h
  obtain ⟨m', _, e⟩ := h
  injection e with e1 e2
  subst e1
  have := gr.1 hx
  have : ops[j]? = some x := by simpa using this
  rw [this] at ho
  injection ho with ho
  subst ho
  exact hr
 ·cases h
theorem b8G (jZ : P.follows .mixedOrders = true) {k id : Nat} {ops : Array Oper} {C : Calls'} {H : Heap} (hC : CallsOk P C H) {lo : LOps} {tab : List (Nat × Nat)} {t : List (Nat × Option Nat × Option (Pth × Bool) × LOp)} (hlo : LowOps P k ops ops.toList lo) (htab : nE P ops = some tab) (hl : LowTab P ops tab t)
 {f : Fr} {l : List Value} {e : Ex} {f1 : Fr} {H1 : Heap} (hf : FRel k f l) (h : c1O P C t (rW P C lo [] f H) = .ok e f1 H1) : ∃ l1, e = .normal ∧ FRel k f1 l1 ∧ Sim P (.region id ops true) l H .normal l1 H1 ∧ LK H H1 := by
 cases hr : rW P C lo [] f H with
 | no => rw [hr] at h; cases h
 | ok tr f2 H2 =>
   rw [hr] at h
   have h : oJ (b4O (b4K P C tr H2) t) Rc.no (.ok .normal f2 H2) = .ok e f1 H1 := h
   rw [kS] at h
   split at h
   case isFalse => cases h
   rename_i hall
   injection h with h1 h2 h3
   subst h1 h2 h3
   obtain ⟨T, val, l1, hT0, hTn, hf1, hN⟩ := b6G hC hlo (i := 0) rfl hf (.refl H) hr
   rw [fA, fJ] at hTn
   rw [fA] at hN
   have hlk : LK H H2 := by have := hN.lk ops.size (eV _) (by omega); rwa [hTn] at this
   refine ⟨l1, rfl, hf1, ?_, hlk⟩
   have := Sim.draw jZ (id := id) htab (T := T) (val := val) ⟨fun j hj => hN.step j (eV _) (by omega)⟩ ?_
   ·rw [hT0, hTn] at this; exact this
   ·intro i m o hm ho hw
    obtain ⟨o', lo', gd, ho', hgd, hlow, hmem⟩ := hl.get hm
    rw [ho] at ho'
    obtain rfl := cV ho'
    rw [b1Y, dx] at hall
    have hrd := hall _ hmem
    have hi : i < ops.size := (dg.1 ho).1
    obtain ⟨g, hg, hag⟩ := hN.new i (eV _) (by omega)
    have hg : tr[ops.size - 1 - i]? = some (g, (T i).2, val i) := by rw [← hg]; congr 1; omega
    have hread : oB o.op = true := by
     obtain ⟨fl, _, rfl⟩ := qL htab
     exact a9p hm ho
    have fin : ∀ H3, LK H H3 → b8X (val i) (opF P C lo' g H3) = true → ∃ H4, opD P o (T i).1 H3 = some (val i, H4) := by
     intro H3 hk3 hq
     obtain ⟨H4, h4⟩ := b8E hq
     obtain ⟨hs, _⟩ := hlow C H g (T i).1 H3 (val i) H4 hC hk3 hag h4
     refine ⟨H4, hs.opD fun c fv hc hv => ?_⟩
     rw [hc] at hread
     simp [oB, hv] at hread
    unfold b4K at hrd
    simp only [zY, hg, hgd.runs hag hw] at hrd
    rw [kS, if_pos rfl] at hrd
    by_cases hms : m < ops.size
    ·rw [if_pos hms] at hrd
     obtain ⟨g2, hg2, _⟩ := hN.new m (eV _) (by omega)
     have hg2 : tr[ops.size - 1 - m]? = some (g2, (T m).2, val m) := by rw [← hg2]; congr 1; omega
     simp only [hg2] at hrd
     exact fin _ (hN.lk m (eV _) (by omega)) hrd
    ·rw [if_neg hms] at hrd
     have hle : m = ops.size := by
      obtain ⟨fl, _, rfl⟩ := qL htab
      have := a3p hm
      omega
     subst hle
     have := fin H2 hlk hrd
     rw [hTn]; exact this
def vX (P : Program) : List ResultVar → List LRes → Prop
 | [], [] => True
 | r :: rs, l :: ls => (match r, l with
   | .tmp t, .t p => p = kT t
   | .cell a t, .c1 p => p = kT a ∧ jR P t = some false
   | .cell a t, .cn n p => p = kT a ∧ jR P t = some true ∧ iE P t = some n
   | _, _ => False) ∧ vX P rs ls
 | _, _ => False
theorem b7v {α : Type} (l : List ResultVar) (K : List LRes → α) (no : α) : (∃ r, vX P l r ∧ a1h P l K no = K r) ∨ a1h P l K no = no := by
 induction l generalizing K with
 | nil => exact .inl ⟨[], trivial, rfl⟩
 | cons r l ih =>
   cases r with
   | tmp t =>
     have e : a1h P (.tmp t :: l) K no = lR (kT t) fun p => a1h P l (fun l => K (.t p :: l)) no := rfl
     rw [e, lN]
     rcases ih (fun l => K (.t (kT t) :: l)) with ⟨q, h1, h2⟩ | h2
     ·exact .inl ⟨.t (kT t) :: q, ⟨rfl, h1⟩, h2⟩
     ·exact .inr h2
   | cell a t =>
     have e : a1h P (.cell a t :: l) K no = match jR P t with
      | some true => a3L (iE P t) no fun n => lR (kT a) fun p => a1h P l (fun l => K (.cn n p :: l)) no
      | some false => lR (kT a) fun p => a1h P l (fun l => K (.c1 p :: l)) no
      | none => no := rfl
     rw [e]
     split
     ·rename_i ha
      cases hn : iE P t with
      | none => exact .inr rfl
      | some n =>
        rw [pG, lN]
        rcases ih (fun l => K (.cn n (kT a) :: l)) with ⟨q, h1, h2⟩ | h2
        ·exact .inl ⟨.cn n (kT a) :: q, ⟨⟨rfl, ha, hn⟩, h1⟩, h2⟩
        ·exact .inr h2
     ·rename_i ha
      rw [lN]
      rcases ih (fun l => K (.c1 (kT a) :: l)) with ⟨q, h1, h2⟩ | h2
      ·exact .inl ⟨.c1 (kT a) :: q, ⟨⟨rfl, ha⟩, h1⟩, h2⟩
      ·exact .inr h2
     ·exact .inr rfl
theorem b1p {H H1 : Heap} {f : Fr} {l : List Value} (hf : FAg f l) {r : ResultVar} {q : LRes} {rs : List ResultVar} {qs : List LRes} (h : vX P (r :: rs) (q :: qs)) {v : Value} (hv : (a4h H f q).Is v H1) : H1 = H ∧ a1K P l H r = some v ∧ vX P rs qs := by
 obtain ⟨h, hr⟩ := h
 cases r with
 | tmp t => cases q with
   | t p =>
     have h : p = kT t := h
     subst h
     have hv : (oT (oK (kT t) f) fun v => Rs.ok v H).Is v H1 := hv
     rw [mV] at hv
     obtain ⟨rfl, rfl⟩ := Rs.aN hv
     exact ⟨rfl, by rw [hf t]; rfl, hr⟩
   | c1 p => exact h.elim
   | cn n p => exact h.elim
 | cell a t => cases q with
   | t p => exact h.elim
   | c1 p =>
     obtain ⟨rfl, ha⟩ := h
     obtain ⟨e, h1⟩ := b1r (P := P) (X := .t (kT a)) (w := get l a) ha (hf a) hv
     exact ⟨e, h1, hr⟩
   | cn n p =>
     obtain ⟨rfl, ha, hn⟩ := h
     obtain ⟨e, h1⟩ := b1u (P := P) (X := .t (kT a)) (w := get l a) ha hn (hf a) hv
     exact ⟨e, h1, hr⟩
theorem b9O {H : Heap} {f : Fr} {q : LRes} {v : Value} {H1 : Heap} : ¬ (a4h H f q = .th v H1) := by
 intro h
 cases q with
 | t p =>
   have h : (oT (oK p f) fun v => Rs.ok v H) = .th v H1 := h
   rw [mV] at h; cases h
 | c1 p =>
   have h : b2N (.t p) f H = .th v H1 := h
   unfold b2N at h
   split at h
   ·unfold b9T at h
    split at h
    ·rw [kS, kS, kS] at h
     split at h
     ·split at h
      ·split at h
       ·rename_i cs _ _ _ _ _ _ _ _
        cases hn : a1x cs _ with
        | none => rw [hn] at h; cases h
        | some w => rw [hn] at h; have h : (oT w fun v => Rs.ok v H) = .th v H1 := h; rw [mV] at h; cases h
       ·cases h
      ·cases h
     ·cases h
    ·cases h
   ·unfold c3Y at h
    split at h
    ·rw [kS] at h
     split at h
     ·rename_i cs _ _ _ _
      cases hn : a1x cs _ with
      | none => rw [hn] at h; cases h
      | some w => rw [hn] at h; have h : (oT w fun v => Rs.ok v H) = .th v H1 := h; rw [mV] at h; cases h
     ·cases h
    ·cases h
   ·cases h
 | cn n p =>
   have hh : b4t n (.t p) f H = .th v H1 := h
   unfold b4t at hh
   split at hh
   ·unfold c0T at hh
    split at hh
    ·rw [kS, kS, kS] at hh
     split at hh
     ·split at hh
      ·split at hh
       ·have key : ∀ {cs : List Value} {n : Nat} {pre : List Value}, ¬ (a3u cs n fun l => Rs.ok (.agg ⟨pre ++ l⟩) H) = .th v H1 := by
         intro cs
         induction cs with
         | nil => intro n pre h; cases n <;> cases h
         | cons c cs ih =>
           intro n pre h
           cases n with
           | zero => cases h
           | succ n =>
             have h : (a3u cs n fun l => Rs.ok (.agg ⟨pre ++ (c :: l)⟩) H) = .th v H1 := h
             have e : ∀ l : List Value, pre ++ (c :: l) = (pre ++ [c]) ++ l := by intro l; simp
             have h2 : (a3u cs n fun l => Rs.ok (.agg ⟨(pre ++ [c]) ++ l⟩) H) = .th v H1 := by
              rw [← h]; congr 1; funext l; rw [e l]
             exact ih h2
        exact key (pre := []) hh
       ·cases hh
      ·cases hh
     ·cases hh
    ·cases hh
   ·cases hh
theorem a7n {H H1 : Heap} {f : Fr} {l : List Value} (hf : FAg f l) {v : Value} : ∀ {rs : List ResultVar} {qs : List LRes} {K : List Value → Rs}, vX P rs qs → (b4L H f qs K).Is v H1 → ∃ vs, nN P l H rs = some vs ∧ (K vs).Is v H1
 | [], [], K, _, h => ⟨[], rfl, h⟩
 | [], _ :: _, _, h, _ => h.elim
 | _ :: _, [], _, h, _ => h.elim
 | r :: rs, q :: qs, K, hl, h => by
   have h : (Rs.rec (motive := fun _ => Rs) .no (fun v _ => b4L H f qs fun l => K (v :: l)) (fun _ _ => .no) (a4h H f q)).Is v H1 := h
   cases hq : a4h H f q with
   | no => rw [hq] at h; exact absurd h Rs.ar
   | th w H2 => exact absurd hq b9O
   | ok w H2 =>
     rw [hq] at h
     obtain ⟨e, h1, h2⟩ := b1p hf hl (.inl hq)
     obtain ⟨vs, h3, h4⟩ := a7n hf h2 h
     exact ⟨w :: vs, by simp [nN, h1, h3], h4⟩
theorem b5g {fn : Func} {H H1 : Heap} {f : Fr} {l : List Value} (hf : FAg f l) {qs : List LRes} (hl : vX P fn.results.toList qs) {v : Value} (h : (a7r qs f H).Is v H1) : H1 = H ∧ iC P fn l H = some v := by
 unfold a7r at h
 split at h
 ·rename_i q
  cases hr : fn.results.toList with
  | nil => rw [hr] at hl; exact hl.elim
  | cons r rs =>
    rw [hr] at hl
    obtain ⟨e, h1, h2⟩ := b1p hf hl h
    cases rs with
    | cons _ _ => exact h2.elim
    | nil => exact ⟨e, by simp [iC, hr, nN, h1]⟩
 ·rename_i hne
  obtain ⟨vs, h1, h2⟩ := a7n hf hl h
  obtain ⟨h3, h4⟩ := lJ h2
  obtain ⟨rfl, rfl⟩ := Rs.aN h4
  refine ⟨rfl, ?_⟩
  have hlen : ∀ {rs : List ResultVar} {qs : List LRes}, vX P rs qs → rs.length = qs.length := by
   intro rs
   induction rs with
   | nil => intro qs h; cases qs with | nil => rfl | cons => exact h.elim
   | cons r rs ih => intro qs h; cases qs with | nil => exact h.elim | cons q qs => simp [ih h.2]
  have hvl : ∀ {rs : List ResultVar} {vs : List Value}, nN P l H1 rs = some vs → vs.length = rs.length := by
   intro rs
   induction rs with
   | nil => intro vs h; injection h with h; subst h; rfl
   | cons r rs ih =>
     intro vs h
     simp only [nN, cY, dh] at h
     obtain ⟨w, _, ws, h1, h2⟩ := h
     subst h2
     simp [ih h1]
  have hn1 : vs.length ≠ 1 := by
   rw [hvl h1, hlen hl]
   intro h1
   match qs, h1 with
   | [q], _ => exact hne q rfl
  unfold iC
  rw [h1, cX]
  rw [b1Y] at h3
  have h3 : vs.all jD = true := by rw [← h3]; congr 1
  split
  ·exact absurd rfl hn1
  ·rw [if_pos h3]
structure FuncOk (P : Program) (f : FuncId) (g : LFunc) : Prop where
 ex : ∃ fn c, P.funcs[f]? = some fn ∧ fn.body = some c ∧ (fn.name == "runtime.NumGoroutine") = false ∧ g.ps = (List.range fn.ntmps).map kT ∧ Low P fn.ntmps c g.body ∧ vX P fn.results.toList g.res
def TOk (P : Program) (T : LT) : Prop := ∀ f g, a3j (kT f) T = some g → FuncOk P f g
def EOk (P : Program) (E : List LEnv) (H : Heap) : Prop := ∀ en ∈ E, en.L < H.length ∧ ∀ r, iR H en.L = some (.loop r) →
 ∃ k, en.ps = (List.range k).map kT ∧ r.tmps.size = k ∧ en.pp = r.params.toList.map kT ∧ (∀ t ∈ r.params.toList, t < k) ∧ Low P k r.assign en.a ∧ Low P k r.body en.b
theorem EOk.ab {E : List LEnv} {H H' : Heap} (h : EOk P E H) (hk : LK H H') : EOk P E H' := fun en hen => by
 obtain ⟨h1, h2⟩ := h en hen
 refine ⟨dM h1 hk.1, fun r' hr' => ?_⟩
 obtain ⟨r, hr, ea, eb, ep, et⟩ := hk.2 en.L r' h1 hr'
 obtain ⟨k, a, b, c, d, e, f⟩ := h2 r hr
 exact ⟨k, a, by rw [et]; exact b, by rw [ep]; exact c, by rw [ep]; exact d, by rw [ea]; exact e, by rw [eb]; exact f⟩
def a4l (P : Program) (ih : qQ) : Prop := ∀ (E : List LEnv) (C : LCode) (k : Nat) (c : Code) (f : Fr) (l : List Value) (H : Heap) (e : Ex) (f1 : Fr) (H1 : Heap), Low P k c C → FRel k f l → EOk P E H → ih E C f H = .ok e f1 H1 →
 ∃ l1, FRel k f1 l1 ∧ Sim P c l H e l1 H1 ∧ LK H H1 ∧ ∀ b, c = .loop b → ∃ n, Rounds P b n l H e l1 H1
theorem a0n {α : Type} {no : α} : ∀ {l : List Value} {i m : Nat} {f : Fr} {K : Fr → α}, (pJ no l ((List.range' i m).map kT) f K = no) ∨ (l.length ≤ m ∧ ∃ f', pJ no l ((List.range' i m).map kT) f K = K f' ∧ ∀ t, oK (kT t) f' = if i ≤ t ∧ t < i + l.length then get l (t - i) else oK (kT t) f)
 | [], i, m, f, K => .inr ⟨eV _, f, rfl, fun t => by rw [if_neg (by simp only [eH]; omega)]⟩
 | v :: l, i, 0, f, K => .inl rfl
 | v :: l, i, m + 1, f, K => by
   have e : pJ no (v :: l) ((List.range' i (m + 1)).map kT) f K = qF v (kT i) f fun f => pJ no l ((List.range' (i + 1) m).map kT) f K := by
    rw [gF]; rfl
   rw [e, tP]
   rcases a0n (l := l) (i := i + 1) (m := m) (f := b7n f i v) (K := K) with h | ⟨h1, f', h2, h3⟩
   ·exact .inl h
   ·refine .inr ⟨by simp; omega, f', h2, fun t => ?_⟩
    rw [h3 t, a4Z]
    by_cases ht : t = i
    ·subst ht
     rw [if_neg (by omega), if_pos rfl, if_pos (by simp), Nat.sub_self]; rfl
    ·rw [if_neg ht]
     by_cases h4 : i + 1 ≤ t ∧ t < i + 1 + l.length
     ·rw [if_pos h4, if_pos (by simp; omega)]
      rw [show t - i = (t - (i + 1)) + 1 by omega]; rfl
     ·rw [if_neg h4, if_neg (by simp; omega)]
theorem wZ {α : Type} {no : α} {k : Nat} : ∀ {args : List Value} {ps : List Tmp} {f : Fr} {l : List Value} {K : Fr → α}, FRel k f l → (∀ t ∈ ps, t < k) → args.length = ps.length →
 ∃ f', pJ no args (ps.map kT) f K = K f' ∧ FRel k f' ((ps.zip args).foldl (fun t (p, v) => t.set p v) l)
 | [], [], f, l, K, hf, _, _ => ⟨f, rfl, hf⟩
 | v :: args, p :: ps, f, l, K, hf, hp, he => by
   have e : pJ no (v :: args) ((p :: ps).map kT) f K = qF v (kT p) f fun f => pJ no args (ps.map kT) f K := rfl
   rw [e, tP]
   exact wZ (hf.set (hp p (by simp)) v) (fun t ht => hp t (by simp [ht])) (by simpa using he)
 | [], _ :: _, _, _, _, _, _, he => by simp at he
 | _ :: _, [], _, _, _, _, _, he => by simp at he
theorem a0T (l : List Value) (n t : Nat) : get (l ++ List.replicate n undef) t = get l t := by
 rw [oS, oS]
 simp only [dc]
 by_cases h : t < l.length
 ·rw [eI h]
 ·rw [eL (by omega), eo (l := l) (by omega), gV]
  split <;> rfl
theorem a0F {T : LT} (hT : TOk P T) {ih : qQ} (hih : a4l P ih) {E : List LEnv} {p : Pth} {f : FuncId} {args : List Value} {H H1 : Heap} {v : Value} (hE : EOk P E H) (hp : p = kT f) (h : (nA T ih E p args H).Is v H1) :
 FnS P f args H (fun v' H' => v' = v ∧ H' = H1) ∧ LK H H1 := by
 unfold nA at h
 split at h
 case h_2 => exact absurd h Rs.ar
 rename_i g hg
 subst hp
 obtain ⟨fn, c, hfn, hb, hn, hps, hlow, hres⟩ := (hT f g hg).ex
 rw [hps] at h
 rw [fH] at h
 rcases a0n (no := Rs.no) (l := args) (i := 0) (m := fn.ntmps) (f := .e) (K := fun f => c2V g.res (ih E g.body f H)) with h1 | ⟨h1, f0, h2, h3⟩
 ·rw [h1] at h; exact absurd h Rs.ar
 ·rw [h2] at h
  have hf0 : FRel fn.ntmps f0 (args ++ List.replicate (fn.ntmps - args.length) undef) := by
   refine ⟨by simp; omega, fun t => ?_⟩
   rw [h3 t, a0T]
   by_cases ht : t < args.length
   ·rw [if_pos (by omega)]; rfl
   ·rw [if_neg (by omega), vN, oS, dc, eo (by omega)]; try rfl
  cases hr : ih E g.body f0 H with
  | no => rw [hr] at h; exact absurd h Rs.ar
  | ok e f1 H2 =>
    rw [hr] at h
    obtain ⟨l1, hf1, hs, hk, _⟩ := hih E g.body fn.ntmps c f0 _ H e f1 H2 hlow hf0 hE hr
    have key : (e = .normal ∨ e = .ret) → (a7r g.res f1 H2).Is v H1 → FnS P f args H (fun v' H' => v' = v ∧ H' = H1) ∧ LK H H1 := by
     intro he hv
     obtain ⟨rfl, hv⟩ := b5g hf1.2 hres hv
     exact ⟨⟨fn, c, e, l1, H1, v, hfn, hb, hn, hs, he, hv, rfl, rfl⟩, hk⟩
    cases e with
    | normal => exact key (.inl rfl) h
    | ret => exact key (.inr rfl) h
    | exit id => exact absurd h Rs.ar
theorem b5a {T : LT} (hT : TOk P T) {ih : qQ} (hih : a4l P ih) {E : List LEnv} {p : Pth} {f : FuncId} {args : List Value} {H H1 : Heap} {v : Value} (hE : EOk P E H) (hp : p = kT f) (h : (b5P P T ih E p f args H).Is v H1) :
 (FnS P f args H (fun v' H' => v' = v ∧ H' = H1) ∨ qI P f args H = some (v, H1)) ∧ LK H H1 := by
 unfold b5P at h
 cases hg : a3j p T with
 | some g =>
   rw [hg] at h
   obtain ⟨a, b⟩ := a0F (H1 := H1) (v := v) hT hih hE hp (by unfold nA; rw [hg]; exact h)
   exact ⟨.inl a, b⟩
 | none =>
   rw [hg] at h
   have h : (c3j P f args H).Is v H1 := h
   unfold c3j at h
   split at h
   ·rename_i v2 H2 hx
    obtain ⟨rfl, rfl⟩ := Rs.aQ h
    exact ⟨.inr hx, a5k hx⟩
   ·exact absurd h Rs.ar
theorem b1g {E : List LEnv} {L : Nat} {en : LEnv} (h : b5l E L = some en) : en ∈ E ∧ en.L = L := by
 induction E with
 | nil => cases h
 | cons e E ih =>
   have h : oJ (Nat.beq e.L L) (b5l E L) (some e) = some en := h
   rw [kS] at h
   split at h
   ·rename_i hh
    injection h with h
    subst h
    exact ⟨by simp, dX hh⟩
   ·obtain ⟨h1, h2⟩ := ih h
    exact ⟨dO _ h1, h2⟩
theorem a8r (e : Ex) : c1E e = sH e := by cases e <;> rfl
theorem b2J {ih : qQ} (hih : a4l P ih) {E : List LEnv} {L : Nat} {args : List Value} {H H1 : Heap} {v : Value} (hE : EOk P E H) (h : (a9s ih E L args H).Is v H1) : zH P L args H v H1 ∧ LK H H1 := by
 unfold a9s at h
 split at h
 case h_2 => exact absurd h Rs.ar
 rename_i en hen
 obtain ⟨hmem, rfl⟩ := b1g hen
 split at h
 case h_2 => exact absurd h Rs.ar
 rename_i p fn tmps ps a b d hg
 obtain ⟨hlen, h⟩ := lJ h
 rw [a0d] at hlen
 have hlen : ps.size = args.length := by simpa only [decide_eq_true_eq] using hlen
 obtain ⟨k, hps, hsz, hpp, hpk, hla, hlb⟩ := (hE en hmem).2 _ hg
 have hsz : tmps.length = k := by simpa using hsz
 rw [hps, fH] at h
 rcases a0n (no := Rs.no) (l := tmps) (i := 0) (m := k) (f := .e) (K := fun f => pJ .no args en.pp f fun f => uE ih E en (ih E en.a f H)) with h1 | ⟨h1, f0, h2, h3⟩
 ·rw [h1] at h; exact absurd h Rs.ar
 rw [h2] at h
 have hf0 : FRel k f0 tmps := by
  refine ⟨hsz, fun t => ?_⟩
  rw [h3 t]
  by_cases ht : t < tmps.length
  ·rw [if_pos (by omega)]; rfl
  ·rw [if_neg (by omega), vN, oS, dc, eo (by omega)]; try rfl
 rw [hpp] at h
 obtain ⟨f2, h4, hf2⟩ := wZ (no := Rs.no) (args := args) (ps := ps.toList) (K := fun f => uE ih E en (ih E en.a f H)) hf0 hpk (by simpa using hlen.symm)
 have h : (pJ Rs.no args (List.map kT ps.toList) f0 fun f => uE ih E en (ih E en.a f H)).Is v H1 := h
 rw [h4] at h
 cases hr1 : ih E en.a f2 H with
 | no => rw [hr1] at h; exact absurd h Rs.ar
 | ok e f3 H2 =>
   rw [hr1] at h
   obtain ⟨l3, hf3, hs1, hk1, _⟩ := hih E en.a k a f2 _ H e f3 H2 hla hf2 hE hr1
   cases e with
   | ret => exact absurd h Rs.ar
   | exit id => exact absurd h Rs.ar
   | normal =>
     have h : (a0j ih E en f3 H2).Is v H1 := h
     unfold a0j at h
     split at h
     case h_2 => exact absurd h Rs.ar
     rename_i p2 fn2 tmps2 ps2 a2 b2 d2 hg2
     rw [mB] at h
     obtain ⟨r0, hr0, ea, eb, ep, et⟩ := hk1.2 en.L _ (hE en hmem).1 hg2
     rw [hg] at hr0
     injection hr0 with hr0
     injection hr0 with hr0
     subst hr0
     have ea' : a2 = a := ea
     have eb' : b2 = b := eb
     have ep' : ps2 = ps := ep
     have et' : tmps2 = ⟨tmps⟩ := et
     clear ea eb ep et
     subst ea' eb' ep' et'
     have hk2 : LK H2 (hset H2 en.L (.loop ⟨.busy, p2, fn2, ⟨tmps⟩, ps2, a2, b2, d2⟩)) := .loop hg2 ⟨rfl, rfl, rfl, rfl⟩
     cases hr2 : ih E en.b f3 (hset H2 en.L (.loop ⟨.busy, p2, fn2, ⟨tmps⟩, ps2, a2, b2, d2⟩)) with
     | no => rw [hr2] at h; exact absurd h Rs.ar
     | ok e f4 H3 =>
       rw [hr2] at h
       obtain ⟨l4, _, hs2, hk3, _⟩ := hih E en.b k b2 f3 _ _ e f4 H3 hlb hf3 (hE.ab (hk1.trans hk2)) hr2
       have h : (a3z en.L e H3).Is v H1 := h
       unfold a3z at h
       split at h
       case h_2 => exact absurd h Rs.ar
       rename_i st3 p3 fn3 tmps3 ps3 a3 b3 d3 hg3
       have fin : ∀ r', H1 = hset H3 en.L (.loop r') → (r' = { (⟨st3, p3, fn3, tmps3, ps3, a3, b3, d3⟩ : Loop) with state := if (sH e).isNone then .ready else .done, pending := sH e }) → v = .bool (sH e).isNone → zH P en.L args H v H1 ∧ LK H H1 := by
        intro r' hH hr' hv
        refine ⟨?_, hk1.trans (hk2.trans (hk3.trans (by rw [hH]; exact .loop hg3 (by rw [hr']; exact ⟨rfl, rfl, rfl, rfl⟩))))⟩
        have hW := a1j (P := P) (args := args) (K := fun v' H' => v' = v ∧ H' = H1) hg hlen rfl
         ⟨.normal, l3, H2, hs1, rfl, _, hg2, rfl, e, l4, H3, hs2, _, hg3, hv.symm, by rw [hH, hr']⟩
        obtain ⟨v', H', h1, rfl, rfl⟩ := hW
        exact h1
       split at h
       ·rename_i hj
        obtain ⟨rfl, rfl⟩ := Rs.aQ h
        rw [a8r] at hj
        exact fin _ rfl (by rw [hj]; rfl) (by rw [hj]; rfl)
       ·rename_i c hj
        obtain ⟨rfl, rfl⟩ := Rs.aQ h
        rw [a8r] at hj
        exact fin _ rfl (by rw [hj]; rfl) (by rw [hj]; rfl)
theorem a4T {T : LT} (hT : TOk P T) {ih : qQ} (hih : a4l P ih) {E : List LEnv} {H0 : Heap} (hE : EOk P E H0) : CallsOk P (a0N P T ih E) H0 where
 fn p f args H v H1 hk h hp := b5a hT hih (hE.ab hk) hp h
 rd L args H v H1 hk h := b2J hih (hE.ab hk) h
theorem c2o {α : Type} {f : Fr} {l : List Value} (hf : FAg f l) (i m : Nat) (K : List Value → α) : frL f ((List.range' i m).map kT) K = K ((List.range' i m).map (get l)) := by
 induction m generalizing i K with
 | zero => rfl
 | succ m ih =>
   have e : frL f ((List.range' i (m + 1)).map kT) K = oT (oK (kT i) f) fun v => frL f ((List.range' (i + 1) m).map kT) fun l => K (v :: l) := by
    rw [gF]; rfl
   rw [e, mV, ih, hf i, gF]; rfl
theorem b9X {α : Type} {k : Nat} {f : Fr} {l : List Value} (hf : FRel k f l) (K : List Value → α) : frL f ((List.range k).map kT) K = K l := by
 rw [fH, c2o hf.2, ← fH]
 congr 1
 apply gB
 intro i
 rw [eP]
 by_cases hi : i < k
 ·rw [gN hi, dP, oS, dc]
  have : i < l.length := by rw [hf.1]; exact hi
  simp [dq this]
 ·rw [eo (by simp; omega), eo (by rw [hf.1]; omega)]; rfl
theorem b3Q {T : LT} (hT : TOk P T) {ih : qQ} (hih : a4l P ih) {E : List LEnv} {k : Nat} {g : Operand} {ps : Array Tmp} {assign body : Code} {A B : LCode} (hg : iP g = true) (hps : ∀ t ∈ ps.toList, t < k) (ha : Low P k assign A) (hb : Low P k body B)
 {x1 x2 : Fr → Heap → Rc} {f : Fr} {l : List Value} {H : Heap} {e : Ex} {f1 : Fr} {H1 : Heap} (hf : FRel k f l) (hE : EOk P E H) (h : b0X T ih E (iV g) ((List.range k).map kT) (ps.toList.map kT) ps assign body A B x1 x2 f H = .ok e f1 H1) :
 f1 = f ∧ Sim P (.rangeFunc g ps assign body) l H e l H1 ∧ LK H H1 := by
 unfold b0X at h
 rw [jV hf.2] at h
 split at h
 case h_2 => cases h
 rename_i j xa xb hgv
 rw [kB, b9X hf, mB, kB] at h
 unfold b1R at h
 rw [lN] at h
 generalize hH0 : H.cons (.loop ⟨.ready, none, 0, ⟨l⟩, ps, assign, body, 0⟩) = H0 at h
 have hl0 : (⟨.ready, none, 0, ⟨l⟩, ps, assign, body, 0⟩ : Loop) = b2g l ps assign body := rfl
 have hE0 : EOk P (⟨H.length, (List.range k).map kT, ps.toList.map kT, A, B⟩ :: E) H0 := by
  intro en hen
  rcases dV.1 hen with rfl | hen
  ·refine ⟨by rw [← hH0, length_cons]; exact Nat.lt_succ_self _, fun r hr => ?_⟩
   rw [← hH0, iO] at hr
   injection hr with hr
   injection hr with hr
   subst hr
   exact ⟨k, rfl, by simpa using hf.1, rfl, hps, ha, hb⟩
  ·exact (hE.ab (by rw [← hH0]; exact .cons _ _)) en hen
 have key : ∀ v H2, (nA T ih (⟨H.length, (List.range k).map kT, ps.toList.map kT, A, B⟩ :: E) (kT j) (a5U xa (.func (.yield H.length) #[] #[] :: xb)) H0).Is v H2 → wB H.length f H2 = .ok e f1 H1 → f1 = f ∧ Sim P (.rangeFunc g ps assign body) l H e l H1 ∧ LK H H1 := by
  intro v H2 hc hr
  obtain ⟨hfn, hk⟩ := a0F hT hih hE0 rfl hc
  have hargs : a5U xa (.func (.yield H.length) #[] #[] :: xb) = xa ++ [.func (.yield H.length) #[] #[]] ++ xb := by rw [yK]; simp
  rw [hargs, ← hH0, hl0] at hfn
  have fin : ∀ (r : Loop) (H3 : Heap), iR H2 H.length = some (.loop r) → r.state ≠ .busy → H3 = hset H2 H.length (.loop { r with state := .exhausted }) → (r.pending = none → e = .normal) → (∀ c, r.pending = some c → (c = .ret ∧ e = .ret) ∨ ∃ id, c = .exit id ∧ e = .exit id) → f1 = f → H1 = H3 →
   f1 = f ∧ Sim P (.rangeFunc g ps assign body) l H e l H1 ∧ LK H H1 := by
   intro r H3 hrl hnb hH3 hp0 hp1 he1 he2
   have hw : Wp P (.rangeFunc g ps assign body) l H (fun e' l' H' => e' = e ∧ l' = l ∧ H' = H3) := by
    refine Wp.range (first := xa) (captured := xb) hg (by rw [hgv]) (hfn.mono ?_)
    rintro v' H' ⟨rfl, rfl⟩
    refine ⟨r, hrl, hnb, fun hp => ⟨(hp0 hp).symm, rfl, hH3.symm⟩, fun c hc => ?_⟩
    rcases hp1 c hc with ⟨rfl, he⟩ | ⟨id, rfl, he⟩
    ·exact Wp.ret ⟨he.symm, rfl, hH3.symm⟩
    ·exact Wp.exit ⟨he.symm, rfl, hH3.symm⟩
   obtain ⟨e', l', H', hs, rfl, rfl, rfl⟩ := hw
   refine ⟨he1, by rw [he2]; exact hs, ?_⟩
   rw [he2, hH3]
   have h1 : LK H H0 := by rw [← hH0]; exact .cons _ _
   exact h1.trans (hk.trans (.loop hrl ⟨rfl, rfl, rfl, rfl⟩))
  unfold wB at hr
  split at hr
  ·rename_i hg2
   rw [mB] at hr
   injection hr with h1 h2 h3
   exact fin _ _ hg2 (by simp) rfl (fun _ => h1.symm) (fun c hc => by cases hc) h2.symm h3.symm
  ·rename_i hg2
   rw [mB] at hr
   injection hr with h1 h2 h3
   exact fin _ _ hg2 (by simp) rfl (fun _ => h1.symm) (fun c hc => by cases hc) h2.symm h3.symm
  ·rename_i hg2
   rw [mB] at hr
   injection hr with h1 h2 h3
   exact fin _ _ hg2 (by simp) rfl (fun hc => by cases hc) (fun c hc => by injection hc with hc; subst hc; exact .inl ⟨rfl, h1.symm⟩) h2.symm h3.symm
  ·rename_i hg2
   rw [mB] at hr
   injection hr with h1 h2 h3
   exact fin _ _ hg2 (by simp) rfl (fun hc => by cases hc) (fun c hc => by injection hc with hc; subst hc; exact .inr ⟨_, rfl, h1.symm⟩) h2.symm h3.symm
  ·cases hr
 cases hc : nA T ih (⟨H.length, (List.range k).map kT, ps.toList.map kT, A, B⟩ :: E) (kT j) (a5U xa (.func (.yield H.length) #[] #[] :: xb)) H0 with
 | no => rw [hc] at h; cases h
 | ok v H2 => rw [hc] at h; exact key v H2 (.inl hc) h
 | th v H2 =>
   rw [hc] at h
   have h : nX H2 (fun H => wB _ f H) = .ok e f1 H1 := h
   rw [mB] at h
   exact key v H2 (.inr hc) h
theorem c2i (jZ : P.follows .mixedOrders = true) {T : LT} (hT : TOk P T) : ∀ n, a4l P (exF P T n) := by
 intro n
 induction n with
 | zero => intro E C k c f l H e f1 H1 _ _ _ h; cases h
 | succ n ih =>
   intro E C k c f l H e f1 H1 hlow hf hE h
   have h : b2o P T (exF P T n) E C f H = .ok e f1 H1 := h
   have noloop : ∀ {c : Code}, (∀ b, c ≠ .loop b) → ∀ {l1 : List Value}, ∀ b, c = .loop b → ∃ n, Rounds P b n l H e l1 H1 := fun hne _ b hb => absurd hb (hne b)
   cases hlow with
   | bad => cases h
   | skip =>
     injection h with h1 h2 h3; subst h1 h2 h3
     exact ⟨l, hf, .skip l H, .refl H, noloop (by intro b h; cases h)⟩
   | label t =>
     injection h with h1 h2 h3; subst h1 h2 h3
     exact ⟨l, hf, .label t l H, .refl H, noloop (by intro b h; cases h)⟩
   | exit id =>
     injection h with h1 h2 h3; subst h1 h2 h3
     exact ⟨l, hf, .exit id l H, .refl H, noloop (by intro b h; cases h)⟩
   | ret =>
     injection h with h1 h2 h3; subst h1 h2 h3
     exact ⟨l, hf, .ret l H, .refl H, noloop (by intro b h; cases h)⟩
   | @reg id ops d lo hlo hd =>
     have h : c6f (yZ P (a0N P T (exF P T n) E) lo f H) = .ok e f1 H1 := h
     cases hr : yZ P (a0N P T (exF P T n) E) lo f H with
     | no => rw [hr] at h; cases h
     | ok f2 H2 =>
       rw [hr] at h
       injection h with h1 h2 h3; subst h1 h2 h3
       obtain ⟨l1, hf1, hops, hk⟩ := b9x (a4T hT ih hE) hlo (i := 0) rfl hf (.refl H) hr
       have hops : OpsR P ops (List.range ops.size) l H l1 H2 := by rw [fH]; simpa using hops
       refine ⟨l1, hf1, ?_, hk, noloop (by intro b h; cases h)⟩
       cases d with
       | false => exact .region hops
       | true => exact .bW jZ (hd rfl) hops
   | drw hlo ht hl =>
     obtain ⟨l1, rfl, hf1, hs, hk⟩ := b8G jZ (a4T hT ih hE) hlo ht hl hf h
     exact ⟨l1, hf1, hs, hk, noloop (by intro b h; cases h)⟩
   | @seq a b A B ha hb =>
     have h : b8Y (exF P T n) E B (exF P T n E A f H) = .ok e f1 H1 := h
     cases hr : exF P T n E A f H with
     | no => rw [hr] at h; cases h
     | ok e2 f2 H2 =>
       rw [hr] at h
       obtain ⟨l2, hf2, hs, hk, _⟩ := ih E A k a f l H e2 f2 H2 ha hf hE hr
       cases e2 with
       | normal =>
         obtain ⟨l1, hf1, hs1, hk1, _⟩ := ih E B k b f2 l2 H2 e f1 H1 hb hf2 (hE.ab hk) h
         exact ⟨l1, hf1, .seq hs hs1, hk.trans hk1, noloop (by intro b h; cases h)⟩
       | ret =>
         injection h with h1 h2 h3; subst h1 h2 h3
         exact ⟨l2, hf2, .seq' hs (by intro h; cases h), hk, noloop (by intro b h; cases h)⟩
       | exit id =>
         injection h with h1 h2 h3; subst h1 h2 h3
         exact ⟨l2, hf2, .seq' hs (by intro h; cases h), hk, noloop (by intro b h; cases h)⟩
   | @cond c x y X Y hc hx hy =>
     have h : b6Z (exF P T n) E (iV c) X Y (b2o P T (exF P T n) E X) (b2o P T (exF P T n) E Y) f H = .ok e f1 H1 := h
     unfold b6Z at h
     rw [jV hf.2] at h
     split at h
     ·rename_i t ht
      cases t with
      | true =>
        obtain ⟨l1, hf1, hs, hk, _⟩ := ih E X k x f l H e f1 H1 hx hf hE h
        exact ⟨l1, hf1, .cond ht hc hs, hk, noloop (by intro b h; cases h)⟩
      | false =>
        obtain ⟨l1, hf1, hs, hk, _⟩ := ih E Y k y f l H e f1 H1 hy hf hE h
        exact ⟨l1, hf1, .cond ht hc hs, hk, noloop (by intro b h; cases h)⟩
     ·cases h
   | @block id b B hb =>
     have h : c5w id (exF P T n E B f H) = .ok e f1 H1 := h
     cases hr : exF P T n E B f H with
     | no => rw [hr] at h; cases h
     | ok e2 f2 H2 =>
       rw [hr] at h
       obtain ⟨l2, hf2, hs, hk, _⟩ := ih E B k b f l H e2 f2 H2 hb hf hE hr
       have hs' : Sim P (.block id b) l H (e2.out id) l2 H2 := .block hs
       cases e2 with
       | normal => injection h with h1 h2 h3; subst h1 h2 h3; exact ⟨l2, hf2, hs', hk, noloop (by intro b h; cases h)⟩
       | ret => injection h with h1 h2 h3; subst h1 h2 h3; exact ⟨l2, hf2, hs', hk, noloop (by intro b h; cases h)⟩
       | exit i =>
         have h : Rc.ok (Bool.rec (motive := fun _ => Ex) (.exit i) .normal (Nat.beq i id)) f2 H2 = .ok e f1 H1 := h
         injection h with h1 h2 h3; subst h2 h3
         have : (Ex.exit i).out id = e := by
          rw [← h1]
          by_cases hi : i = id
          ·subst hi; simp [Ex.out]
          ·have : Nat.beq i id = false := fS.2 fun e => hi (dX e)
           simp [Ex.out, hi, this]
         rw [this] at hs'
         exact ⟨l2, hf2, hs', hk, noloop (by intro b h; cases h)⟩
   | @loop b B hb =>
     have h : b8Y (exF P T n) E (.loop B) (exF P T n E B f H) = .ok e f1 H1 := h
     cases hr : exF P T n E B f H with
     | no => rw [hr] at h; cases h
     | ok e2 f2 H2 =>
       rw [hr] at h
       obtain ⟨l2, hf2, hs, hk, _⟩ := ih E B k b f l H e2 f2 H2 hb hf hE hr
       have last : e2 ≠ .normal → e2 = e → f2 = f1 → H2 = H1 → ∃ l1, FRel k f1 l1 ∧ Sim P (.loop b) l H e l1 H1 ∧ LK H H1 ∧ ∀ b', Code.loop b = .loop b' → ∃ n, Rounds P b' n l H e l1 H1 := by
        intro hne h1 h2 h3
        subst h1 h2 h3
        have hr : Rounds P b 1 l H e2 l2 H2 := .last hs hne
        exact ⟨l2, hf2, .loop hr, hk, fun b' hb' => by injection hb' with hb'; subst hb'; exact ⟨1, hr⟩⟩
       cases e2 with
       | normal =>
         obtain ⟨l1, hf1, hs1, hk1, hro⟩ := ih E (.loop B) k (.loop b) f2 l2 H2 e f1 H1 (.loop hb) hf2 (hE.ab hk) h
         obtain ⟨m, hm⟩ := hro b rfl
         have hr : Rounds P b (m + 1) l H e l1 H1 := .more hs hm
         exact ⟨l1, hf1, .loop hr, hk.trans hk1, fun b' hb' => by injection hb' with hb'; subst hb'; exact ⟨_, hr⟩⟩
       | ret => injection h with h1 h2 h3; exact last (by intro h; cases h) h1 h2 h3
       | exit id => injection h with h1 h2 h3; exact last (by intro h; cases h) h1 h2 h3
   | range hg hps ha hb =>
     obtain ⟨rfl, hs, hk⟩ := b3Q (x1 := fun _ _ => .no) (x2 := fun _ _ => .no) hT ih hg hps ha hb hf hE h
     exact ⟨l, hf, hs, hk, noloop (by intro b h; cases h)⟩
theorem zX {α : Type} (v : LFunc) (p : Pth) (f : LT) (K : LT → α) : sN v p f K = K (sN v p f fun f => f) := by
 induction p generalizing f α with
 | z => cases f <;> rfl
 | l p ih =>
   cases f with
   | e =>
     show sN v p .e (fun l => K (.n none l .e)) = K (sN v p .e fun l => .n none l .e)
     rw [ih, ih (K := fun l => LT.n none l .e)]
   | n w l r =>
     show sN v p l (fun l => K (.n w l r)) = K (sN v p l fun l => .n w l r)
     rw [ih, ih (K := fun l => LT.n w l r)]
 | r p ih =>
   cases f with
   | e =>
     show sN v p .e (fun l => K (.n none .e l)) = K (sN v p .e fun l => .n none .e l)
     rw [ih, ih (K := fun l => LT.n none .e l)]
   | n w l r =>
     show sN v p r (fun r => K (.n w l r)) = K (sN v p r fun r => .n w l r)
     rw [ih, ih (K := fun r => LT.n w l r)]
theorem yC (p : Pth) : a3j p .e = none := by cases p <;> rfl
theorem b4v (v : LFunc) (p q : Pth) (f : LT) {g : LFunc} (h : a3j q (sN v p f fun f => f) = some g) : (q = p ∧ g = v) ∨ a3j q f = some g := by
 induction p generalizing f q with
 | z =>
   cases q with
   | z => left; refine ⟨rfl, ?_⟩; cases f <;> (injection h with h; exact h.symm)
   | l q => right; cases f with
     | e => have h : a3j q .e = some g := h
            rw [yC] at h; cases h
     | n => exact h
   | r q => right; cases f with
     | e => have h : a3j q .e = some g := h
            rw [yC] at h; cases h
     | n => exact h
 | l p ih =>
   have h1 : ∀ f, sN v (.l p) f (fun f => f) = match f with | .e => .n none (sN v p .e fun f => f) .e | .n w l r => .n w (sN v p l fun f => f) r := fun f => by
    cases f with
    | e => exact zX v p .e fun l => LT.n none l .e
    | n w l r => exact zX v p l fun l => LT.n w l r
   rw [h1] at h
   cases q with
   | z => right; cases f with
     | e => exact h
     | n => exact h
   | r q => right; cases f with
     | e => have h : a3j q .e = some g := h
            rw [yC] at h; cases h
     | n => exact h
   | l q =>
     cases f with
     | e =>
       rcases ih q .e h with ⟨rfl, hq⟩ | h
       ·exact .inl ⟨rfl, hq⟩
       ·rw [yC] at h; cases h
     | n w l r =>
       rcases ih q l h with ⟨rfl, hq⟩ | h
       ·exact .inl ⟨rfl, hq⟩
       ·exact .inr h
 | r p ih =>
   have h1 : ∀ f, sN v (.r p) f (fun f => f) = match f with | .e => .n none .e (sN v p .e fun f => f) | .n w l r => .n w l (sN v p r fun f => f) := fun f => by
    cases f with
    | e => exact zX v p .e fun l => LT.n none .e l
    | n w l r => exact zX v p r fun r => LT.n w l r
   rw [h1] at h
   cases q with
   | z => right; cases f with
     | e => exact h
     | n => exact h
   | l q => right; cases f with
     | e => have h : a3j q .e = some g := h
            rw [yC] at h; cases h
     | n => exact h
   | r q =>
     cases f with
     | e =>
       rcases ih q .e h with ⟨rfl, hq⟩ | h
       ·exact .inl ⟨rfl, hq⟩
       ·rw [yC] at h; cases h
     | n w l r =>
       rcases ih q r h with ⟨rfl, hq⟩ | h
       ·exact .inl ⟨rfl, hq⟩
       ·exact .inr h
theorem b2H {α : Type} (f : FuncId) (no : α) (K : LFunc → α) : (∃ g, FuncOk P f g ∧ a2M P f no K = K g) ∨ a2M P f no K = no := by
 unfold a2M
 split
 ·rename_i fn hfn
  split
  ·rename_i c hb
   rw [kS]
   split
   ·exact .inr rfl
   ·rename_i hn
    rcases b7v (P := P) fn.results.toList (fun res => b4d fn.ntmps fun ps => nK P fn.ntmps c fun b => K ⟨ps, b, res⟩) no with ⟨res, hres, h1⟩ | h1
    ·rw [h1, b1O]
     obtain ⟨C, hC, h2⟩ := b3b (P := P) fn.ntmps c (fun b => K ⟨(List.range fn.ntmps).map kT, b, res⟩)
     exact .inl ⟨⟨_, C, res⟩, ⟨fn, c, hfn, hb, by simpa using hn, rfl, hC, hres⟩, h2⟩
    ·exact .inr h1
  ·exact .inr rfl
 ·exact .inr rfl
theorem b5i {α : Type} (fs : List FuncId) (T : LT) (hT : TOk P T) (K : LT → α) : ∃ T', TOk P T' ∧ uM P fs T K = K T' := by
 induction fs generalizing T with
 | nil => exact ⟨T, hT, rfl⟩
 | cons f fs ih =>
   have e : uM P (f :: fs) T K = a2M P f (uM P fs T K) fun g => lR (kT f) fun p => sN g p T fun T => uM P fs T K := rfl
   rw [e]
   rcases b2H (P := P) f (uM P fs T K) (fun g => lR (kT f) fun p => sN g p T fun T => uM P fs T K) with ⟨g, hg, h⟩ | h
   ·rw [h, lN, zX]
    refine ih _ fun f' g' h' => ?_
    rcases b4v g (kT f) (kT f') T h' with ⟨he, rfl⟩ | h'
    ·rw [b1S he]; exact hg
    ·exact hT f' g' h'
   ·rw [h]; exact ih T hT
end Go.Ds
namespace Go.Ds
open Go.Proofs Go.Proofs.Tryz
def t64 : List Nat := [0, 1, 56, 2, 57, 49, 28, 3, 61, 58, 42, 50, 38, 29, 17, 4, 62, 47, 59, 36, 45, 43, 51, 22, 53, 39, 33, 30, 24, 18, 12, 5, 63, 55, 48, 27, 60, 41, 37, 16, 46, 35, 44, 21, 52, 32, 23, 11, 54, 26, 40, 15, 34, 20, 31, 10, 25, 14, 19, 9, 13, 8, 7, 6]
def t32 : List Nat := [0, 1, 28, 2, 29, 14, 24, 3, 30, 22, 20, 15, 25, 17, 4, 8, 31, 27, 13, 23, 21, 19, 16, 7, 26, 12, 18, 6, 11, 5, 10, 9]
noncomputable def gH : Heap := ((((Heap.nil.cons (.cells (t64.map fun (n : Nat) => Value.int .u8 (.ofNat n)) 5 false 0 1)).cons (.cells [] 3 false 0 1)).cons (.cells ([1, 10, 100, 1000, 10000, 100000, 1000000, 10000000, 100000000, 1000000000, 10000000000, 100000000000, 1000000000000, 10000000000000, 100000000000000, 1000000000000000, 10000000000000000, 100000000000000000, 1000000000000000000, 10000000000000000000].map fun (n : Nat) => Value.int .u64 (.ofNat n)) 39 false 0 1)).cons (.cells (t32.map fun (n : Nat) => Value.int .u8 (.ofNat n)) 5 false 0 1))
theorem c6L : prog.follows .mixedOrders = true := by kernel_rfl
def b3r : Nat → Nat → List UInt8 → List UInt8
 | 0, _, acc => acc
 | f + 1, n, acc => if n < 10 then (48 + n).toUInt8 :: acc else b3r f (n / 10) ((48 + n % 10).toUInt8 :: acc)
def pR (n : Nat) : ByteArray := ⟨(b3r 100 n []).toArray⟩
theorem a5S {b : ByteArray} {n : Nat} (h : b.data.toList = b3r 100 n []) : b = pR n := by
 cases b with | mk d => cases d with | mk l => simp only at h; subst h; rfl
def b1X (r : Rs) (n : Nat) : Bool := match r with
 | .ok (.string b) _ => decide (b.data.toList = b3r 100 n [])
 | .th (.string b) _ => decide (b.data.toList = b3r 100 n [])
 | _ => false
def c0v (v : Value) (n : Nat) : Bool := match v with
 | .tuple vs => match vs.toList with
   | [.string b, .int .i64 m] => decide (m = 0) && decide (b.data.toList = b3r 100 n [])
   | _ => false
 | _ => false
def b7x (r : Rs) (n : Nat) : Bool := match r with
 | .ok v _ => c0v v n
 | .th v _ => c0v v n
 | _ => false
def b5H (r : Rs) (n : Int) : Bool := match r with
 | .ok (.int .i64 m) _ => decide (m = n)
 | .th (.int .i64 m) _ => decide (m = n)
 | _ => false
noncomputable def c1r (ps : List Nat) : Bool := uM prog [117, 130, 122, 160, 181, 194, 197, 198, 199, 200, 203, 204, 205, 206, 208] .e fun T => ps.all fun x => b1X (nA T (exF prog T 4000) [] (kT 130) [.int .i64 x] gH) x
def fsP : List Nat := [117, 192, 177, 179, 52, 129, 122, 191, 202, 84, 85, 156, 157, 158, 159, 163, 201, 207, 174, 175, 176, 178, 180, 182, 183, 189, 190, 193, 195, 197, 198, 199, 200, 203, 204, 205, 206, 208]
noncomputable def vO (ps : List Nat) : Bool := uM prog fsP .e fun T => ps.all fun x => b7x (nA T (exF prog T 4000) [] (kT 129) [.string (pR x), .int .i64 24] gH) (x ^ 24)
def fsM : List Nat := [117, 192, 177, 179, 52, 130, 131, 122, 160, 191, 202, 84, 85, 156, 157, 158, 159, 161, 163, 181, 201, 207, 174, 175, 176, 178, 180, 182, 183, 194, 189, 190, 193, 195, 197, 198, 199, 200, 203, 204, 205, 206, 208]
noncomputable def mE (ps : List (Nat × Nat)) : Bool := uM prog fsM .e fun T => ps.all fun x => b1X (nA T (exF prog T 4000) [] (kT 131) [.string (pR x.1), .string (pR x.2)] gH) (x.1 * x.2)
def sU (t : Nat × Nat) : List (Nat × Nat) := (t.1 ^ 24, 2) :: (List.range t.2).map fun k => (2 * t.1 ^ 24 * 4 ^ k, 4)
def a6J (t : Nat × Nat × Nat) : List (Nat × Nat) := (List.range (t.2.2 + 1)).map fun k => (t.1 ^ 24, 2 * t.2.1 ^ 24 * 4 ^ k)
def b7e (a b : Nat) : Int := if a < b then -1 else if b < a then 1 else 0
noncomputable def vU (ps : List (Nat × Nat)) : Bool := uM prog [132, 162, 163, 164, 182, 183, 184, 195, 196] .e fun T => ps.all fun x => b5H (nA T (exF prog T 4000) [] (kT 132) [.string (pR x.1), .string (pR x.2)] gH) (b7e x.1 x.2)
end Go.Ds
namespace Go.Ds
open Go.RowKit Go.Proofs
section
variable {P : Program} {ρ : Rho} {H : Heap} {w : World}
theorem a4E {name : String} {g : Nat} {k : IntKind} {zs : List Int} (hg : P.globalNamed name = some g) (ht : Lib.TabIs P w name k zs) : ∃ t fr, w.heap[g]? = some (.cells (zs.map fun z => Value.int k z).toArray t fr) := by
 unfold Lib.TabIs World.var? at ht
 rw [hg, cX] at ht
 split at ht
 ·rename_i cs t fr hb
  obtain rfl := cV ht
  exact ⟨t, fr, hb⟩
 ·cases ht
theorem InW.cK (h : InW P ρ H w) {name : String} {g : Nat} {k : IntKind} {zs : List Int} {ty : TypeId} (hg : P.globalNamed name = some g) (ht : Lib.TabIs P w name k zs) (hgH : g = H.length) (hty : iE P ty = some 1) :
 InW P (ρ.put H.length (zs.map fun z => Value.int k z).length ⟨g, 0, zs.length, 1⟩) (H.cons (.cells (zs.map fun z => Value.int k z) ty false 0 1)) w := by
 obtain ⟨t, fr, hb⟩ := a4E hg ht
 refine (h.row ⟨g, 0, zs.length, 1⟩ hb (ty := ty) hty (by simp) (zs.map fun z => Value.int k z) 1 (fun _ => ⟨hgH, rfl⟩) (by simp) fun i c hi _ hc => ⟨c, ?_, ?_⟩).1
 ·have : (⟨g, 0, zs.length, 1⟩ : Place).at i = i := by simp [Place.at]
  rw [this]
  simpa using hc
 ·rw [eP] at hc
  obtain ⟨z, _, rfl⟩ := dh.1 hc
  exact .c0 (.flat rfl)
end
theorem c4O : ∀ A b, iR gH A = some b → ∃ cs ty lo, b = .cells cs ty false lo 1 ∧ kN cs = true := by
 intro A b h
 unfold gH at h
 have hn : ∀ (H : Heap) (c : Blk), iR (H.cons c) A = some b → (A = H.length ∧ b = c) ∨ iR H A = some b := fun H c h => by
  by_cases he : A = H.length
  ·subst he; rw [iO] at h; exact .inl ⟨rfl, (cV h).symm⟩
  ·have hA : A < (H.cons c).length := jN h
   rw [length_cons] at hA
   rw [jO _ (by omega)] at h
   exact .inr h
 rcases hn _ _ h with ⟨_, rfl⟩ | h
 ·exact ⟨_, _, _, rfl, by kernel_rfl⟩
 rcases hn _ _ h with ⟨_, rfl⟩ | h
 ·exact ⟨_, _, _, rfl, by kernel_rfl⟩
 rcases hn _ _ h with ⟨_, rfl⟩ | h
 ·exact ⟨_, _, _, rfl, by kernel_rfl⟩
 rcases hn _ _ h with ⟨_, rfl⟩ | h
 ·exact ⟨_, _, _, rfl, by kernel_rfl⟩
 ·have : A < 0 := jN h
  omega
theorem ExtW.glob {ρ ρ' : Rho} {H' : Heap} (h : ExtW ρ gH ρ' H') : Glob gH H' := ⟨h.len, fun A hA => h.old A hA, c4O⟩
def p10 : List Int := [1, 10, 100, 1000, 10000, 100000, 1000000, 10000000, 100000000, 1000000000, 10000000000, 100000000000, 1000000000000, 10000000000000, 100000000000000, 1000000000000000, 10000000000000000, 100000000000000000, 1000000000000000000, 10000000000000000000]
theorem g64 : Tryz.prog.globalNamed "math/bits.deBruijn64tab" = some 0 := by kernel_rfl
theorem nV : Tryz.prog.globalNamed "internal/strconv.uint64pow10" = some 2 := by kernel_rfl
theorem g32 : Tryz.prog.globalNamed "math/bits.deBruijn32tab" = some 3 := by kernel_rfl
theorem c0y {w : World} (h64 : Lib.TabIs Tryz.prog w "math/bits.deBruijn64tab" .u8 (t64.map Int.ofNat)) (h10 : Lib.TabIs Tryz.prog w "internal/strconv.uint64pow10" .u64 p10)
 (h32 : Lib.TabIs Tryz.prog w "math/bits.deBruijn32tab" .u8 (t32.map Int.ofNat)) (h1001 : ∃ cs t fr, w.heap[1]? = some (.cells cs t fr)) : ∃ ρ, InW Tryz.prog ρ gH w := by
 have a0 := (InW.none (P := Tryz.prog) w).cK g64 h64 (ty := 5) rfl (by kernel_rfl)
 obtain ⟨cs1, t1, fr1, hb1⟩ := h1001
 have a1 := (a0.row ⟨1, 0, cs1.size, 1⟩ hb1 (ty := 3) (by kernel_rfl) rfl [] 1 (fun _ => ⟨rfl, rfl⟩) (by simp) (fun i c hi => by simp at hi)).1
 have a2 := a1.cK nV h10 (ty := 39) rfl (by kernel_rfl)
 have a3 := a2.cK g32 h32 (ty := 5) rfl (by kernel_rfl)
 exact ⟨_, a3⟩
end Go.Ds
namespace Go.Ds
noncomputable section
variable {P : Program} {H0 : Base} {H : Heap} {os : List Ob} {κ β : Type} [DecidableEq κ] {enc : κ → Value} {f : β → Value} {t : TypeId} {z : Value}
structure MapK (P : Program) (t : TypeId) {κ : Type} [DecidableEq κ] (enc : κ → Value) (z : Value) : Prop where
 ex : ∃ kt et, yO P t = some (kt, et) ∧ jA P et = some z ∧ jB z = true ∧ (∀ b k, yQ P b kt (enc k) = true) ∧
  (∀ k (es : List MapEntry) (ks : List κ), es.map (·.key) = ks.map enc → sD P kt (enc k) es = some (ks.findIdx? fun x => decide (x = k))) ∧ ∀ k, Instr.sameBits 10000 (enc k) (enc k) = true
def kcs (enc : κ → Value) (f : β → Value) (kvs : List (κ × β)) : List Value := kvs.flatMap fun p => [enc p.1, f p.2]
def a2q (kvs : List (κ × β)) (k : κ) : Option β := (kvs.find? fun p => decide (p.1 = k)).map (·.2)
def a5P (kvs : List (κ × β)) (k : κ) (v : β) : List (κ × β) := match kvs.findIdx? (fun p => decide (p.1 = k)) with
 | some j => kvs.set j (k, v)
 | none => kvs ++ [(k, v)]
theorem a5A : ∀ (es : List MapEntry) (kvs : List (κ × β)), kcs enc f kvs = mcs es → es.map (·.key) = kvs.map (fun p => enc p.1) ∧ es.map (·.val) = kvs.map (fun p => f p.2)
 | [], [], _ => ⟨rfl, rfl⟩
 | [], p :: kvs, h => by simp [kcs, mcs] at h
 | e :: es, [], h => by simp [kcs, mcs] at h
 | e :: es, p :: kvs, h => by
   simp only [kcs, mcs, dA, gI, fj, fQ] at h
   obtain ⟨h1, h2, h3⟩ := h
   obtain ⟨h4, h5⟩ := a5A es kvs h3
   simp only [ew]
   exact ⟨by rw [h4, h1], by rw [h5, h2]⟩
theorem a9l : ∀ (es : List MapEntry) (kvs : List (κ × β)), es.map (·.key) = kvs.map (fun p => enc p.1) → es.map (·.val) = kvs.map (fun p => f p.2) → kcs enc f kvs = mcs es
 | [], [], _, _ => rfl
 | [], p :: kvs, h, _ => by simp at h
 | e :: es, [], h, _ => by simp at h
 | e :: es, p :: kvs, h, h' => by
   simp only [ew, fQ] at h h'
   have := a9l es kvs h.2 h'.2
   simp only [kcs, mcs, dA] at this ⊢
   rw [this, h.1, h'.1]
theorem St.bX (hS : St P H0 H os) (i : Nat) {A : Nat} {cs : List Value} (ho : os[i]? = some ⟨.map (some A), 0, cs⟩) : ∃ es ck ver, iR H A = some (.map es ck ver) ∧ cs = mcs es ∧ Stamps es ck := by
 have := hS.own _ (dT ho)
 unfold OwnAt at this
 rw [if_pos rfl] at this
 rcases this with ⟨_, _, _, _, _, _, h⟩ | ⟨A', es, ck, ver, h1, h2, h3, h4⟩
 ·cases h
 ·simp only [Value.map.injEq, dE] at h3
  subst h3
  exact ⟨es, ck, ver, h1, h2, h4⟩
theorem b1K (kvs : List (κ × β)) (k : κ) : (∃ j x, (kvs.map (·.1)).findIdx? (fun x => decide (x = k)) = some j ∧ kvs[j]? = some x ∧ kvs.find? (fun p => decide (p.1 = k)) = some x) ∨ ((kvs.map (·.1)).findIdx? (fun x => decide (x = k)) = none ∧ kvs.find? (fun p => decide (p.1 = k)) = none) := by
 induction kvs with
 | nil => exact .inr ⟨rfl, rfl⟩
 | cons p kvs ih =>
   by_cases h : p.1 = k
   ·exact .inl ⟨0, p, by simp [fb, h], rfl, by simp [h]⟩
   ·rcases ih with ⟨j, x, h1, h2, h3⟩ | ⟨h1, h2⟩
    ·exact .inl ⟨j + 1, x, by simp [fb, h, h1], by simpa using h2, by simp [h, h3]⟩
    ·exact .inr ⟨by simp [fb, h, h1], by simp [h, h2]⟩
theorem St.cT (hS : St P H0 H os) (i : Nat) {A : Nat} {kvs : List (κ × β)} (ho : os[i]? = some ⟨.map (some A), 0, kcs enc f kvs⟩) (hk : MapK P t enc z) (hf : ∀ b, nG (f b) = true) (c : Bool) (k : κ) :
 pS P H t (.map (some A)) (enc k) c = some (pairV c (((a2q kvs k).map f).getD z) (a2q kvs k).isSome) := by
 obtain ⟨kt, et, h1, h2, h3, h4, h5, h6⟩ := hk.ex
 obtain ⟨es, ck, ver, h7, h8, _⟩ := hS.bX i ho
 obtain ⟨h9, h10⟩ := a5A es kvs h8
 have hi := h5 k es (kvs.map (·.1)) (by rw [h9]; simp [gZ])
 simp only [pS, h1, cX, a3c, h7, h4, if_true, hi, a2q]
 rcases b1K kvs k with ⟨j, x, e1, e2, e3⟩ | ⟨e1, e3⟩
 ·have hj : es[j]?.map (·.val) = some (f x.2) := by
   rw [← eP, h10, eP, e2]; rfl
  cases he : es[j]? with
  | none => rw [he] at hj; simp at hj
  | some e =>
    rw [he] at hj
    simp only [dP, dE] at hj
    simp only [e1, he, cX, hj, hf, if_true, e3, dP, fg, Option.isSome_some]
 ·simp only [e1, e3, Option.map_none, Option.getD_none, Option.isSome_none, h2, cX, h3, if_true]
def a6W (P : Program) (H : Heap) (t : TypeId) (x k : Value) (c : Bool) (K : Value → Prop) (_k : Keep K := ⟨⟩) : Prop := ∃ v, pS P H t x k c = some v ∧ K v
theorem a7a {t : TypeId} {x x' k k' : Value} {c : Bool} {K : Value → Prop} (h : x = x') (h2 : k = k') : a6W P H t x k c K = a6W P H t x' k' c K := by rw [h, h2]
attribute [congr] a7a
theorem a9u (d ty pos af g) (t : TypeId) (x k : Operand) (c : Bool) (l : List Value) (K : Value → Heap → Prop) :
 mG P ⟨d, .lookup t x k c, ty, pos, af, g⟩ l H K = jK x l fun x => jK k l fun k => a6W P H t x k c fun v => K v H := by
 have h2 : kD ((pS P H t (ev l x) (ev l k) c).map fun v => (v, H)) K = ∃ v, pS P H t (ev l x) (ev l k) c = some v ∧ K v H := by
  cases pS P H t (ev l x) (ev l k) c <;> simp [kD]
 simp only [mG, opD, jK, Op.operands, a6W, h2]
 simp [and_assoc]
theorem St.bO (hS : St P H0 H os) (i : Nat) {A : Nat} {kvs : List (κ × β)} (ho : os[i]? = some ⟨.map (some A), 0, kcs enc f kvs⟩) (hk : MapK P t enc z) (hf : ∀ b, nG (f b) = true) {c : Bool} {k : κ} {K : Value → Prop}
 (h : K (pairV c (((a2q kvs k).map f).getD z) (a2q kvs k).isSome)) : a6W P H t (.map (some A)) (enc k) c K := ⟨_, hS.cT i ho hk hf c k, h⟩
def a5r (P : Program) (H : Heap) (t : TypeId) (K : Value → Heap → Prop) (_k : Keep K := ⟨⟩) : Prop := ∃ v H1, qC P H t none = some (v, H1) ∧ K v H1
theorem a8l (d ty pos af g) (t : TypeId) (l : List Value) (K : Value → Heap → Prop) : mG P ⟨d, .makeMap t none, ty, pos, af, g⟩ l H K = a5r P H t K := by
 simp only [mG, opD, Op.operands, a5r, mZ]
 simp
theorem St.bT (hS : St P H0 H os) (hk : MapK P t enc z) {K : Value → Heap → Prop} (h : ∀ A H1, St P H0 H1 (os ++ [⟨.map (some A), 0, []⟩]) → K (.map (some A)) H1) : a5r P H t K := by
 obtain ⟨kt, et, h1, _⟩ := hk.ex
 refine ⟨.map (some H.length), H.cons (.map [] 0 0), by simp [qC, h1], h _ _ (hS.add ?_ ?_ ?_ ?_)⟩
 ·unfold OwnAt
  rw [if_pos rfl]
  exact .inr ⟨_, [], 0, 0, iO H _, rfl, rfl, .nil 0⟩
 ·simp [oP]
 ·exact fun B hB => jO _ hB
 ·intro B hB
  simp [kI] at hB
  omega
def b7t (P : Program) (H : Heap) (t : TypeId) (m k v : Value) (K : Heap → Prop) (_k : Keep K := ⟨⟩) : Prop := ∃ H1, a1B P H t m k v = some H1 ∧ K H1
theorem b1e {t : TypeId} {m m' k k' v v' : Value} {K : Heap → Prop} (h : m = m') (h2 : k = k') (h3 : v = v') : b7t P H t m k v K = b7t P H t m' k' v' K := by rw [h, h2, h3]
attribute [congr] b1e
theorem a3W (d ty pos af g) (t : TypeId) (m k v : Operand) (l : List Value) (K : Value → Heap → Prop) :
 mG P ⟨d, .mapUpdate t m k v, ty, pos, af, g⟩ l H K = jK m l fun m => jK k l fun k => jK v l fun v => b7t P H t m k v fun H1 => K undef H1 := by
 have h2 : kD ((a1B P H t (ev l m) (ev l k) (ev l v)).map fun H => (undef, H)) K = ∃ H1, a1B P H t (ev l m) (ev l k) (ev l v) = some H1 ∧ K undef H1 := by
  cases a1B P H t (ev l m) (ev l k) (ev l v) <;> simp [kD]
 simp only [mG, opD, jK, Op.operands, b7t, h2]
 simp [and_assoc]
theorem b2c (kvs : List (κ × β)) (k : κ) (v : β) : a5P kvs k v = match (kvs.map (·.1)).findIdx? (fun x => decide (x = k)) with | some j => kvs.set j (k, v) | none => kvs ++ [(k, v)] := by
 unfold a5P
 rw [List.findIdx?_map]
 rfl
theorem St.cd (hS : St P H0 H os) (i : Nat) {A : Nat} {kvs : List (κ × β)} (ho : os[i]? = some ⟨.map (some A), 0, kcs enc f kvs⟩) (hk : MapK P t enc z) {k : κ} {v : β} {K : Heap → Prop}
 (h : ∀ H1, St P H0 H1 (os.set i ⟨.map (some A), 0, kcs enc f (a5P kvs k v)⟩) → K H1) : b7t P H t (.map (some A)) (enc k) (f v) K := by
 obtain ⟨kt, et, h1, h2, h3, h4, h5, h6⟩ := hk.ex
 obtain ⟨es, ck, ver, h7, h8, hst⟩ := hS.bX i ho
 obtain ⟨h9, h10⟩ := a5A es kvs h8
 have hi := h5 k es (kvs.map (·.1)) (by rw [h9]; simp [gZ])
 have fin : ∀ es' ck', mcs es' = kcs enc f (a5P kvs k v) → Stamps es' ck' → St P H0 (hset H A (.map es' ck' (ver + 1))) (os.set i ⟨.map (some A), 0, kcs enc f (a5P kvs k v)⟩) := by
  intro es' ck' he hst'
  refine hS.put i ho ?_ ?_ ?_ ?_
  ·unfold OwnAt
   rw [if_pos rfl]
   exact .inr ⟨A, es', ck', _, iS _ (jN h7), he.symm, rfl, hst'⟩
  ·rw [jQ]; exact di _
  ·intro B hB hne
   exact rB fun hh => hne (by simp [kI, hh])
  ·exact fun B hB => .inl hB
 rcases b1K kvs k with ⟨j, x, e1, e2, _⟩ | ⟨e1, _⟩
 ·have hj : es[j]?.map (·.key) = some (enc x.1) := by
   rw [← eP, h9, eP, e2]; rfl
  have hx : x.1 = k := by
   have := List.findIdx?_eq_some_iff_getElem.1 e1
   obtain ⟨hlt, hd, _⟩ := this
   have hlt' : j < kvs.length := by simpa using hlt
   have : kvs[j] = x := by
    rw [dq hlt'] at e2
    exact cV e2
   simp [this] at hd
   exact hd
  cases he : es[j]? with
  | none => rw [he] at hj; simp at hj
  | some e =>
    rw [he] at hj
    simp only [dP, dE] at hj
    refine ⟨hset H A (.map (es.set j { e with key := enc k, val := f v }) ck (ver + 1)), ?_, h _ (fin _ _ ?_ (hst.set he _ rfl))⟩
    ·have hsb : Instr.sameBits 10000 e.key (enc k) = true := by rw [hj, hx]; exact h6 k
     simp only [a1B, h1, cX, h7, h4, if_true, hi, e1, he, hsb]
    ·symm
     rw [b2c, e1]
     refine a9l _ _ ?_ ?_
     ·rw [hK, hK, h9]
     ·rw [hK, hK, h10]
 ·refine ⟨hset H A (.map (es ++ [{ key := enc k, val := f v, born := ck }]) (ck + 1) (ver + 1)), ?_, h _ (fin _ _ ?_ (hst.push _ rfl))⟩
  ·simp only [a1B, h1, cX, h7, h4, if_true, hi, e1]
  ·symm
   rw [b2c, e1]
   refine a9l _ _ ?_ ?_
   ·rw [dQ, dQ, h9]; rfl
   ·rw [dQ, dQ, h10]; rfl
def c0n (P : Program) (H : Heap) (t : TypeId) (m k : Value) (K : Value → Heap → Prop) (_k : Keep K := ⟨⟩) : Prop := ∃ v H1, tG P H t m k = some (v, H1) ∧ K v H1
theorem b1i {t : TypeId} {m m' k k' : Value} {K : Value → Heap → Prop} (h : m = m') (h2 : k = k') : c0n P H t m k K = c0n P H t m' k' K := by rw [h, h2]
attribute [congr] b1i
def b1C (H : Heap) (m b v : Value) (K : Heap → Prop) (_k : Keep K := ⟨⟩) : Prop := ∃ H1, sJ H m b v = some H1 ∧ K H1
theorem a6T {m m' b b' v v' : Value} {K : Heap → Prop} (h : m = m') (h2 : b = b') (h3 : v = v') : b1C H m b v K = b1C H m' b' v' K := by rw [h, h2, h3]
attribute [congr] a6T
theorem a5Y (d ty pos af g) (t : TypeId) (m k : Operand) (l : List Value) (K : Value → Heap → Prop) :
 mG P ⟨d, .mapEntry t m k, ty, pos, af, g⟩ l H K = jK m l fun m => jK k l fun k => c0n P H t m k K := by
 have h2 : kD (tG P H t (ev l m) (ev l k)) K = ∃ v H1, tG P H t (ev l m) (ev l k) = some (v, H1) ∧ K v H1 := mZ ..
 simp only [mG, opD, jK, Op.operands, c0n, h2]
 simp [and_assoc]
theorem a2n (d ty pos af g) (t : TypeId) (m b v : Operand) (l : List Value) (K : Value → Heap → Prop) :
 mG P ⟨d, .entryStore t m b v, ty, pos, af, g⟩ l H K = jK m l fun m => jK b l fun b => jK v l fun v => b1C H m b v fun H1 => K undef H1 := by
 have h2 : kD ((sJ H (ev l m) (ev l b) (ev l v)).map fun H => (undef, H)) K = ∃ H1, sJ H (ev l m) (ev l b) (ev l v) = some H1 ∧ K undef H1 := by
  cases sJ H (ev l m) (ev l b) (ev l v) <;> simp [kD]
 simp only [mG, opD, jK, Op.operands, b1C, h2]
 simp [and_assoc]
theorem a2j (kvs : List (κ × β)) (k k' : κ) (v : β) : a2q (a5P kvs k v) k' = if k' = k then some v else a2q kvs k' := by
 unfold a2q a5P
 induction kvs with
 | nil =>
   by_cases h : k' = k
   ·simp [h]
   ·simp [h, eY h]
 | cons p kvs ih =>
   by_cases hp : p.1 = k
   ·simp only [fb, hp, decide_true, if_true, ff, List.find?_cons]
    by_cases h : k' = k
    ·simp [h]
    ·simp [h, eY h]
   ·have hd : decide (p.1 = k) = false := by simp [hp]
    simp only [fb, hd, dZ, if_false]
    by_cases hq : p.1 = k'
    ·have hne : ¬ k' = k := fun e => hp (hq.trans e)
     cases hh : kvs.findIdx? (fun p => decide (p.1 = k)) with
     | none => simp [hq, hne]
     | some j => simp [hq, hne]
    ·cases hh : kvs.findIdx? (fun p => decide (p.1 = k)) with
     | none =>
       rw [hh] at ih
       simpa [hq, List.find?_cons] using ih
     | some j =>
       rw [hh] at ih
       simpa [hq, List.find?_cons] using ih
end
end Go.Ds
namespace Go.Ds
noncomputable section
variable {P : Program} {H : Heap}
theorem kQ {α : Type} (P : Program) (x : α) : iN P (pure x) = some x := rfl
theorem jX {t : TypeId} {d : TypeDesc} (h : P.underlying t = some d) : iN P (underlying t) = some d := by
 unfold underlying
 rw [iK]
 have : iN P program = some P := rfl
 rw [this, cX, h]
 rfl
def lK : Operand → Bool
 | .const _ => true
 | _ => false
def pB (c : Bool) (i : Nat) (v : Value) : Operand := if c then .const v else .tmp i
def kU (P : Program) (op : BinOp) (t t2 : TypeId) (cx cy : Bool) (x y : Value) : Option Value := (opD P ⟨none, .binOp op t (pB cx 0 x) (pB cy 1 y) t2, t, "", #[], none⟩ [x, y] .nil).map (·.1)
def kW (P : Program) (op : BinOp) (t t2 : TypeId) (cx cy : Bool) (x y : Value) (K : Value → Prop) (_k : Keep K := ⟨⟩) : Prop := match x, y with
 | .int k a, .int k' b => (match (if k = k' then mR op k a b else none) with | some v => K v | none => jU (kU P op t t2 cx cy (.int k a) (.int k' b)) K)
 | x, y => jU (kU P op t t2 cx cy x y) K
theorem a7c {op : BinOp} {t t2 : TypeId} {cx cy : Bool} {x x' y y' : Value} {K : Value → Prop} (h : x = x') (h2 : y = y') : kW P op t t2 cx cy x y K = kW P op t t2 cx cy x' y' K := by rw [h, h2]
attribute [congr] a7c
theorem a9m (x : Operand) (l m : List Value) : ev (ev l x :: m) (pB (lK x) 0 (ev l x)) = ev l x := by cases x <;> rfl
theorem a9C (x : Operand) (l m : List Value) (a : Value) : ev (a :: ev l x :: m) (pB (lK x) 1 (ev l x)) = ev l x := by cases x <;> rfl
theorem b5c (op : BinOp) (t : TypeId) (x y : Operand) (l : List Value) : eqGuard op t x y (ev l x) (ev l y) = eqGuard op t (pB (lK x) 0 (ev l x)) (pB (lK y) 1 (ev l y)) (ev l x) (ev l y) := by
 generalize hx : ev l x = vx
 generalize hy : ev l y = vy
 cases x <;> cases y <;> rfl
theorem b9g (d ty pos af g) (op : BinOp) (t : TypeId) (x y : Operand) (t2 : TypeId) (l : List Value) (H : Heap) :
 opD P ⟨d, .binOp op t x y t2, ty, pos, af, g⟩ l H = (kU P op t t2 (lK x) (lK y) (ev l x) (ev l y)).map fun v => (v, H) := by
 have hp : kP P ⟨d, .binOp op t x y t2, ty, pos, af, g⟩ l H = _ := nD (P := P) ⟨d, .binOp op t x y t2, ty, pos, af, g⟩ ⟨none, .binOp op t (pB (lK x) 0 (ev l x)) (pB (lK y) 1 (ev l y)) t2, t, "", #[], none⟩ l [ev l x, ev l y] H
  (by simp only [Op.operands, ew, gp, a9m, a9C]) (by
    simp only [execOp]
    rw [a9m, a9C, ← b5c])
 simp only [opD, kU, hp, a9m, a9C]
 generalize kP P _ _ _ = r
 generalize ev l x = vx
 generalize ev l y = vy
 split
 all_goals first
  | (split <;> first | rfl | (split <;> first | rfl | (cases r <;> rfl)) | (cases r <;> rfl))
  | (cases r <;> rfl)
theorem b6u (d ty pos af g) (op : BinOp) (t : TypeId) (x y : Operand) (t2 : TypeId) (l : List Value) (K : Value → Heap → Prop) :
 mG P ⟨d, .binOp op t x y t2, ty, pos, af, g⟩ l H K = jK x l fun x' => jK y l fun y' => kW P op t t2 (lK x) (lK y) x' y' fun v => K v H := by
 have h : kD (opD P ⟨d, .binOp op t x y t2, ty, pos, af, g⟩ l H) K = kW P op t t2 (lK x) (lK y) (ev l x) (ev l y) fun v => K v H := by
  have key : kD ((kU P op t t2 (lK x) (lK y) (ev l x) (ev l y)).map fun v => (v, H)) K = jU (kU P op t t2 (lK x) (lK y) (ev l x) (ev l y)) fun v => K v H := by
   cases kU P op t t2 (lK x) (lK y) (ev l x) (ev l y) <;> rfl
  rw [b9g, key]
  unfold kW
  split
  ·rename_i k a k' b hx hy
   split
   ·rename_i v hv
    split at hv
    ·rename_i hk
     subst hk
     have : kU P op t t2 (lK x) (lK y) (.int k a) (.int k b) = some v := by
      have h1 : ∀ m, ev ((.int k a : Value) :: m) (pB (lK x) 0 (.int k a)) = .int k a := fun m => by cases lK x <;> rfl
      have h2 : ∀ m c, ev (c :: (.int k b : Value) :: m) (pB (lK y) 1 (.int k b)) = .int k b := fun m c => by cases lK y <;> rfl
      cases op <;> simp only [mR] at hv <;> first | (cases hv; done) | (simp only [kU, opD, h1, h2, mR, if_true, hv]; rfl)
     rw [hx, hy, this]
     rfl
    ·cases hv
   ·rw [hx, hy]
  ·rfl
 simp only [mG, h, jK, Op.operands]
 simp [and_assoc]
theorem mD (op : BinOp) (t t2 : TypeId) (cx cy : Bool) (k : IntKind) (a b : Int) {v : Value} (K : Value → Prop) (h : mR op k a b = some v) : kW P op t t2 cx cy (.int k a) (.int k b) K = oM v K := by
 simp [kW, h, oM]
section
theorem b2I (t t2 : TypeId) (cx cy : Bool) (k : IntKind) (a b : Int) (K : Value → Prop) : kW P .add t t2 cx cy (.int k a) (.int k b) K = oM (.int k (k.wrap (a + b))) K := mD _ _ _ _ _ _ _ _ _ (by simp [mR, b1A, uS])
theorem b3c (t t2 : TypeId) (cx cy : Bool) (k : IntKind) (a b : Int) (K : Value → Prop) : kW P .sub t t2 cx cy (.int k a) (.int k b) K = oM (.int k (k.wrap (a - b))) K := mD _ _ _ _ _ _ _ _ _ (by simp [mR, b2d, uS])
theorem b2D (t t2 : TypeId) (cx cy : Bool) (k : IntKind) (a b : Int) (K : Value → Prop) : kW P .mul t t2 cx cy (.int k a) (.int k b) K = oM (.int k (k.wrap (a * b))) K := mD _ _ _ _ _ _ _ _ _ (by simp [mR, uS])
theorem b4x (t t2 : TypeId) (cx cy : Bool) (k : IntKind) (a b : Int) (K : Value → Prop) : kW P .eql t t2 cx cy (.int k a) (.int k b) K = oM (.bool (decide (a = b))) K := mD _ _ _ _ _ _ _ _ _ (by simp [mR, a3r]; rfl)
theorem b3q (t t2 : TypeId) (cx cy : Bool) (k : IntKind) (a b : Int) (K : Value → Prop) : kW P .neq t t2 cx cy (.int k a) (.int k b) K = oM (.bool (decide (¬ a = b))) K := mD _ _ _ _ _ _ _ _ _ (by simp [mR, a3r]; rfl)
theorem b2S (t t2 : TypeId) (cx cy : Bool) (k : IntKind) (a b : Int) (K : Value → Prop) : kW P .lss t t2 cx cy (.int k a) (.int k b) K = oM (.bool (decide (a < b))) K := mD _ _ _ _ _ _ _ _ _ (by simp [mR, a0R])
theorem b3e (t t2 : TypeId) (cx cy : Bool) (k : IntKind) (a b : Int) (K : Value → Prop) : kW P .leq t t2 cx cy (.int k a) (.int k b) K = oM (.bool (decide (a ≤ b))) K := mD _ _ _ _ _ _ _ _ _ (by simp [mR, a0R, ← Int.not_lt])
theorem b3k (t t2 : TypeId) (cx cy : Bool) (k : IntKind) (a b : Int) (K : Value → Prop) : kW P .gtr t t2 cx cy (.int k a) (.int k b) K = oM (.bool (decide (b < a))) K := mD _ _ _ _ _ _ _ _ _ (by simp [mR, a0R])
theorem b3H (t t2 : TypeId) (cx cy : Bool) (k : IntKind) (a b : Int) (K : Value → Prop) : kW P .geq t t2 cx cy (.int k a) (.int k b) K = oM (.bool (decide (b ≤ a))) K := mD _ _ _ _ _ _ _ _ _ (by simp [mR, a0R, ← Int.not_lt])
theorem b3Z (t t2 : TypeId) (cx cy : Bool) (k : IntKind) (a b : Int) (K : Value → Prop) (hb : b ≠ 0) : kW P .rem t t2 cx cy (.int k a) (.int k b) K = oM (.int k (a.tmod b)) K := mD _ _ _ _ _ _ _ _ _ (by
 have : (b == 0) = false := by simp [hb]
 simp [mR, a3r, this])
theorem b3o (t t2 : TypeId) (cx cy : Bool) (k : IntKind) (a b : Int) (K : Value → Prop) (hb : b ≠ 0) : kW P .quo t t2 cx cy (.int k a) (.int k b) K = oM (.int k (k.wrap (a.tdiv b))) K := mD _ _ _ _ _ _ _ _ _ (by
 have : (b == 0) = false := by simp [hb]
 simp [mR, a3r, uS, this])
end
theorem lS {op : BinOp} {t t2 : TypeId} {cx cy : Bool} {x y v : Value} (hx : flat x = true) (hy : flat y = true) (hg : iN P (eqGuard op t (pB cx 0 x) (pB cy 1 y) x y) = some ())
 (hv : iN P (binOp op t x y) = some v) (hf : flat v = true) (hs : ∀ a n c, x ≠ .slice (some a) n c) (hp : ∀ a, x ≠ .pointer (some a)) (hi : ∀ k a b, x = .int k a → y = .int k b → mR op k a b = none) : kU P op t t2 cx cy x y = some v := by
 have h1 : ∀ m, ev (x :: m) (pB cx 0 x) = x := fun m => by cases cx <;> rfl
 have h2 : ∀ m c, ev (c :: y :: m) (pB cy 1 y) = y := fun m c => by cases cy <;> rfl
 have hpl : kP P ⟨none, .binOp op t (pB cx 0 x) (pB cy 1 y) t2, t, "", #[], none⟩ [x, y] .nil = some (v, .nil) := by
  unfold kP
  rw [if_pos (by simp [Op.operands, h1, h2, hx, hy])]
  have : execOp (ev [x, y]) ⟨none, .binOp op t (pB cx 0 x) (pB cy 1 y) t2, t, "", #[], none⟩ = (do let v ← (do eqGuard op t (pB cx 0 x) (pB cy 1 y) x y; binOp op t x y); pure (.value v)) := by
   simp only [execOp, h1, h2]
  rw [this, iK, iK, hg, cX, hv, cX, kQ]
  simp only [hf, if_true]
 simp only [kU, opD, h1, h2, hpl]
 split
 ·exact absurd rfl (hs _ _ _)
 ·exact absurd rfl (hs _ _ _)
 ·rename_i k a k' b
  split
  ·rename_i hk
   subst hk
   rw [hi _ _ _ rfl rfl]
   rfl
  ·rfl
 ·exact absurd rfl (hp _)
 ·exact absurd rfl (hp _)
 ·exact absurd rfl (hp _)
 ·exact absurd rfl (hp _)
 ·rfl
theorem qS {op : BinOp} {t : TypeId} {x y : Operand} {k k' : IntKind} {a b : Int} : iN P (eqGuard op t x y (.int k a) (.int k' b)) = some () := by
 unfold eqGuard
 split <;> rfl
section
theorem b6M (t t2 : TypeId) (cx cy : Bool) (a b : Int) {k k' : IntKind} (hb : 0 ≤ b) : kU P .shr t t2 cx cy (.int k a) (.int k' b) = some (.int k (a.fdiv (2 ^ (min b.toNat k.bits)))) :=
 lS rfl rfl qS (by simp only [binOp, Op.shift]; rw [if_neg (by omega)]; rfl) rfl (by simp) (by simp) (by intros; rfl)
theorem b5u (t t2 : TypeId) (cx cy : Bool) (a b : Int) {k k' : IntKind} (hb : 0 ≤ b) : kU P .shl t t2 cx cy (.int k a) (.int k' b) = some (.int k (k.wrap (a * 2 ^ (min b.toNat k.bits)))) :=
 lS rfl rfl qS (by simp only [binOp, Op.shift]; rw [if_neg (by omega)]; rfl) rfl (by simp) (by simp) (by intros; rfl)
theorem b7D (t t2 : TypeId) (cx cy : Bool) (a b : Int) (k : IntKind) : kU P .and t t2 cx cy (.int k a) (.int k b) = some (.int k (k.wrap (BitVec.ofInt k.bits a &&& BitVec.ofInt k.bits b).toNat)) :=
 lS rfl rfl qS (by simp only [binOp]; rw [if_neg (by simp)]; rfl) rfl (by simp) (by simp) (by intros; rfl)
theorem c0a (t t2 : TypeId) (cx cy : Bool) (a b : Int) (k : IntKind) : kU P .or t t2 cx cy (.int k a) (.int k b) = some (.int k (k.wrap (BitVec.ofInt k.bits a ||| BitVec.ofInt k.bits b).toNat)) :=
 lS rfl rfl qS (by simp only [binOp]; rw [if_neg (by simp)]; rfl) rfl (by simp) (by simp) (by intros; rfl)
theorem b8n (t t2 : TypeId) (cx cy : Bool) (a b : Int) (k : IntKind) : kU P .xor t t2 cx cy (.int k a) (.int k b) = some (.int k (k.wrap (BitVec.ofInt k.bits a ^^^ BitVec.ofInt k.bits b).toNat)) :=
 lS rfl rfl qS (by simp only [binOp]; rw [if_neg (by simp)]; rfl) rfl (by simp) (by simp) (by intros; rfl)
theorem a8j (t t2 : TypeId) (cx cy : Bool) (a b : Int) (k : IntKind) : kU P .andNot t t2 cx cy (.int k a) (.int k b) = some (.int k (k.wrap (BitVec.ofInt k.bits a &&& ~~~ BitVec.ofInt k.bits b).toNat)) :=
 lS rfl rfl qS (by simp only [binOp]; rw [if_neg (by simp)]; rfl) rfl (by simp) (by simp) (by intros; rfl)
end
section
variable (a b : ByteArray)
theorem a0B {op : BinOp} {t : TypeId} {x y : Operand} : iN P (eqGuard op t x y (.string a) (.string b)) = some () := by
 unfold eqGuard
 split <;> rfl
theorem a1q (h : a.data.toList = b.data.toList) : a = b := by
 cases a; cases b
 simp only [ByteArray.mk.injEq]
 exact Array.toList_inj.1 h
theorem a2p : (a.toList == b.toList) = decide (a = b) := by
 rw [ByteArray.toList_eq, ByteArray.toList_eq, eG, beq_iff_eq, decide_eq_true_iff]
 exact ⟨a1q a b, fun h => by rw [h]⟩
theorem a9z (t t2 : TypeId) (cx cy : Bool) (a b : ByteArray) : kU P .eql t t2 cx cy (.string a) (.string b) = some (.bool (decide (a = b))) :=
 lS rfl rfl (a0B a b) (by rw [← a2p]; rfl) rfl (by simp) (by simp) (by intro _ _ _ h; cases h)
theorem a9U (t t2 : TypeId) (cx cy : Bool) (a b : ByteArray) : kU P .neq t t2 cx cy (.string a) (.string b) = some (.bool (decide (¬ a = b))) :=
 lS rfl rfl (a0B a b) (by
  have : decide (¬ a = b) = !(a.toList == b.toList) := by rw [a2p]; simp
  rw [this]; rfl) rfl (by simp) (by simp) (by intro _ _ _ h; cases h)
theorem a6Q (t t2 : TypeId) (cx cy : Bool) (a b : ByteArray) (h : a.size + b.size < 9223372036854775808) : kU P .add t t2 cx cy (.string a) (.string b) = some (.string (a ++ b)) :=
 lS rfl rfl (a0B a b) (by
  simp only [binOp, Op.stringOp]
  rw [if_neg]
  ·rfl
  ·have : IntKind.i64.max = 9223372036854775807 := by decide
   rw [this]; omega) rfl (by simp) (by simp) (by intro _ _ _ h; cases h)
end
theorem b6B {t : TypeId} (s : ByteArray) (ht : oQ P t = true) : a0H P H t (.string s) = some (.int .i64 s.size) := by
 unfold oQ at ht
 unfold a0H
 split at ht
 ·rename_i h; rw [h]; simp [xU, goInt]
 ·cases ht
def pN (P : Program) (t : TypeId) (x i : Value) : Option Value := (opD P ⟨none, .index t (.const x) (.const i), t, "", #[], none⟩ [] .nil).map (·.1)
theorem b3E (d ty pos af g) (t : TypeId) (x i : Operand) (l : List Value) (K : Value → Heap → Prop) :
 mG P ⟨d, .index t x i, ty, pos, af, g⟩ l H K = jK x l fun x => jK i l fun i => jU (pN P t x i) fun v => K v H := by
 have h : opD P ⟨d, .index t x i, ty, pos, af, g⟩ l H = (pN P t (ev l x) (ev l i)).map fun v => (v, H) := by
  have hp := nD (P := P) ⟨d, .index t x i, ty, pos, af, g⟩ ⟨none, .index t (.const (ev l x)) (.const (ev l i)), t, "", #[], none⟩ l [] H rfl rfl
  simp only [opD, pN]
  exact hp
 have h2 : kD ((pN P t (ev l x) (ev l i)).map fun v => (v, H)) K = jU (pN P t (ev l x) (ev l i)) fun v => K v H := by cases pN P t (ev l x) (ev l i) <;> rfl
 simp only [mG, h, jK, Op.operands, h2]
 simp [and_assoc]
def oY (s : ByteArray) (i : Nat) : Nat := (s.data.toList.getD i 0).toNat
theorem b0k {t : TypeId} (s : ByteArray) (k : IntKind) (i : Int) (ht : oQ P t = true) (h0 : 0 ≤ i) (h1 : i < s.size) : pN P t (.string s) (.int k i) = some (.int .u8 (oY s i.toNat)) := by
 have hu : P.underlying t = some .string := by
  unfold oQ at ht
  split at ht
  ·rename_i h; exact h
  ·cases ht
 have hr : iN P (Instr.index t (.string s) (.int k i)) = some (.int .u8 (oY s i.toNat)) := by
  unfold Instr.index
  rw [iK]
  have e1 : iN P (asIntOf (.int k i)) = some (k, i) := rfl
  rw [e1, cX]
  simp only [iK, jX hu, cX]
  rw [if_pos h0]
  have hlt : i.toNat < s.size := by omega
  have hb : s[i.toNat]? = some s[i.toNat] := by simp [getElem?_pos, hlt]
  simp only [hb]
  rw [kQ]
  congr 3
  unfold oY
  rw [dc]
  have hl : i.toNat < s.data.toList.length := by simpa using hlt
  rw [dq hl]
  rfl
 have hpl : kP P ⟨none, .index t (.const (.string s)) (.const (.int k i)), t, "", #[], none⟩ [] .nil = some (.int .u8 (oY s i.toNat), .nil) := by
  unfold kP
  rw [if_pos (by rfl)]
  have : execOp (ev []) ⟨none, .index t (.const (.string s)) (.const (.int k i)), t, "", #[], none⟩ = (do let v ← Instr.index t (.string s) (.int k i); pure (.value v)) := rfl
  rw [this, iK, hr, cX, kQ]
  rfl
 simp only [pN, opD, hpl]
 rfl
def a1A (P : Program) (t : TypeId) : Option IntKind := match P.underlying t with | some (.int k) => some k | _ => none
theorem a0G {t : TypeId} {k : IntKind} (h : a1A P t = some k) : P.underlying t = some (.int k) := by
 unfold a1A at h
 split at h
 ·rename_i h2; rw [h2]; injection h with h; rw [h]
 ·cases h
theorem b2M {s t : TypeId} {k k' : IntKind} (a : Int) (hs : a1A P s = some k) (ht : a1A P t = some k') : a3t P s t (.int k a) = some (.int k' (k'.wrap a)) := by
 have hr : iN P (convert s t (.int k a)) = some (.int k' (k'.wrap a)) := by
  unfold convert
  simp only [iK, jX (a0G hs), jX (a0G ht), cX]
  rfl
 have hpl : kP P ⟨none, .convert s t (.const (.int k a)), t, "", #[], none⟩ [] .nil = some (.int k' (k'.wrap a), .nil) := by
  unfold kP
  rw [if_pos (by rfl)]
  have : execOp (ev []) ⟨none, .convert s t (.const (.int k a)), t, "", #[], none⟩ = (do let v ← convert s t (.int k a); pure (.value v)) := rfl
  rw [this, iK, hr, cX, kQ]
  rfl
 simp only [a3t, hpl]
 rfl
def a5j (P : Program) (d : Nat) (xs ys : Array Value) (fs : List Field) : Option Bool :=
 (iN P (forIn fs ((none, ()) : Option Bool × Unit) fun f _ =>
   if f.name ≠ "_" then do
    let a ← part f.type xs f.offset
    let b ← part f.type ys f.offset
    let c ← Op.equalIn d f.type a b
    if (!c) = true then pure (ForInStep.done (some false, ())) else pure (ForInStep.yield (none, ()))
   else pure (ForInStep.yield (none, ())))).bind fun x => iN P (match x.fst with | some r => pure r | none => pure true)
theorem a2G {d : Nat} {xs ys : Array Value} (g : Field → Bool) : ∀ (fs : List Field), (∀ f ∈ fs, f.name ≠ "_" ∧ iN P (part f.type xs f.offset >>= fun x => part f.type ys f.offset >>= fun y => Op.equalIn d f.type x y) = some (g f)) →
 a5j P d xs ys fs = some (fs.all g)
 | [], _ => rfl
 | f :: fs, hg => by
   obtain ⟨h1, h2⟩ := hg f (dI ..)
   have ih := a2G g fs fun f' h => hg f' (dO _ h)
   unfold a5j at ih ⊢
   rw [iK] at h2
   simp only [List.forIn_cons, h1, ne_eq, not_false_eq_true, if_true, iK]
   cases hx : iN P (part f.type xs f.offset) with
   | none => rw [hx] at h2; cases h2
   | some x =>
     rw [hx, cX, iK] at h2
     cases hy : iN P (part f.type ys f.offset) with
     | none => rw [hy] at h2; cases h2
     | some y =>
       rw [hy, cX] at h2
       simp only [cX, h2]
       cases hgf : g f with
       | false =>
         simp only [Bool.not_false, if_true, kQ, cX, ft, hgf, fy]
       | true =>
         simp only [Bool.not_true, dZ, if_false, kQ, cX, ft, hgf, gP]
         exact ih
theorem b6x {d : Nat} {t : TypeId} {fs : List Field} {xs ys : Array Value} (hu : P.underlying t = some (.struct fs.toArray)) (hst : P.stoodInHeld t = false) (g : Field → Bool)
 (hg : ∀ f ∈ fs, f.name ≠ "_" ∧ iN P (part f.type xs f.offset >>= fun x => part f.type ys f.offset >>= fun y => Op.equalIn d f.type x y) = some (g f)) : iN P (Op.equalIn (d + 1) t (.agg xs) (.agg ys)) = some (fs.all g) := by
 rw [Op.equalIn, iK, jX hu, cX]
 have hp : iN P program = some P := rfl
 simp only [iK, hp, cX, hst, dZ, if_false, List.forIn_toArray]
 refine Eq.trans ?_ (a2G g fs hg)
 unfold a5j
 congr 1
 funext x
 cases x.fst <;> rfl
theorem a3Y {op : BinOp} {t : TypeId} (ht : P.eqGuardType P.depth t = false) {x y : Operand} {a b : Array Value} : iN P (eqGuard op t x y (.agg a) (.agg b)) = some () := by
 have hp : iN P program = some P := rfl
 unfold eqGuard
 cases op <;> simp [iK, hp, ht, kQ]
theorem b6k {t t2 : TypeId} {cx cy : Bool} {xs ys : List Value} (b : Bool) (ht : P.eqGuardType P.depth t = false) (hx : xs.all iY = true) (hy : ys.all iY = true) (h : iN P (Op.equalIn (9999 + 1) t (.agg xs.toArray) (.agg ys.toArray)) = some b) :
 kU P .eql t t2 cx cy (.agg xs.toArray) (.agg ys.toArray) = some (.bool b) :=
 lS (by simp [flat, jB, kN, hx]) (by simp [flat, jB, kN, hy]) (a3Y ht) (by
  have hmd : Op.maxDepth = 9999 + 1 := by decide
  simp only [binOp, iK, Op.equal]
  rw [hmd, h, cX, kQ]) rfl (by simp) (by simp) (by intro _ _ _ h; cases h)
theorem b4N {t t2 : TypeId} {cx cy : Bool} {xs ys : List Value} (b : Bool) (ht : P.eqGuardType P.depth t = false) (hx : xs.all iY = true) (hy : ys.all iY = true) (h : iN P (Op.equalIn (9999 + 1) t (.agg xs.toArray) (.agg ys.toArray)) = some b) :
 kU P .neq t t2 cx cy (.agg xs.toArray) (.agg ys.toArray) = some (.bool (!b)) :=
 lS (by simp [flat, jB, kN, hx]) (by simp [flat, jB, kN, hy]) (a3Y ht) (by
  have hmd : Op.maxDepth = 9999 + 1 := by decide
  simp only [binOp, iK, Op.equal]
  rw [hmd, h, cX, kQ]) rfl (by simp) (by simp) (by intro _ _ _ h; cases h)
end
end Go.Ds
namespace Go.Ds
noncomputable section
variable {P : Program} {H : Heap}
theorem a2t (a b : ByteArray) : (a == b) = decide (b = a) := by
 obtain ⟨x⟩ := a
 obtain ⟨y⟩ := b
 rw [eG, decide_eq_true_iff]
 constructor
 ·intro h
  have e : x = y := by simpa using (show (x == y) = true from h)
  rw [e]
 ·intro h
  cases h
  show (x == x) = true
  simp
theorem a4b (o : Option Nat) (i : Nat) : o.map (i + 1 + ·) = (o.map (· + 1)).map (i + ·) := by
 cases o with
 | none => rfl
 | some j => simp only [dP]; congr 1; omega
theorem a1k (k : ByteArray) : ∀ (es : List MapEntry) (ks : List ByteArray) (i : Nat), es.map (·.key) = ks.map Value.string →
 (Instr.findNow .string (.string k) (es.map xN) i).map (·.map (·.1)) = some ((ks.findIdx? fun x => decide (x = k)).map (i + ·))
 | [], [], i, _ => rfl
 | [], _ :: _, _, h => by simp at h
 | _ :: _, [], _, h => by simp at h
 | e :: es, s :: ks, i, h => by
   simp only [ew, fQ] at h
   have hs : Instr.sameNow .string (.string k) e.key = some (decide (s = k)) := by
    rw [h.1]
    show some (k == s) = _
    rw [a2t]
   simp only [ew, Instr.findNow, xN, hs, fb]
   by_cases hd : s = k
   ·simp [hd]
   ·simp only [hd, decide_false, dZ, if_false]
    have := a1k k es ks (i + 1) h.2
    rw [a4b] at this
    exact this
theorem b1m {κ : Type} [DecidableEq κ] {enc : κ → Value} {kt : TypeId} (heq : ∀ a b, iN P (Op.equal kt (enc a) (enc b)) = some (decide (b = a))) (k : κ) : ∀ (es : List MapEntry) (ks : List κ) (i : Nat), es.map (·.key) = ks.map enc →
 (iN P (Instr.findAsking kt (enc k) (es.map xN) i)).map (·.map (·.1)) = some ((ks.findIdx? fun x => decide (x = k)).map (i + ·))
 | [], [], i, _ => rfl
 | [], _ :: _, _, h => by simp at h
 | _ :: _, [], _, h => by simp at h
 | e :: es, s :: ks, i, h => by
   simp only [ew, fQ] at h
   simp only [ew, Instr.findAsking, xN, iK, fb]
   rw [h.1, heq, cX]
   by_cases hd : s = k
   ·simp [hd, kQ]
   ·simp only [hd, decide_false, dZ, if_false]
    have := b1m heq k es ks (i + 1) h.2
    rw [a4b] at this
    exact this
theorem MapK.str {t kt et : TypeId} {z : Value} (hm : yO P t = some (kt, et)) (hu : P.underlying kt = some .string) (hz : jA P et = some z) (hf : jB z = true) : MapK P t Value.string z where
 ex := by
  refine ⟨kt, et, hm, hz, hf, ?_, ?_, ?_⟩
  ·intro b k
   have : iN P (Instr.checkKey b 10000 kt (.string k)) = some () := by
    show iN P (Instr.checkKey b (9999 + 1) kt (.string k)) = some ()
    unfold Instr.checkKey
    rw [iK, jX hu, cX]
    rfl
   simp only [yQ, this]
   rfl
  ·intro k es ks h
   have h1 := a1k k es ks 0 h
   unfold sD Instr.findKey
   rw [iK, jX hu, cX]
   cases hn : Instr.findNow .string (.string k) (es.map xN) 0 with
   | none => rw [hn] at h1; cases h1
   | some r =>
     rw [hn] at h1
     simp only [kQ]
     simpa using h1
  ·intro k
   show (k == k) = true
   rw [a2t]
   simp
theorem MapK.struct {κ : Type} [DecidableEq κ] {enc : κ → Value} {t kt et : TypeId} {z : Value} {fs : Array Field} (hm : yO P t = some (kt, et)) (hu : P.underlying kt = some (.struct fs)) (hz : jA P et = some z) (hf : jB z = true)
 (hk : ∀ b k, yQ P b kt (enc k) = true) (heq : ∀ a b, iN P (Op.equal kt (enc a) (enc b)) = some (decide (b = a))) (hsb : ∀ k, Instr.sameBits 10000 (enc k) (enc k) = true) : MapK P t enc z where
 ex := by
  refine ⟨kt, et, hm, hz, hf, hk, ?_, hsb⟩
  intro k es ks h
  have h1 := b1m heq k es ks 0 h
  unfold sD Instr.findKey
  rw [iK, jX hu, cX]
  have key : ∀ (l : List MapEntry), Instr.findNow (.struct fs) (enc k) l 0 = none ∨ l = [] := by
   intro l
   cases l with
   | nil => exact .inr rfl
   | cons e l => exact .inl rfl
  rcases key (es.map xN) with hn | hn
  ·rw [hn]
   simpa using h1
  ·rw [hn]
   have : es = [] := by simpa using hn
   subst this
   have : ks = [] := by cases ks with | nil => rfl | cons a ks => simp at h
   subst this
   rfl
end
end Go.Ds
namespace Go.Ds
noncomputable section
variable {P : Program} {H : Heap}
def a1Y (o : Option (Nat × TypeId)) (P : Program) (H : Heap) (t : TypeId) (z : Value) (K : Value → Heap → Prop) (_k : Keep K := ⟨⟩) : Prop := match o with
 | none => uT (jB z) (a5p P H t z K)
 | some _ => uT (jB z) (b1l P H t z K)
theorem a6b {o o' : Option (Nat × TypeId)} {t : TypeId} {z : Value} {K : Value → Heap → Prop} (h : o = o') : a1Y o P H t z K = a1Y o' P H t z K := by rw [h]
attribute [congr] a6b
theorem b5r {t : TypeId} (z : Value) (K : Value → Heap → Prop) : vY P H t (some z) K = a1Y (jT P t) P H t z K := by
 cases h : jT P t with
 | none => exact a8q z K h
 | some n => exact b0j z K h
theorem a7f {t : TypeId} (z : Value) (K : Value → Heap → Prop) : a1Y none P H t z K = uT (jB z) (a5p P H t z K) := rfl
theorem a8e {t : TypeId} (n : Nat × TypeId) (z : Value) (K : Value → Heap → Prop) : a1Y (some n) P H t z K = uT (jB z) (b1l P H t z K) := rfl
theorem a7p {t : TypeId} {k : IntKind} (h : a1A P t = some k) : lF P t = false := by
 simp [lF, a0G h]
def a4m (ks kt : Option IntKind) (P : Program) (s t : TypeId) (H : Heap) (k : IntKind) (a : Int) (K : Value → Heap → Prop) (_k : Keep K := ⟨⟩) : Prop := match ks, kt with
 | some k0, some k' => if k0 = k then K (.int k' (k'.wrap a)) H else uI P s t H (.int k a) K
 | _, _ => uI P s t H (.int k a) K
theorem a7G {ks ks' kt kt' : Option IntKind} {s t : TypeId} {k : IntKind} {a : Int} {K : Value → Heap → Prop} (h : ks = ks') (h2 : kt = kt') : a4m ks kt P s t H k a K = a4m ks' kt' P s t H k a K := by rw [h, h2]
attribute [congr] a7G
theorem b9k {s t : TypeId} (k : IntKind) (a : Int) (K : Value → Heap → Prop) : uI P s t H (.int k a) K = a4m (a1A P s) (a1A P t) P s t H k a K := by
 unfold a4m
 split
 ·rename_i k0 k' hs ht
  split
  ·rename_i hk
   subst hk
   rw [b2R k0 a K (a7p ht), b2M a hs ht]
   rfl
  ·rfl
 ·rfl
theorem b3D {s t : TypeId} (k k' : IntKind) (a : Int) (K : Value → Heap → Prop) : a4m (some k) (some k') P s t H k a K = oM (.int k' (k'.wrap a)) fun v => K v H := by simp [a4m, oM]
def c3C (b : Bool) (P : Program) (H : Heap) (t : TypeId) (v : Value) : Option Value := match b with
 | true => (match v with | .string s => some (.int .i64 s.size) | _ => a0H P H t v)
 | false => a0H P H t v
theorem c4m (t : TypeId) (v : Value) : b0N none P H t v = c3C (oQ P t) P H t v := by
 unfold c3C
 split
 ·rename_i h
  split
  ·exact b6B _ h
  ·rfl
 ·rfl
theorem b6w (t : TypeId) (s : ByteArray) : c3C true P H t (.string s) = some (.int .i64 s.size) := rfl
def a2D (b : Bool) (P : Program) (t : TypeId) (x i : Value) : Option Value := match b, x, i with
 | true, .string s, .int k i => if 0 ≤ i ∧ i < s.size then some (.int .u8 (oY s i.toNat)) else pN P t (.string s) (.int k i)
 | _, x, i => pN P t x i
theorem a7g (t : TypeId) (x i : Value) : pN P t x i = a2D (oQ P t) P t x i := by
 unfold a2D
 split
 ·rename_i h
  split
  ·rename_i h2; exact b0k _ _ _ h h2.1 h2.2
  ·rfl
 ·rfl
theorem b1j (t : TypeId) (s : ByteArray) (k : IntKind) (i : Int) (h0 : 0 ≤ i) (h1 : i < s.size) : a2D true P t (.string s) (.int k i) = some (.int .u8 (oY s i.toNat)) := by
 simp [a2D, h0, h1]
theorem OC : (∀ k n, oneCell (.int k n) = true) ∧ (∀ b, oneCell (.bool b) = true) ∧ (∀ s, oneCell (.string s) = true) ∧ (∀ a, oneCell (.pointer a) = true) ∧ (∀ a n c, oneCell (.slice a n c) = true) ∧ (∀ r, oneCell (.map r) = true) ∧ (∀ f a b, oneCell (.func f a b) = true) ∧ oneCell .nilFunc = true :=
 ⟨fun _ _ => rfl, fun _ => rfl, fun _ => rfl, fun _ => rfl, fun _ _ _ => rfl, fun _ => rfl, fun _ _ _ => rfl, rfl⟩
theorem c5C (o : Option Bool) : (o.map Value.bool).getD (.bool false) = .bool (o.getD false) := by cases o <;> rfl
theorem c6r (k : IntKind) (o : Option Int) : (o.map (Value.int k)).getD (.int k 0) = .int k (o.getD 0) := by cases o <;> rfl
theorem b8v (v : Value) (b : Bool) : pairV false v b = v := rfl
theorem b9w (v : Value) (b : Bool) : pairV true v b = .tuple #[v, .bool b] := rfl
theorem b6r (t : Tmp) : lK (.tmp t) = false := rfl
theorem b1b (v : Value) : lK (.const v) = true := rfl
theorem b7T (s : ByteArray) : flat (.string s) = true := rfl
theorem b3j (s : ByteArray) : jB (.string s) = true := rfl
theorem b0a (s : ByteArray) : iY (.string s) = true := rfl
theorem a8x (s : ByteArray) : jD (.string s) = true := rfl
theorem b6F (k : IntKind) (n : Int) : pU (.int k n) = true := rfl
theorem b3l (b : Bool) : pU (.bool b) = true := rfl
theorem b7O (s : ByteArray) : pU (.string s) = true := rfl
theorem qX {c b : Bool} {p q : Prop} (h1 : c = true → sO (.bool true) b p q) (h2 : c = false → sO (.bool false) b p q) : sO (.bool c) b p q := by
 cases c
 ·exact h2 rfl
 ·exact h1 rfl
theorem St.pick {H0 : Base} {os os' : List Ob} (hS : St P H0 H os) (idx : List Nat) (hn : idx.Nodup) (h : idx.map (os[·]?) = os'.map some) : St P H0 H os' := by
 have hmem : ∀ o ∈ os', o ∈ os := by
  intro o ho
  have : some o ∈ idx.map (os[·]?) := by rw [h]; exact gh ho
  obtain ⟨i, _, hi⟩ := dz.1 this
  exact dT hi
 refine ⟨hS.len, hS.old, fun o ho => hS.own o (hmem o ho), fun o ho => hS.new o (hmem o ho), ?_⟩
 have hpw := eJ.1 hS.sep
 rw [eJ]
 intro i j hi hj hij
 have hl : idx.length = os'.length := by simpa using congrArg List.length h
 have key : ∀ i (hi : i < os'.length), ∃ hk : idx[i]'(by omega) < os.length, os[idx[i]'(by omega)] = os'[i] := by
  intro i hi
  have h1 : (idx.map (os[·]?))[i]? = (os'.map some)[i]? := by rw [h]
  rw [eP, eP, dq (by omega), dq hi] at h1
  simp only [dP, dE] at h1
  exact dy.1 h1
 obtain ⟨h1, e1⟩ := key i hi
 obtain ⟨h2, e2⟩ := key j hj
 have hne : idx[i]'(by omega) ≠ idx[j]'(by omega) := by
  have := eJ.1 hn i j (by omega) (by omega) hij
  exact this
 rcases fM hne with hh | hh
 ·have := hpw _ _ h1 h2 hh
  rw [e1, e2] at this
  exact this
 ·have := hpw _ _ h2 h1 hh
  rw [e1, e2] at this
  intro B hb hb'
  exact this B hb' hb
theorem St.frame {H1 : Heap} {H0 : Base} {ls rest ls' : List Ob} (hS : St P H0 H (ls ++ rest)) (h1 : St P ⟨H, sG ls⟩ H1 ls') : St P H0 H1 (ls' ++ rest) := by
 have hls : St P H0 H ls := hS.sub (List.sublist_append_left ..)
 have h2 := hls.bz h1
 have hsep := fc.1 hS.sep
 have hkeep : ∀ o ∈ rest, ∀ B, kI o.v = some B → iR H1 B = iR H B := by
  intro o ho B hB
  have hlt := (hS.own o (gy _ ho)).lt hB
  exact h1.old B hlt fun ⟨x, hx, hxb⟩ => hsep.2.2 x hx o ho B hxb hB
 refine ⟨h2.len, h2.old, ?_, ?_, ?_⟩
 ·intro o ho
  rcases dF.1 ho with ho | ho
  ·exact h2.own o ho
  ·exact (hS.own o (gy _ ho)).ab (hkeep o ho)
 ·intro o ho B hB
  rcases dF.1 ho with ho | ho
  ·exact h2.new o ho B hB
  ·exact hS.new o (gy _ ho) B hB
 ·rw [fc]
  refine ⟨h2.sep, hsep.2.1, ?_⟩
  intro x hx y hy B hb hb'
  rcases h1.new x hx B hb with hh | ⟨z, hz, hzb⟩
  ·have := (hS.own y (gy _ hy)).lt hb'
   have hh : H.length ≤ B := hh
   omega
  ·exact hsep.2.2 z hz y hy B hzb hb'
theorem c0L (t : TypeId) (k : IntKind) (n : Int) : unV P .neg t (.int k n) = some (.int k (k.wrap (0 - n))) := rfl
theorem b4k (ops : Array Oper) (d : Option Tmp) (op : Op) (ty : TypeId) (pos : String) (af : Array Edge) (j : Nat) (b : Bool) (l : List Value) (H' : Heap) (v : Value) :
 rdW P ops (some ⟨d, op, ty, pos, af, some (j, b)⟩) (some (l, H', v)) H = vE (zV ops j) l b (mG P ⟨d, op, ty, pos, af, some (j, b)⟩ l H fun v' _ => v' = v) True := by
 rw [← tX ops l d op ty pos af]
 unfold rdW
 split
 ·rename_i h1 h2
  cases h1; cases h2
  split
  ·rename_i h; simp [h]
  ·rename_i h; simp [h]
 ·rename_i h
  exact (h _ _ _ _ rfl rfl).elim
theorem b4z (t t2 : TypeId) (cx cy : Bool) (k : IntKind) (a b : Int) (K : Value → Prop) : kW P .and t t2 cx cy (.int k a) (.int k b) K = jU (kU P .and t t2 cx cy (.int k a) (.int k b)) K := by
 have h : (if k = k then mR .and k a b else none) = none := by split <;> rfl
 unfold kW; dsimp only
 rw [h]
theorem b7L (t t2 : TypeId) (cx cy : Bool) (k : IntKind) (a b : Int) (K : Value → Prop) : kW P .or t t2 cx cy (.int k a) (.int k b) K = jU (kU P .or t t2 cx cy (.int k a) (.int k b)) K := by
 have h : (if k = k then mR .or k a b else none) = none := by split <;> rfl
 unfold kW; dsimp only
 rw [h]
theorem b3n (t t2 : TypeId) (cx cy : Bool) (k : IntKind) (a b : Int) (K : Value → Prop) : kW P .xor t t2 cx cy (.int k a) (.int k b) K = jU (kU P .xor t t2 cx cy (.int k a) (.int k b)) K := by
 have h : (if k = k then mR .xor k a b else none) = none := by split <;> rfl
 unfold kW; dsimp only
 rw [h]
theorem a5z (t t2 : TypeId) (cx cy : Bool) (k : IntKind) (a b : Int) (K : Value → Prop) : kW P .andNot t t2 cx cy (.int k a) (.int k b) K = jU (kU P .andNot t t2 cx cy (.int k a) (.int k b)) K := by
 have h : (if k = k then mR .andNot k a b else none) = none := by split <;> rfl
 unfold kW; dsimp only
 rw [h]
theorem b4r (t t2 : TypeId) (cx cy : Bool) (k k' : IntKind) (a b : Int) (K : Value → Prop) : kW P .shl t t2 cx cy (.int k a) (.int k' b) K = jU (kU P .shl t t2 cx cy (.int k a) (.int k' b)) K := by
 have h : (if k = k' then mR .shl k a b else none) = none := by split <;> rfl
 unfold kW; dsimp only
 rw [h]
theorem b3f (t t2 : TypeId) (cx cy : Bool) (k k' : IntKind) (a b : Int) (K : Value → Prop) : kW P .shr t t2 cx cy (.int k a) (.int k' b) K = jU (kU P .shr t t2 cx cy (.int k a) (.int k' b)) K := by
 have h : (if k = k' then mR .shr k a b else none) = none := by split <;> rfl
 unfold kW; dsimp only
 rw [h]
theorem b2W (op : BinOp) (t t2 : TypeId) (cx cy : Bool) (a b : ByteArray) (K : Value → Prop) : kW P op t t2 cx cy (.string a) (.string b) K = jU (kU P op t t2 cx cy (.string a) (.string b)) K := rfl
theorem b3G (op : BinOp) (t t2 : TypeId) (cx cy : Bool) (a b : Array Value) (K : Value → Prop) : kW P op t t2 cx cy (.agg a) (.agg b) K = jU (kU P op t t2 cx cy (.agg a) (.agg b)) K := rfl
theorem b2U (op : BinOp) (t t2 : TypeId) (cx cy : Bool) (a b : Bool) (K : Value → Prop) : kW P op t t2 cx cy (.bool a) (.bool b) K = jU (kU P op t t2 cx cy (.bool a) (.bool b)) K := rfl
theorem b5m (n : Int) (h1 : -9223372036854775808 ≤ n) (h2 : n < 9223372036854775808) : IntKind.wrap .i64 n = n := by
 show (if (true && decide (n % 18446744073709551616 ≥ 9223372036854775808)) = true then n % 18446744073709551616 - 18446744073709551616 else n % 18446744073709551616) = n
 simp only [gP, decide_eq_true_eq]
 omega
theorem c0S (n : Int) (h1 : -128 ≤ n) (h2 : n < 128) : IntKind.wrap .i8 n = n := by
 show (if (true && decide (n % 256 ≥ 128)) = true then n % 256 - 256 else n % 256) = n
 simp only [gP, decide_eq_true_eq]
 omega
theorem nB (n : Int) (h1 : 0 ≤ n) (h2 : n < 18446744073709551616) : IntKind.wrap .u64 n = n := by
 show (if (false && decide (n % 18446744073709551616 ≥ 9223372036854775808)) = true then n % 18446744073709551616 - 18446744073709551616 else n % 18446744073709551616) = n
 simp only [fy]
 rw [if_neg (by simp)]
 omega
theorem b7b (n : Int) (h1 : 0 ≤ n) (h2 : n < 4294967296) : IntKind.wrap .u32 n = n := by
 show (if (false && decide (n % 4294967296 ≥ 2147483648)) = true then n % 4294967296 - 4294967296 else n % 4294967296) = n
 simp only [fy]
 rw [if_neg (by simp)]
 omega
theorem b6V (n : Int) (h1 : 0 ≤ n) (h2 : n < 65536) : IntKind.wrap .u16 n = n := by
 show (if (false && decide (n % 65536 ≥ 32768)) = true then n % 65536 - 65536 else n % 65536) = n
 simp only [fy]
 rw [if_neg (by simp)]
 omega
theorem b9V (n : Int) (h1 : 0 ≤ n) (h2 : n < 256) : IntKind.wrap .u8 n = n := by
 show (if (false && decide (n % 256 ≥ 128)) = true then n % 256 - 256 else n % 256) = n
 simp only [fy]
 rw [if_neg (by simp)]
 omega
end
end Go.Ds
namespace Go.Ds
noncomputable section
variable {P : Program}
def a0O (P : Program) (t : TypeId) : List Field := match P.underlying t with | some (.struct fs) => fs.toList | _ => []
def eqC : Value → Value → Bool
 | .int _ a, .int _ b => a == b
 | .bool a, .bool b => a == b
 | .string a, .string b => decide (a = b)
 | _, _ => false
def okC (P : Program) (t : TypeId) (x y : Value) : Bool := match P.underlying t with
 | some (.int _) => (match x, y with | .int k _, .int k' _ => decide (k = k') | _, _ => false)
 | some .bool => (match x, y with | .bool _, .bool _ => true | _, _ => false)
 | some .string => (match x, y with | .string _, .string _ => true | _, _ => false)
 | _ => false
theorem eq1 {t : TypeId} {x y : Value} (d : Nat) (h : okC P t x y = true) : iN P (Op.equalIn (d + 1) t x y) = some (eqC x y) := by
 unfold okC at h
 split at h
 ·rename_i k0 hu
  split at h
  ·rename_i k a k' b
   have hk : k = k' := by simpa using h
   subst hk
   rw [Op.equalIn, iK, jX hu, cX]
   simp only [if_true]
   rfl
  ·cases h
 ·rename_i hu
  split at h
  ·rw [Op.equalIn, iK, jX hu, cX]; rfl
  ·cases h
 ·rename_i hu
  split at h
  ·rename_i a b
   rw [Op.equalIn, iK, jX hu, cX]
   show some (a == b) = some (decide (a = b))
   rw [a2t]
   congr 1
   simp [eq_comm]
  ·cases h
 ·cases h
theorem c1t {t : TypeId} {x y v : Value} {cs : Array Value} {off : Nat} (h : okC P t x y = true) (hc : cs[off]? = some v) : iN P (part t cs off) = some v := by
 have ha : iN P (isAgg t) = some false := by
  unfold isAgg
  unfold okC at h
  split at h
  ·rename_i hu; rw [iK, jX hu, cX]; rfl
  ·rename_i hu; rw [iK, jX hu, cX]; rfl
  ·rename_i hu; rw [iK, jX hu, cX]; rfl
  ·cases h
 unfold part
 rw [iK, ha, cX]
 simp only [dZ, if_false, hc]
 rfl
theorem a2z {t : TypeId} {xs ys : List Value} (d : Nat) (hu : P.underlying t = some (.struct (a0O P t).toArray)) (hst : P.stoodInHeld t = false)
 (hf : ((a0O P t).map fun f => (f.name != "_", f.offset)) = (List.range xs.length).map fun j => (true, j)) (hy : ys.length = xs.length)
 (hok : ((a0O P t).all fun f => okC P f.type (xs.getD f.offset undef) (ys.getD f.offset undef)) = true) :
 iN P (Op.equalIn (d + 2) t (.agg xs.toArray) (.agg ys.toArray)) = some ((List.range xs.length).all fun j => eqC (xs.getD j undef) (ys.getD j undef)) := by
 rw [dx] at hok
 have hmem : ∀ f ∈ a0O P t, (f.name != "_") = true ∧ f.offset < xs.length := fun f hf' => by
  have : (f.name != "_", f.offset) ∈ (List.range xs.length).map fun j => (true, j) := by rw [← hf]; exact gh hf'
  obtain ⟨j, hj, he⟩ := dz.1 this
  simp only [gu] at he
  exact ⟨he.1.symm, by rw [← he.2]; exact dw.1 hj⟩
 rw [b6x hu hst (fun f => eqC (xs.getD f.offset undef) (ys.getD f.offset undef)) ?_]
 ·congr 1
  have h1 : (a0O P t).all (fun f => eqC (xs.getD f.offset undef) (ys.getD f.offset undef)) = ((a0O P t).map fun f => (f.name != "_", f.offset)).all fun p => eqC (xs.getD p.2 undef) (ys.getD p.2 undef) := by
   rw [List.all_map]; rfl
  rw [h1, hf, List.all_map]
  rfl
 ·intro f hf'
  obtain ⟨h1, h2⟩ := hmem f hf'
  refine ⟨by simpa using h1, ?_⟩
  have hx : xs.toArray[f.offset]? = some (xs.getD f.offset undef) := by
   rw [fi, dc, dq h2]; rfl
  have hy' : ys.toArray[f.offset]? = some (ys.getD f.offset undef) := by
   rw [fi, dc, dq (by omega)]; rfl
  rw [iK, c1t (hok f hf') hx, cX, iK, c1t (hok f hf') hy', cX]
  exact eq1 d (hok f hf')
theorem a0b {t t2 : TypeId} {cx cy : Bool} {xs ys : List Value} (hu : P.underlying t = some (.struct (a0O P t).toArray)) (hst : P.stoodInHeld t = false) (hg : P.eqGuardType P.depth t = false)
 (hf : ((a0O P t).map fun f => (f.name != "_", f.offset)) = (List.range xs.length).map fun j => (true, j)) (hy : ys.length = xs.length)
 (hok : ((a0O P t).all fun f => okC P f.type (xs.getD f.offset undef) (ys.getD f.offset undef)) = true) (hx : xs.all iY = true) (hys : ys.all iY = true) :
 kU P .eql t t2 cx cy (.agg xs.toArray) (.agg ys.toArray) = some (.bool ((List.range xs.length).all fun j => eqC (xs.getD j undef) (ys.getD j undef))) ∧
 kU P .neq t t2 cx cy (.agg xs.toArray) (.agg ys.toArray) = some (.bool (!((List.range xs.length).all fun j => eqC (xs.getD j undef) (ys.getD j undef)))) :=
 ⟨b6k _ hg hx hys (a2z 9998 hu hst hf hy hok), b4N _ hg hx hys (a2z 9998 hu hst hf hy hok)⟩
theorem c4o {t : TypeId} {k : IntKind} (hu : P.underlying t = some (.struct (a0O P t).toArray)) (hst : P.stoodInHeld t = false)
 (hf : ((a0O P t).map fun f => (f.name != "_", f.offset)) = (List.range 2).map fun j => (true, j))
 (hok : ∀ a b c d : Int, ((a0O P t).all fun f => okC P f.type ([Value.int k a, .int k b].getD f.offset undef) ([Value.int k c, .int k d].getD f.offset undef)) = true) (a b : Int × Int) :
 iN P (Op.equal t (.agg #[.int k a.1, .int k a.2]) (.agg #[.int k b.1, .int k b.2])) = some (decide (b = a)) := by
 have hmd : Op.maxDepth = 9998 + 2 := by decide
 unfold Op.equal
 rw [hmd, a2z (xs := [.int k a.1, .int k a.2]) (ys := [.int k b.1, .int k b.2]) 9998 hu hst hf rfl (hok _ _ _ _)]
 congr 1
 show ((a.1 == b.1) && ((a.2 == b.2) && true)) = _
 rw [eG]
 simp only [fu, cW, beq_iff_eq, decide_eq_true_eq, Prod.ext_iff]
 constructor
 ·rintro ⟨h1, h2⟩; exact ⟨h1.symm, h2.symm⟩
 ·rintro ⟨h1, h2⟩; exact ⟨h1.symm, h2.symm⟩
theorem c3q {k : IntKind} (a : Int × Int) : Instr.sameBits 10000 (.agg #[.int k a.1, .int k a.2]) (.agg #[.int k a.1, .int k a.2]) = true := by
 show ((2 : Nat) == 2 && ([(Value.int k a.1, Value.int k a.1), (Value.int k a.2, Value.int k a.2)]).all fun (x, y) => Instr.sameBits 9999 x y) = true
 have h : ∀ n, Instr.sameBits 9999 (.int k n) (.int k n) = true := fun n => by
  show (k == k && n == n) = true
  cases k <;> simp <;> rfl
 simp [h]
section
variable {H : Heap} {α : Type} {n : Nat} {cel : α → List Value} {v : Value} {xs : List α}
theorem Sl.aV (h : Sl n cel H v xs) (o : Oper) (l : List Value) (H' : Heap) (k : IntKind) (a : Int) (K : Value → Heap → Prop) (h0 : 0 < xs.length) (h1 : 0 ≤ a) (h2 : a ≤ xs.length) :
 pM P o l H' (some n) v none (some (.int k a)) K = oM (rN v n 0 a.toNat) fun v => K v H' := by
 obtain ⟨m, rfl⟩ : ∃ m, n = m + 1 := ⟨n - 1, by have := h.pos; omega⟩
 exact h.rd.aV (iM h.hc xs) o l H' k a K h0 h1 h2
theorem Sl.aU (h : Sl n cel H v xs) (o : Oper) (l : List Value) (H' : Heap) (k : IntKind) (a : Int) (K : Value → Heap → Prop) (h0 : 0 < xs.length) (h1 : 0 ≤ a) (h2 : a ≤ xs.length) :
 pM P o l H' (some n) v (some (.int k a)) none K = oM (rN v n a.toNat (xs.length - a).toNat) fun v => K v H' := by
 obtain ⟨m, rfl⟩ : ∃ m, n = m + 1 := ⟨n - 1, by have := h.pos; omega⟩
 rw [h.rd.aU (iM h.hc xs) o l H' k a K h0 h1 h2]
 congr 2
 omega
theorem Sl.sub (h : Sl n cel H v xs) (lo k : Nat) (hk : lo + k ≤ xs.length) (h0 : 0 < xs.length) : Sl n cel H (rN v n lo k) ((xs.drop lo).take k) := by
 refine ⟨?_, h.hc, h.pos⟩
 have hne : xs.flatMap cel ≠ [] := fun e => by
  have := iM h.hc xs
  rw [e, eH] at this
  have hp := il h0 h.pos
  omega
 have := h.rd.sub lo k (by rw [iM h.hc, ← fp]; exact dL _ hk) hne
 rw [tW h.hc, a3w h.hc] at this
 exact this
theorem Sl.cB (h : Sl n cel H v xs) (k : Nat) (hk : k ≤ xs.length) (h0 : 0 < xs.length) : Sl n cel H (rN v n 0 k) (xs.take k) := by
 simpa using h.sub 0 k (by omega) h0
theorem Sl.cC (h : Sl n cel H v xs) (lo : Nat) (hk : lo ≤ xs.length) (h0 : 0 < xs.length) : Sl n cel H (rN v n lo (xs.length - lo)) (xs.drop lo) := by
 have := h.sub lo (xs.length - lo) (by omega) h0
 rwa [List.take_of_length_le (by simp)] at this
end
def b0M (P : Program) (ts : Array TypeId) (ty : TypeId) (cx cy : Bool) (x y : Value) : Option Value := (kP P ⟨none, .call { callee := .builtin .max, args := #[pB cx 0 x, pB cy 1 y], argTypes := ts }, ty, "", #[], none⟩ [x, y] .nil).map (·.1)
theorem b9L (d : Option Tmp) (ty : TypeId) (pos : String) (af : Array Edge) (g : Option (Nat × Bool)) (ts : Array TypeId) (x y : Operand) (l : List Value) (H : Heap) (K : Value → Heap → Prop) :
 mG P ⟨d, .call { callee := .builtin .max, args := #[x, y], argTypes := ts }, ty, pos, af, g⟩ l H K = jK x l fun x' => jK y l fun y' => jU (b0M P ts ty (lK x) (lK y) x' y') fun v => K v H := by
 have h : opD P ⟨d, .call { callee := .builtin .max, args := #[x, y], argTypes := ts }, ty, pos, af, g⟩ l H = (b0M P ts ty (lK x) (lK y) (ev l x) (ev l y)).map fun v => (v, H) :=
  nD (P := P) ⟨d, .call { callee := .builtin .max, args := #[x, y], argTypes := ts }, ty, pos, af, g⟩ ⟨none, .call { callee := .builtin .max, args := #[pB (lK x) 0 (ev l x), pB (lK y) 1 (ev l y)], argTypes := ts }, ty, "", #[], none⟩ l [ev l x, ev l y] H
   (by cases x <;> cases y <;> rfl) (by cases x <;> cases y <;> kernel_rfl)
 have h2 : kD ((b0M P ts ty (lK x) (lK y) (ev l x) (ev l y)).map fun v => (v, H)) K = jU (b0M P ts ty (lK x) (lK y) (ev l x) (ev l y)) fun v => K v H := by cases b0M P ts ty (lK x) (lK y) (ev l x) (ev l y) <;> rfl
 simp only [mG, h, jK, Op.operands, Call.operands, h2]
 simp [and_assoc]
theorem b7q (ts : Array TypeId) (ty : TypeId) (cx cy : Bool) (a b : Int) : b0M P ts ty cx cy (.int .i64 a) (.int .i64 b) = some (.int .i64 (max a b)) := by
 have h : b0M P ts ty cx cy (.int .i64 a) (.int .i64 b) = some (.int .i64 (if b > a then b else a)) := by cases cx <;> cases cy <;> kernel_rfl
 rw [h]
 congr 2
 split <;> omega
def a9b (P : Program) (ts : Array TypeId) (ty : TypeId) (cx cy : Bool) (x y : Value) : Option Value := (kP P ⟨none, .call { callee := .builtin .min, args := #[pB cx 0 x, pB cy 1 y], argTypes := ts }, ty, "", #[], none⟩ [x, y] .nil).map (·.1)
theorem b9l (d : Option Tmp) (ty : TypeId) (pos : String) (af : Array Edge) (g : Option (Nat × Bool)) (ts : Array TypeId) (x y : Operand) (l : List Value) (H : Heap) (K : Value → Heap → Prop) :
 mG P ⟨d, .call { callee := .builtin .min, args := #[x, y], argTypes := ts }, ty, pos, af, g⟩ l H K = jK x l fun x' => jK y l fun y' => jU (a9b P ts ty (lK x) (lK y) x' y') fun v => K v H := by
 have h : opD P ⟨d, .call { callee := .builtin .min, args := #[x, y], argTypes := ts }, ty, pos, af, g⟩ l H = (a9b P ts ty (lK x) (lK y) (ev l x) (ev l y)).map fun v => (v, H) :=
  nD (P := P) ⟨d, .call { callee := .builtin .min, args := #[x, y], argTypes := ts }, ty, pos, af, g⟩ ⟨none, .call { callee := .builtin .min, args := #[pB (lK x) 0 (ev l x), pB (lK y) 1 (ev l y)], argTypes := ts }, ty, "", #[], none⟩ l [ev l x, ev l y] H
   (by cases x <;> cases y <;> rfl) (by cases x <;> cases y <;> kernel_rfl)
 have h2 : kD ((a9b P ts ty (lK x) (lK y) (ev l x) (ev l y)).map fun v => (v, H)) K = jU (a9b P ts ty (lK x) (lK y) (ev l x) (ev l y)) fun v => K v H := by cases a9b P ts ty (lK x) (lK y) (ev l x) (ev l y) <;> rfl
 simp only [mG, h, jK, Op.operands, Call.operands, h2]
 simp [and_assoc]
theorem b6C (ts : Array TypeId) (ty : TypeId) (cx cy : Bool) (a b : Int) : a9b P ts ty cx cy (.int .i64 a) (.int .i64 b) = some (.int .i64 (min a b)) := by
 have h : a9b P ts ty cx cy (.int .i64 a) (.int .i64 b) = some (.int .i64 (if b < a then b else a)) := by cases cx <;> cases cy <;> kernel_rfl
 rw [h]
 congr 2
 split <;> omega
section
variable {H : Heap}
def Var (H : Heap) (A n : Nat) (cs : List Value) : Prop := n = cs.length ∧ ∃ ty rw lo ver, iR H A = some (.cells cs ty rw lo ver) ∧ lo ≤ cs.length
theorem Var.ab {H' : Heap} {A n : Nat} {cs : List Value} (h : Var H A n cs) (hk : ∀ B, B < H.length → iR H' B = iR H B) : Var H' A n cs := by
 obtain ⟨h1, ty, rw, lo, ver, h2, h3⟩ := h
 exact ⟨h1, ty, rw, lo, ver, by rw [hk A (jN h2), h2], h3⟩
theorem Var.ld {A n : Nat} {cs : List Value} (h : Var H A n cs) (s : Option Nat) (off : Nat) : pO (some false) s H (ptr A off n) = cs[off]? := by
 obtain ⟨rfl, ty, rw, lo, ver, h1, h2⟩ := h
 simp only [pO, jC, h1]
 by_cases h : off < cs.length
 ·rw [if_pos (by simp; omega)]
  simp only [cX]
  rw [dW (by omega), dH]
  simp
 ·rw [if_neg (by simp; omega), eo (by omega)]
  rfl
theorem Var.ae {A n : Nat} {cs : List Value} (h : Var H A n cs) (m off : Nat) : pO (some true) (some m) H (ptr A off n) = if off + m ≤ cs.length then some (.agg ((cs.drop off).take m).toArray) else none := by
 obtain ⟨rfl, ty, rw, lo, ver, h1, h2⟩ := h
 simp only [pO, jC, h1, cX]
 by_cases h : off + m ≤ cs.length
 ·rw [if_pos (by simp; omega), if_pos h]
  rfl
 ·rw [if_neg (by simp; omega), if_neg h]
  rfl
theorem St.var {P : Program} {H0 : Base} {os : List Ob} (hS : St P H0 H os) (i : Nat) {A n : Nat} {cs : List Value} (ho : os[i]? = some ⟨ptr A 0 n, 0, cs⟩) : Var H A n cs := by
 obtain ⟨h1, ty, lo, ver, h2, h3⟩ := hS.cell i ho
 exact ⟨h1, ty, true, lo, ver, h2, h3⟩
theorem St.va {H0 : Heap} {os : List Ob} (hS : St P H0 H os) {A n : Nat} {cs : List Value} (h : Var H0 A n cs) : Var H A n cs := h.ab hS.ab
end
theorem tD {P : Program} (t t2 : TypeId) (cx cy : Bool) (u x : UInt8) : kU P .add t t2 cx cy (.string ⟨#[u]⟩) (.string ⟨#[x]⟩) = some (.string ⟨#[u, x]⟩) := by
 rw [a6Q _ _ _ _ _ _ (by show 1 + 1 < 9223372036854775808; decide)]
 rfl
theorem wG {P : Program} {H : Heap} {s t : TypeId} {v : Value} {n : Int} (h : RdAt H v 1 [.int .u8 n]) (hs : lF P s = true) (ht : oQ P t = true) (hbt : lF P t = false) (h0 : 0 ≤ n) (h1 : n < 256) (K : Value → Heap → Prop) :
 uI P s t H v K = K (.string ⟨#[UInt8.ofNat n.toNat]⟩) H := by
 obtain ⟨m, rfl⟩ : ∃ m : Nat, n = Int.ofNat m := ⟨n.toNat, by simp [fZ h0]⟩
 have hm : m < 256 := by have : (m : Int) < 256 := h1; omega
 rcases h with ⟨_, h⟩ | ⟨A, i, e, row, ty, rw, lo, ver, k, g1, g2, g3, g4, g5, g6, rfl⟩
 ·cases h
 have hk : k = 1 := by simp at g6; omega
 subst hk
 have hc : jC H A i e 1 = some [.int .u8 (Int.ofNat m)] := by
  simp only [jC, g1]
  rw [if_pos (by simp at g4 ⊢; omega)]
  exact congrArg some g5
 have hb : nO [.int .u8 (Int.ofNat m)] = some ⟨#[UInt8.ofNat m]⟩ := by simp [nO, a3k, a1S, hm]
 have hd : opD P ⟨none, .convert s t (.const (.slice (some ⟨A, i, some e⟩) 1 1)), t, "", #[], none⟩ [] H = some (.string ⟨#[UInt8.ofNat m]⟩, H) := by
  have hf : flat (.slice (some ⟨A, i, some e⟩) 1 1) = false := rfl
  simp only [opD, ev, hf, hs, ht, hc, hb, fy, dZ, if_false, Bool.and_self, if_true, cX, dP]
 unfold uI
 rw [hd]
 apply propext
 constructor
 ·rintro ⟨v, H1, h2, h3⟩
  injection (cV h2) with e1 e2
  subst e1 e2
  exact h3
 ·intro h3
  exact ⟨_, _, rfl, h3⟩
theorem a5H {P : Program} {t : TypeId} {n : Nat} {elem : TypeId} {size : Nat} (ha : P.underlying t = some (.array n elem)) (hs : iE P elem = some size) (A i e : Nat) (k : IntKind) (j : Int) (h0 : 0 ≤ j) (h1 : j < n) :
 xO (iT P t) P t (ptr A i e) (.int k j) = some (ptr A (i + j.toNat * size) e) := by
 have hn : iT P t = none := by simp [iT, iI, ha]
 rw [hn]
 simp only [xO, a1V, ha, ptr, hs, cX]
 rw [if_pos (by simp [h0, h1])]
end
end Go.Ds
namespace Go.Ds
section
variable {P : Program}
def c3d (inv : List Nat) (e : Edge) : Edge := { e with on := inv.getD e.on 0 }
def zI (inv : List Nat) (o : Oper) : Oper := { o with after := o.after.map (c3d inv), guard := o.guard.map fun g => (inv.getD g.1 0, g.2) }
def kF (π inv : List Nat) (ops : Array Oper) : Array Oper := (π.map fun i => zI inv (ops.getD i default)).toArray
def b0Z (π inv : List Nat) (ops : Array Oper) : Bool :=
 decide (π.length = ops.size) && decide (inv.length = ops.size) && (List.range ops.size).all (fun i => decide (π.getD i 0 < ops.size) && decide (inv.getD i 0 < ops.size) && decide (inv.getD (π.getD i 0) 0 = i) && decide (π.getD (inv.getD i 0) 0 = i)) &&
 ops.toList.all fun o => o.after.toList.all (fun e => decide (e.on < ops.size)) && (match o.guard with | some g => decide (g.1 < ops.size) | none => true)
structure Perm (π inv : List Nat) (ops : Array Oper) : Prop where
 len : π.length = ops.size
 pi : ∀ i, i < ops.size → π.getD i 0 < ops.size
 iv : ∀ i, i < ops.size → inv.getD i 0 < ops.size
 ip : ∀ i, i < ops.size → inv.getD (π.getD i 0) 0 = i
 pv : ∀ i, i < ops.size → π.getD (inv.getD i 0) 0 = i
 edge : ∀ (i : Nat) (o : Oper), ops[i]? = some o → ∀ e ∈ o.after, e.on < ops.size
 guard : ∀ (i : Nat) (o : Oper) (g : Nat × Bool), ops[i]? = some o → o.guard = some g → g.1 < ops.size
theorem c0o {π inv : List Nat} {ops : Array Oper} (h : b0Z π inv ops = true) : Perm π inv ops := by
 unfold b0Z at h
 simp only [cW, decide_eq_true_eq, dx, dw] at h
 obtain ⟨⟨⟨h1, h2⟩, h3⟩, h4⟩ := h
 refine ⟨h1, fun i hi => (h3 i hi).1.1.1, fun i hi => (h3 i hi).1.1.2, fun i hi => (h3 i hi).1.2, fun i hi => (h3 i hi).2, fun i o ho e he => ?_, fun i o g ho hg => ?_⟩
 ·exact (h4 o (dT (i := i) (by simpa using ho))).1 e (by simpa using he)
 ·have := (h4 o (dT (i := i) (by simpa using ho))).2
  rw [hg] at this
  simpa using this
variable {π inv : List Nat} {ops : Array Oper}
theorem a7M (p : Nat) : (kF π inv ops)[p]? = (π[p]?).map fun i => zI inv (ops.getD i default) := by
 simp [kF]
theorem rL (D : Perm π inv ops) {p i : Nat} {o : Oper} (hp : p < ops.size) (hi : π.getD p 0 = i) (ho : ops[i]? = some o) : (kF π inv ops)[p]? = some (zI inv o) := by
 rw [a7M]
 have h1 : π[p]? = some i := by
  rw [dc] at hi
  rw [dq (by rw [D.len]; exact hp)] at hi ⊢
  simpa using hi
 rw [h1]
 simp only [dP]
 rw [ee, ho]
 rfl
theorem qN (D : Perm π inv ops) : (kF π inv ops).size = ops.size := by simp [kF, D.len]
theorem a5R (D : Perm π inv ops) (tmps : Array Value) {j : Nat} (hj : j < ops.size) : yielded (kF π inv ops) tmps (inv.getD j 0) = yielded ops tmps j := by
 have ho : ops[j]? = some ops[j] := dg.2 ⟨hj, rfl⟩
 unfold yielded
 rw [rL D (D.iv j hj) (D.pv j hj) ho, ho]
 rfl
theorem a8d (D : Perm π inv ops) (tmps : Array Value) {i : Nat} {o : Oper} (ho : ops[i]? = some o) : Region.wanted (zI inv o) (yielded (kF π inv ops) tmps) = Region.wanted o (yielded ops tmps) := by
 unfold Region.wanted
 have e : (zI inv o).guard = o.guard.map fun g => (inv.getD g.1 0, g.2) := rfl
 rw [e]
 cases hg : o.guard with
 | none => rfl
 | some g =>
   simp only [dP]
   rw [a5R D tmps (D.guard i o g ho hg)]
theorem b9m (ro : Option Nat) (ρ : Operand → Value) (o : Oper) : (zI inv o).semAt ro ρ = o.semAt ro ρ := by
 obtain ⟨dst, op, type, pos, after, guard⟩ := o
 rfl
theorem b2v (w : World) (ρ : Operand → Value) (o : Oper) : (zI inv o).about P w ρ = o.about P w ρ := by
 obtain ⟨dst, op, type, pos, after, guard⟩ := o
 rfl
theorem b5Z (F : Fence) (n : Nat) (o : Oper) (a : Act) (next : Act → World → Prop) (Q : Exit → Act → World → Prop) (r : Result Next) : (zI inv o).uponIn F n P a next Q r = o.uponIn F n P a next Q r := by
 obtain ⟨dst, op, type, pos, after, guard⟩ := o
 cases r with
 | ok x w => cases x <;> rfl
 | halt x w => cases x <;> rfl
theorem b2O (D : Perm π inv ops) (F : Fence) (n : Nat) (Q : Exit → Act → World → Prop) {i : Nat} (hi : i < ops.size) (K : Act → World → Prop) (a : Act) (w : World) :
 wpOpIn F n P (kF π inv ops) Q (inv.getD i 0) K a w = wpOpIn F n P ops Q i K a w := by
 have ho : ops[i]? = some ops[i] := dg.2 ⟨hi, rfl⟩
 unfold wpOpIn
 rw [rL D (D.iv i hi) (D.pv i hi) ho, ho]
 simp only [a8d D a.tmps ho, Oper.wpIn, b2v, b5Z, b9m]
 rfl
def c3V (inv : List Nat) (n : Nat) (listed listed' : Array Bool) : Prop := listed.size = n ∧ listed'.size = n ∧ ∀ i, i < n → listed.getD i false = listed'.getD (inv.getD i 0) false
theorem yB (D : Perm π inv ops) {listed listed' : Array Bool} (hc : c3V inv ops.size listed listed') {i : Nat} (hi : i < ops.size) :
 i ∈ Region.ready .any ops listed ↔ inv.getD i 0 ∈ Region.ready .any (kF π inv ops) listed' := by
 have ho : ops[i]? = some ops[i] := dg.2 ⟨hi, rfl⟩
 have ho' := rL D (D.iv i hi) (D.pv i hi) ho
 have hsz := qN D
 obtain ⟨c1, c2, c3⟩ := hc
 constructor
 ·intro h
  obtain ⟨o, h1, h2, h3⟩ := pL c1 h
  rw [ho] at h1
  obtain rfl := cV h1
  refine a0Z (by rw [hsz]; exact c2) ho' (by rw [← c3 i hi]; exact h2) ?_
  intro e he hb
  have he' : e ∈ (ops[i]).after.map (c3d inv) := he
  obtain ⟨e0, he0, rfl⟩ := Array.mem_map.1 he'
  have := h3 e0 he0 hb
  show listed'.getD (inv.getD e0.on 0) false = true
  rw [← c3 _ (D.edge i _ ho e0 he0)]
  exact this
 ·intro h
  obtain ⟨o, h1, h2, h3⟩ := pL (by rw [hsz]; exact c2) h
  rw [ho'] at h1
  obtain rfl := cV h1
  refine a0Z c1 ho (by rw [c3 i hi]; exact h2) ?_
  intro e he hb
  have := h3 (c3d inv e) (Array.mem_map.2 ⟨e, he, rfl⟩) hb
  rw [c3 _ (D.edge i _ ho e he)]
  exact this
theorem b7R (D : Perm π inv ops) (F : Fence) (k : Nat) {Q : Exit → Act → World → Prop} : ∀ (fuel : Nat) (listed listed' : Array Bool) (a : Act) (w : World), c3V inv ops.size listed listed' →
 wpAnyIn F k P .any (kF π inv ops) Q fuel listed' a w → wpAnyIn F k P .any ops Q fuel listed a w := by
 have hsz := qN D
 have nil1 : ∀ {listed listed' : Array Bool}, c3V inv ops.size listed listed' → (Region.ready .any ops listed = [] ↔ Region.ready .any (kF π inv ops) listed' = []) := by
  intro listed listed' hc
  constructor
  ·intro h
   cases hr : Region.ready .any (kF π inv ops) listed' with
   | nil => rfl
   | cons p r =>
     exfalso
     have hp : p ∈ Region.ready .any (kF π inv ops) listed' := by rw [hr]; exact dI ..
     obtain ⟨o, h1, _, _⟩ := pL (by rw [hsz]; exact hc.2.1) hp
     have hpn : p < ops.size := by rw [← hsz]; exact (dg.1 h1).1
     have := (yB D hc (D.pi p hpn)).2 (by rw [D.ip p hpn]; exact hp)
     rw [h] at this
     cases this
  ·intro h
   cases hr : Region.ready .any ops listed with
   | nil => rfl
   | cons i r =>
     exfalso
     have hi : i ∈ Region.ready .any ops listed := by rw [hr]; exact dI ..
     obtain ⟨o, h1, _, _⟩ := pL hc.1 hi
     have := (yB D hc (dg.1 h1).1).1 hi
     rw [h] at this
     cases this
 intro fuel
 induction fuel with
 | zero =>
   intro listed listed' a w hc h
   exact ⟨(nil1 hc).2 h.1, h.2⟩
 | succ fuel ih =>
   intro listed listed' a w hc h
   refine ⟨fun hn => h.1 ((nil1 hc).1 hn), fun i hi => ?_⟩
   obtain ⟨o, h1, _, _⟩ := pL hc.1 hi
   have hin := (dg.1 h1).1
   have h2 := h.2 _ ((yB D hc hin).1 hi)
   rw [b2O D F k Q hin] at h2
   refine wpOpIn_mono (fun a' w' h3 => ih _ _ a' w' ⟨by simpa using hc.1, by simpa using hc.2.1, fun j hj => ?_⟩ h3) h2
   have e1 := uA (listed := listed) (i := i) (by rw [hc.1]; exact hin) j
   have e2 := uA (listed := listed') (i := inv.getD i 0) (by rw [hc.2.1]; exact D.iv i hin) (inv.getD j 0)
   have e3 : (inv.getD j 0 = inv.getD i 0) ↔ j = i := ⟨fun h => by rw [← D.pv j hj, h, D.pv i hin], fun h => by rw [h]⟩
   rw [eG, e1, e2, e3, hc.2.2 j hj]
end
section
variable {P : Program} {H : Heap} {π inv : List Nat} {ops : Array Oper}
theorem Sim.cD (jZ : P.follows .mixedOrders = true) {id : Nat} (Dp : Perm π inv ops) {fl : Fl} (D : Draw P fl (kF π inv ops)) {T : Nat → List Value × Heap} {val : Nat → Value} (X : Text P (kF π inv ops) T val)
 (hread : ∀ i m o, (i, m) ∈ mO fl (kF π inv ops) → (kF π inv ops)[i]? = some o → Region.wanted o (iU (kF π inv ops) (T i).1) = true → ∃ H2, opD P o (T i).1 (T m).2 = some (val i, H2)) :
 Sim P (.region id ops true) (T 0).1 (T 0).2 .normal (T ops.size).1 (T ops.size).2 := by
 intro ro k B ρ w a hr hE hl hM hB
 have hsz := qN Dp
 have := a4I D X hread ro k B hr hE hM
 rw [hsz] at this
 exact wpIn_region_any jZ (b7R Dp (fe ro) k ops.size _ _ a _ ⟨by simp, by simp, fun i hi => by
  have := Dp.iv i hi
  simp only [ee, Array.getElem?_replicate, hi, this, if_true]⟩ this)
theorem a3N (D : Perm π inv ops) (l : List Value) {j : Nat} (hj : j < ops.size) : iU (kF π inv ops) l (inv.getD j 0) = iU ops l j := by
 have ho : ops[j]? = some ops[j] := dg.2 ⟨hj, rfl⟩
 unfold iU
 rw [rL D (D.iv j hj) (D.pv j hj) ho, ho]
 rfl
theorem zZ (D : Perm π inv ops) (l : List Value) {i : Nat} {o : Oper} (ho : ops[i]? = some o) : Region.wanted (zI inv o) (iU (kF π inv ops) l) = Region.wanted o (iU ops l) := by
 unfold Region.wanted
 have e : (zI inv o).guard = o.guard.map fun g => (inv.getD g.1 0, g.2) := rfl
 rw [e]
 cases hg : o.guard with
 | none => rfl
 | some g =>
   simp only [dP]
   rw [a3N D l (D.guard i o g ho hg)]
theorem b1F (o : Oper) (l : List Value) (K : Value → Heap → Prop) : mG P (zI inv o) l H K = mG P o l H K := by
 obtain ⟨dst, op, type, pos, after, guard⟩ := o
 rfl
theorem a4v (D : Perm π inv ops) : ∀ (os : List Oper) (tr : List (List Value × Heap × Value)) (l : List Value) (H : Heap) (K : List (List Value × Heap × Value) → List Value → Heap → Prop), (∀ o ∈ os, ∃ i : Nat, ops[i]? = some o) →
 mN P (kF π inv ops) (os.map (zI inv)) tr l H K = mN P ops os tr l H K
 | [], _, _, _, _, _ => rfl
 | o :: os, tr, l, H, K, h => by
   obtain ⟨i, ho⟩ := h o (by simp)
   have ih := fun tr l H => a4v D os tr l H K fun o ho => h o (by simp [ho])
   rw [ew, mN, mN, zZ D l ho]
   have e : (zI inv o).dst = o.dst := rfl
   simp only [b1F, e, ih]
def c4n (o : Option Oper) (os : List Oper) : List Oper := match o with | some o => o :: os | none => os
def sel (os : List Oper) : List Nat → List Oper
 | [] => []
 | i :: π => c4n os[i]? (sel os π)
theorem c0A (os : List Oper) : sel os [] = [] := rfl
theorem a8z (os : List Oper) (i : Nat) (π : List Nat) : sel os (i :: π) = c4n os[i]? (sel os π) := rfl
theorem a4N (o : Oper) (os : List Oper) : c4n (some o) os = o :: os := rfl
theorem a8T (os : List Oper) : ∀ (π : List Nat), (∀ i ∈ π, i < os.length) → sel os π = π.map fun i => os.toArray.getD i default
 | [], _ => rfl
 | i :: π, h => by
   have hi := h i (by simp)
   rw [a8z, a8T os π fun j hj => h j (by simp [hj]), dq hi, a4N, ew]
   congr 1
   simp [ee, hi]
def a0Y (P : Program) (os : List Oper) (tr : List (List Value × Heap × Value)) (H1 : Heap) (π : List Nat) : List (Nat × Nat) → Prop
 | [] => True
 | (p, m) :: r => rdW P os.toArray (os[π.getD p 0]?) tr[p]? (trH tr[m]? H1) ∧ a0Y P os tr H1 π r
theorem a9w (os : List Oper) (tr) (H1 : Heap) (π : List Nat) : a0Y P os tr H1 π [] = True := rfl
theorem a7L (os : List Oper) (tr) (H1 : Heap) (π : List Nat) (p m : Nat) (r : List (Nat × Nat)) : a0Y P os tr H1 π ((p, m) :: r) = (rdW P os.toArray (os[π.getD p 0]?) tr[p]? (trH tr[m]? H1) ∧ a0Y P os tr H1 π r) := rfl
theorem a2X {os : List Oper} {tr} {H1 : Heap} {π : List Nat} : ∀ {tab : List (Nat × Nat)}, a0Y P os tr H1 π tab → ∀ x ∈ tab, rdW P os.toArray (os[π.getD x.1 0]?) tr[x.1]? (trH tr[x.2]? H1)
 | [], _, x, hx => by cases hx
 | (i, m) :: r, h, x, hx => by
   rcases dV.1 hx with rfl | hx
   ·exact h.1
   ·exact a2X h.2 x hx
theorem Wp.cg (jZ : P.follows .mixedOrders = true) {id : Nat} {os : List Oper} {l : List Value} {Q : nZ} (π inv : List Nat) (fl : Fl) (tab : List (Nat × Nat)) (hp : b0Z π inv os.toArray = true)
 (htab : a2L P fl (kF π inv os.toArray) = some tab) (hn : uW (kF π inv os.toArray) tab = true)
 (h : mN P os.toArray (sel os π) [] l H fun tr l1 H1 => Q .normal l1 H1 ∧ a0Y P os tr H1 π tab) : Wp P (.region id os.toArray true) l H Q := by
 have Dp := c0o hp
 obtain ⟨D, htb⟩ := a3P htab
 have hsz := qN Dp
 have hmem : ∀ i ∈ π, i < os.length := fun i hi => by
  obtain ⟨p, hpl, hpe⟩ := dK.1 hi
  have := Dp.pi p (by rw [← Dp.len]; exact hpl)
  rw [dc, dq hpl, fg, hpe] at this
  simpa using this
 have hsel : (sel os π).map (zI inv) = (kF π inv os.toArray).toList := by
  rw [a8T os π hmem]
  simp [kF]
 rw [← a4v Dp (sel os π) [] l H _ (fun o ho => by
  rw [a8T os π hmem, dz] at ho
  obtain ⟨i, hi, rfl⟩ := ho
  have := hmem i hi
  exact ⟨i, by simp [ee, this]⟩), hsel] at h
 obtain ⟨T, val, l', H', ext, h0, h1, h2, h3, h4, h5, h6⟩ := uZ (kF π inv os.toArray).toList 0 rfl [] l H h
 have hlen : (kF π inv os.toArray).toList.length = os.toArray.size := by rw [fA, hsz]
 rw [hlen] at h1 h2 h3 h4
 have := Sim.cD jZ (id := id) Dp D (T := T) (val := val) ⟨fun k hk => by rw [hsz] at hk; simpa using h4 k hk⟩ fun i m o hm ho hw => by
  rw [← htb] at hm
  have hr := a2X h6 (i, m) hm
  have hi : i < os.toArray.size := by rw [← hsz]; exact (dg.1 ho).1
  have hpi := Dp.pi i hi
  have hoo : os.toArray[π.getD i 0]? = some (os.toArray[π.getD i 0]) := dg.2 ⟨hpi, rfl⟩
  have hat := rL (inv := inv) Dp hi rfl hoo
  rw [ho] at hat
  have hat := cV hat
  have hoo' : os[π.getD i 0]? = some (os.toArray[π.getD i 0]) := by rw [← hoo]; simp
  simp only [fj] at hr
  rw [hoo', h3 i hi] at hr
  unfold rdW at hr
  rw [hat, zZ Dp _ hoo] at hw
  have hr := hr hw
  have hno : zC o = true := by
   unfold uW at hn
   have := dx.1 hn (i, m) hm
   simpa [ho] using this
  have hTm : trH ext[m]? H' = (T m).2 ∨ os.toArray.size < m := by
   unfold trH
   by_cases hm2 : m < os.toArray.size
   ·left; rw [h3 m hm2]
   ·by_cases hm3 : m = os.toArray.size
    ·left
     rw [eo (by omega), hm3, h1]
    ·right; omega
  rcases hTm with hTm | hTm
  ·rw [hTm, ← b1F (inv := inv), ← hat] at hr
   obtain ⟨v, H2, h7, h8⟩ := b2a hno hr
   exact ⟨H2, by rw [h7, h8]⟩
  ·exfalso
   rw [htb] at hm
   have := a3p hm
   rw [hsz] at this
   omega
 rw [h0, h1] at this
 exact ⟨_, _, _, this, h5⟩
end
def RA :=
 And.intro @c0V <| And.intro @b7f <| And.intro @c0Q <| And.intro @c3x <| And.intro @c3n <| And.intro @b7B <| And.intro @c1a <| And.intro @c2z <| And.intro @b8I <| And.intro @b9d <| And.intro @b8i <| And.intro @a7t <| And.intro @b4y <| And.intro @b5S <| And.intro @b3K <| And.intro @a9v <| And.intro @a9e <| And.intro @a8A <| And.intro @b6P <| And.intro @a8Y <| And.intro @b5I <| And.intro @b7l <| And.intro @b3M <| And.intro @b2L <| And.intro @c1i <| And.intro @b4g <| And.intro @a2E <| And.intro @a3D <| And.intro @a9T <| And.intro @b6b <| And.intro @b4b <| And.intro @c0r <| And.intro @a3M <| And.intro @a3K <| And.intro @b6u <| And.intro @c3X <| And.intro @a7k <| And.intro @a7o <| And.intro @b2Q <| And.intro @b6m <| And.intro @a5f <| And.intro @b1f <| And.intro @a9o <| And.intro @b1c <| And.intro @a9u <| And.intro @a8l <| And.intro @a3W <| And.intro @a5Y <| And.intro @a2n <| And.intro @b3E <| And.intro @b9L <| And.intro @b9l <| And.intro @b6n <| And.intro @a9t <| And.intro @b4e <| And.intro @b3A <| And.intro @a9Z <| And.intro @a8X <| And.intro @a7X <| And.intro @a8J <| And.intro @b5n <| And.intro @b3B <| And.intro @a3R <| And.intro @a9G <| And.intro @a6S <| And.intro @a3U <| And.intro @a8B <| And.intro @a8Z <| And.intro @a7e <| @b6Q
def RB :=
 And.intro @b9h <| And.intro @b0U <| And.intro @a9K <| And.intro @b2E <| And.intro @b0Y <| And.intro @a7P <| And.intro @a8u <| And.intro @b5r <| And.intro @a7f <| And.intro @a8e <| And.intro @b9k <| And.intro @b3D <| And.intro @a9H <| And.intro @c0g <| And.intro @b9Z <| And.intro @c0j <| And.intro @c0s <| And.intro @b1k <| And.intro @a7l <| And.intro @b8M <| And.intro @c4m <| And.intro @b6w <| And.intro @a7g <| And.intro @b1j <| And.intro @b8t <| And.intro @b9G <| And.intro @b6D <| And.intro @b2I <| And.intro @b3c <| And.intro @b2D <| And.intro @b4x <| And.intro @b3q <| And.intro @b2S <| And.intro @b3e <| And.intro @b3k <| And.intro @b3H <| And.intro @b3Z <| And.intro @b3o <| And.intro @b4z <| And.intro @b7L <| And.intro @b3n <| And.intro @a5z <| And.intro @b4r <| And.intro @b3f <| And.intro @b2W <| And.intro @b3G <| And.intro @b2U <| And.intro @b6M <| And.intro @b5u <| And.intro @b7D <| And.intro @c0a <| And.intro @b8n <| And.intro @a8j <| And.intro @a9z <| And.intro @a9U <| And.intro @c0H <| And.intro @b5B <| And.intro @a7Z <| And.intro @b7S <| And.intro @b7U <| And.intro @b3V <| And.intro @b0b <| And.intro @b7T <| And.intro @b2X <| And.intro @a9r <| And.intro @b3j <| And.intro @b5R <| And.intro @b0o <| And.intro @b4p <| And.intro @b2x <| And.intro @b0v <| And.intro @b2t <| And.intro @a9N <| And.intro @c0A <| And.intro @a8z <| And.intro @a4N <| And.intro @a9w <| And.intro @a7L <| And.intro @b8N <| And.intro @b8f <| And.intro @b4k <| And.intro @b5J <| And.intro @b5p <| And.intro @b3g <| And.intro @b5V <| And.intro @b4o <| And.intro @a5T <| And.intro @b0d <| And.intro @a8F <| And.intro @a8S <| And.intro @b0a <| And.intro @b8o <| And.intro @b6F <| And.intro @b3l <| And.intro @b7O <| And.intro @a6t <| And.intro @a5D <| And.intro @a8D <| And.intro @a6z <| And.intro @a8x <| And.intro @c5C <| And.intro @c6r <| And.intro @b8v <| And.intro @b9w <| And.intro @b7q <| And.intro @b6C <| And.intro @b6r <| And.intro @b1b <| And.intro @c0L <| And.intro @b5m <| And.intro @c0S <| And.intro @nB <| And.intro @b7b <| And.intro @b6V <| @b9V
theorem RT :
 (∀ {α : Type} (l : List α), [] ++ l = l) ∧
 (∀ {α : Type} (l : List α), l ++ [] = l) ∧
 (∀ {α : Type} {a : α} {l m : List α}, a :: l ++ m = a :: (l ++ m)) ∧
 (∀ (cs : List Value) (i : Nat) (v : Value) (vs : List Value), iX cs i (v :: vs) = iX (cs.set i v) (i + 1) vs) ∧
 (∀ (cs : List Value) (i : Nat), iX cs i [] = cs) ∧
 (∀ {α : Type} {x : α} {xs : List α} {a : α}, (x :: xs).set 0 a = a :: xs) ∧
 (∀ {α : Type} {x : α} {xs : List α} {i : Nat} {a : α}, (x :: xs).set (i + 1) a = x :: xs.set i a) ∧
 (∀ (n : Nat), 0 + n = n) ∧
 (∀ (n : Nat), n * 1 = n) ∧
 (∀ (n : Nat), n + 0 = n) :=
 ⟨@List.nil_append, @List.append_nil, @List.cons_append, @lU, @sC, @List.set_cons_zero, @List.set_cons_succ, @Nat.zero_add, @Nat.mul_one, @Nat.add_zero⟩
end Go.Ds
namespace Go.Ds
open Go.Proofs Go.Proofs.Tryz
abbrev I (n : Int) : Value := .int .i64 n
theorem sR (H : Heap) : St prog H H [] := .refl ..
theorem jZ : prog.follows .mixedOrders = true := by kernel_rfl
theorem tS3 : iE prog 3 = some 1 := by kernel_rfl
theorem c1f : iE prog 26 = some 3 := by kernel_rfl
theorem c3M : iE prog 27 = some 5 := by kernel_rfl
theorem c6N : iE prog 29 = some 3 := by kernel_rfl
theorem c5L : iE prog 32 = some 1 := by kernel_rfl
theorem c5m : iE prog 33 = some 1 := by kernel_rfl
theorem c0c : iE prog 34 = some 1 := by kernel_rfl
theorem lP : iE prog 36 = some 4 := by kernel_rfl
theorem c4B : iE prog 38 = some 1 := by kernel_rfl
theorem c2s : iE prog 39 = some 1 := by kernel_rfl
theorem nQ : iE prog 41 = some 3 := by kernel_rfl
theorem b4A : iE prog 49 = some 1 := by kernel_rfl
theorem qJ : iE prog 55 = some 2 := by kernel_rfl
theorem a0s : iE prog 57 = some 2 := by kernel_rfl
theorem a1E : iE prog 59 = some 6 := by kernel_rfl
theorem lA : iE prog 64 = some 2 := by kernel_rfl
theorem a1D : iE prog 69 = some 2 := by kernel_rfl
theorem c6P : iE prog 70 = some 1 := by kernel_rfl
theorem uR : iE prog 72 = some 5 := by kernel_rfl
theorem a9J : iE prog 90 = some 1 := by kernel_rfl
theorem kX : iE prog 104 = some 2 := by kernel_rfl
theorem b1W : iE prog 109 = some 4 := by kernel_rfl
theorem b5K : iE prog 113 = some 9 := by kernel_rfl
theorem wX : iE prog 115 = some 1 := by kernel_rfl
theorem oH : iE prog 117 = some 4 := by kernel_rfl
theorem b6U : iE prog 120 = some 4 := by kernel_rfl
theorem b1t : iE prog 122 = some 4 := by kernel_rfl
theorem uH : iE prog 124 = some 5 := by kernel_rfl
theorem xB : iE prog 153 = some 2 := by kernel_rfl
theorem yV : iE prog 156 = some 3 := by kernel_rfl
theorem b2k : iE prog 192 = some 3 := by kernel_rfl
theorem b8p : iE prog 227 = some 1 := by kernel_rfl
theorem c3k : iT prog 49 = some 1 := by kernel_rfl
theorem nW : lF prog 114 = true ∧ oQ prog 9 = true ∧ lF prog 9 = false := ⟨by kernel_rfl, by kernel_rfl, by kernel_rfl⟩
theorem c7F (A i e : Nat) (k : IntKind) (j : Int) (h0 : 0 ≤ j) (h1 : j < 5) : xO (iT prog 27) prog 27 (ptr A i e) (.int k j) = some (ptr A (i + j.toNat * 1) e) := a5H (n := 5) (elem := 5) (size := 1) (by kernel_rfl) (by kernel_rfl) A i e k j h0 h1
theorem c7j (A i e : Nat) (k : IntKind) (j : Int) (h0 : 0 ≤ j) (h1 : j < 3) : xO (iT prog 29) prog 29 (ptr A i e) (.int k j) = some (ptr A (i + j.toNat * 1) e) := a5H (n := 3) (elem := 28) (size := 1) (by kernel_rfl) (by kernel_rfl) A i e k j h0 h1
theorem c6G (A i e : Nat) (k : IntKind) (j : Int) (h0 : 0 ≤ j) (h1 : j < 64) : xO (iT prog 241) prog 241 (ptr A i e) (.int k j) = some (ptr A (i + j.toNat * 1) e) := a5H (n := 64) (elem := 5) (size := 1) (by kernel_rfl) (by kernel_rfl) A i e k j h0 h1
theorem c3c : nJ prog 32 = some (6, 80) := by kernel_rfl
theorem c4N : ((iI prog 32).bind (jA prog)).any jB = true := by kernel_rfl
theorem c3D : nJ prog 33 = some (5, 64) := by kernel_rfl
theorem c5u : ((iI prog 33).bind (jA prog)).any jB = true := by kernel_rfl
theorem b0f : nJ prog 34 = some (5, 48) := by kernel_rfl
theorem c0P : ((iI prog 34).bind (jA prog)).any jB = true := by kernel_rfl
theorem c2n : nJ prog 38 = some (1, 8) := by kernel_rfl
theorem c5H : ((iI prog 38).bind (jA prog)).any jB = true := by kernel_rfl
theorem a3C : nJ prog 44 = some (2, 16) := by kernel_rfl
theorem b6J : ((iI prog 44).bind (jA prog)).any jB = true := by kernel_rfl
theorem zQ : nJ prog 49 = some (1, 8) := by kernel_rfl
theorem a2c : ((iI prog 49).bind (jA prog)).any jB = true := by kernel_rfl
theorem a7C : nJ prog 52 = some (2, 16) := by kernel_rfl
theorem c2t : ((iI prog 52).bind (jA prog)).any jB = true := by kernel_rfl
theorem c3Z : nJ prog 70 = some (4, 56) := by kernel_rfl
theorem c5E : ((iI prog 70).bind (jA prog)).any jB = true := by kernel_rfl
theorem qP : nJ prog 90 = some (2, 16) := by kernel_rfl
theorem a1Z : ((iI prog 90).bind (jA prog)).any jB = true := by kernel_rfl
theorem b2j : nJ prog 114 = some (1, 1) := by kernel_rfl
theorem b2f : ((iI prog 114).bind (jA prog)).any jB = true := by kernel_rfl
theorem qH : nJ prog 115 = some (3, 40) := by kernel_rfl
theorem xH : ((iI prog 115).bind (jA prog)).any jB = true := by kernel_rfl
theorem c5A : nJ prog 144 = some (1, 16) := by kernel_rfl
theorem c6T : ((iI prog 144).bind (jA prog)).any jB = true := by kernel_rfl
theorem c1v : nJ prog 145 = some (2, 16) := by kernel_rfl
theorem c4X : ((iI prog 145).bind (jA prog)).any jB = true := by kernel_rfl
theorem a4e : nJ prog 154 = some (2, 16) := by kernel_rfl
theorem a4u : ((iI prog 154).bind (jA prog)).any jB = true := by kernel_rfl
theorem b7M : nJ prog 164 = some (3, 40) := by kernel_rfl
theorem b5k : ((iI prog 164).bind (jA prog)).any jB = true := by kernel_rfl
theorem c1m : nJ prog 195 = some (2, 16) := by kernel_rfl
theorem c1u : ((iI prog 195).bind (jA prog)).any jB = true := by kernel_rfl
theorem c4Z : c4a prog 49 = some (8, .int .i64 0) := by kernel_rfl
theorem c5B (t2 : TypeId) (cx cy : Bool) (a0 : Int) (a1 : Int) (b0 : Int) (b1 : Int) : kU prog .eql 55 t2 cx cy (.agg #[.int .i64 a0, .int .i64 a1]) (.agg #[.int .i64 b0, .int .i64 b1]) = some (.bool (decide (a0 = b0 ∧ a1 = b1))) ∧ kU prog .neq 55 t2 cx cy (.agg #[.int .i64 a0, .int .i64 a1]) (.agg #[.int .i64 b0, .int .i64 b1]) = some (.bool (decide (¬ (a0 = b0 ∧ a1 = b1)))) := by
 have h := a0b (P := prog) (t := 55) (t2 := t2) (cx := cx) (cy := cy) (xs := [.int .i64 a0, .int .i64 a1]) (ys := [.int .i64 b0, .int .i64 b1]) (by kernel_rfl) (by kernel_rfl) (by kernel_rfl) (by kernel_rfl) rfl (by kernel_rfl) rfl rfl
 have e : ((List.range [Value.int .i64 a0, .int .i64 a1].length).all fun j => eqC ([Value.int .i64 a0, .int .i64 a1].getD j undef) ([Value.int .i64 b0, .int .i64 b1].getD j undef)) = decide (a0 = b0 ∧ a1 = b1) := by
  show (eqC (Value.int .i64 a0) (.int .i64 b0) && (eqC (Value.int .i64 a1) (.int .i64 b1) && true)) = _
  rw [eG]
  simp [eqC]
 rw [e] at h
 exact ⟨h.1, by rw [h.2]; simp⟩
theorem c5W (t2 : TypeId) (cx cy : Bool) (a0 : Int) (a1 : Int) (b0 : Int) (b1 : Int) : kU prog .eql 55 t2 cx cy (.agg #[.int .i64 a0, .int .i64 a1]) (.agg #[.int .i64 b0, .int .i64 b1]) = some (.bool (decide (a0 = b0 ∧ a1 = b1))) := (c5B t2 cx cy a0 a1 b0 b1).1
theorem c6F (t2 : TypeId) (cx cy : Bool) (a0 : Int) (a1 : Int) (b0 : Int) (b1 : Int) : kU prog .neq 55 t2 cx cy (.agg #[.int .i64 a0, .int .i64 a1]) (.agg #[.int .i64 b0, .int .i64 b1]) = some (.bool (decide (¬ (a0 = b0 ∧ a1 = b1)))) := (c5B t2 cx cy a0 a1 b0 b1).2
theorem c5O (t2 : TypeId) (cx cy : Bool) (a0 : Int) (a1 : Int) (b0 : Int) (b1 : Int) : kU prog .eql 64 t2 cx cy (.agg #[.int .i64 a0, .int .i64 a1]) (.agg #[.int .i64 b0, .int .i64 b1]) = some (.bool (decide (a0 = b0 ∧ a1 = b1))) ∧ kU prog .neq 64 t2 cx cy (.agg #[.int .i64 a0, .int .i64 a1]) (.agg #[.int .i64 b0, .int .i64 b1]) = some (.bool (decide (¬ (a0 = b0 ∧ a1 = b1)))) := by
 have h := a0b (P := prog) (t := 64) (t2 := t2) (cx := cx) (cy := cy) (xs := [.int .i64 a0, .int .i64 a1]) (ys := [.int .i64 b0, .int .i64 b1]) (by kernel_rfl) (by kernel_rfl) (by kernel_rfl) (by kernel_rfl) rfl (by kernel_rfl) rfl rfl
 have e : ((List.range [Value.int .i64 a0, .int .i64 a1].length).all fun j => eqC ([Value.int .i64 a0, .int .i64 a1].getD j undef) ([Value.int .i64 b0, .int .i64 b1].getD j undef)) = decide (a0 = b0 ∧ a1 = b1) := by
  show (eqC (Value.int .i64 a0) (.int .i64 b0) && (eqC (Value.int .i64 a1) (.int .i64 b1) && true)) = _
  rw [eG]
  simp [eqC]
 rw [e] at h
 exact ⟨h.1, by rw [h.2]; simp⟩
theorem c5Y (t2 : TypeId) (cx cy : Bool) (a0 : Int) (a1 : Int) (b0 : Int) (b1 : Int) : kU prog .eql 64 t2 cx cy (.agg #[.int .i64 a0, .int .i64 a1]) (.agg #[.int .i64 b0, .int .i64 b1]) = some (.bool (decide (a0 = b0 ∧ a1 = b1))) := (c5O t2 cx cy a0 a1 b0 b1).1
theorem c5T (t2 : TypeId) (cx cy : Bool) (a0 : Int) (a1 : Int) (b0 : Int) (b1 : Int) : kU prog .neq 64 t2 cx cy (.agg #[.int .i64 a0, .int .i64 a1]) (.agg #[.int .i64 b0, .int .i64 b1]) = some (.bool (decide (¬ (a0 = b0 ∧ a1 = b1)))) := (c5O t2 cx cy a0 a1 b0 b1).2
theorem c1V (t2 : TypeId) (cx cy : Bool) (a0 : Int) (a1 : Int) (b0 : Int) (b1 : Int) : kU prog .eql 104 t2 cx cy (.agg #[.int .u64 a0, .int .u64 a1]) (.agg #[.int .u64 b0, .int .u64 b1]) = some (.bool (decide (a0 = b0 ∧ a1 = b1))) ∧ kU prog .neq 104 t2 cx cy (.agg #[.int .u64 a0, .int .u64 a1]) (.agg #[.int .u64 b0, .int .u64 b1]) = some (.bool (decide (¬ (a0 = b0 ∧ a1 = b1)))) := by
 have h := a0b (P := prog) (t := 104) (t2 := t2) (cx := cx) (cy := cy) (xs := [.int .u64 a0, .int .u64 a1]) (ys := [.int .u64 b0, .int .u64 b1]) (by kernel_rfl) (by kernel_rfl) (by kernel_rfl) (by kernel_rfl) rfl (by kernel_rfl) rfl rfl
 have e : ((List.range [Value.int .u64 a0, .int .u64 a1].length).all fun j => eqC ([Value.int .u64 a0, .int .u64 a1].getD j undef) ([Value.int .u64 b0, .int .u64 b1].getD j undef)) = decide (a0 = b0 ∧ a1 = b1) := by
  show (eqC (Value.int .u64 a0) (.int .u64 b0) && (eqC (Value.int .u64 a1) (.int .u64 b1) && true)) = _
  rw [eG]
  simp [eqC]
 rw [e] at h
 exact ⟨h.1, by rw [h.2]; simp⟩
theorem c2I (t2 : TypeId) (cx cy : Bool) (a0 : Int) (a1 : Int) (b0 : Int) (b1 : Int) : kU prog .eql 104 t2 cx cy (.agg #[.int .u64 a0, .int .u64 a1]) (.agg #[.int .u64 b0, .int .u64 b1]) = some (.bool (decide (a0 = b0 ∧ a1 = b1))) := (c1V t2 cx cy a0 a1 b0 b1).1
theorem c2X (t2 : TypeId) (cx cy : Bool) (a0 : Int) (a1 : Int) (b0 : Int) (b1 : Int) : kU prog .neq 104 t2 cx cy (.agg #[.int .u64 a0, .int .u64 a1]) (.agg #[.int .u64 b0, .int .u64 b1]) = some (.bool (decide (¬ (a0 = b0 ∧ a1 = b1)))) := (c1V t2 cx cy a0 a1 b0 b1).2
theorem c1N (t2 : TypeId) (cx cy : Bool) (a0 : Int) (a1 : Int) (b0 : Int) (b1 : Int) : kU prog .eql 153 t2 cx cy (.agg #[.int .i64 a0, .int .i64 a1]) (.agg #[.int .i64 b0, .int .i64 b1]) = some (.bool (decide (a0 = b0 ∧ a1 = b1))) ∧ kU prog .neq 153 t2 cx cy (.agg #[.int .i64 a0, .int .i64 a1]) (.agg #[.int .i64 b0, .int .i64 b1]) = some (.bool (decide (¬ (a0 = b0 ∧ a1 = b1)))) := by
 have h := a0b (P := prog) (t := 153) (t2 := t2) (cx := cx) (cy := cy) (xs := [.int .i64 a0, .int .i64 a1]) (ys := [.int .i64 b0, .int .i64 b1]) (by kernel_rfl) (by kernel_rfl) (by kernel_rfl) (by kernel_rfl) rfl (by kernel_rfl) rfl rfl
 have e : ((List.range [Value.int .i64 a0, .int .i64 a1].length).all fun j => eqC ([Value.int .i64 a0, .int .i64 a1].getD j undef) ([Value.int .i64 b0, .int .i64 b1].getD j undef)) = decide (a0 = b0 ∧ a1 = b1) := by
  show (eqC (Value.int .i64 a0) (.int .i64 b0) && (eqC (Value.int .i64 a1) (.int .i64 b1) && true)) = _
  rw [eG]
  simp [eqC]
 rw [e] at h
 exact ⟨h.1, by rw [h.2]; simp⟩
theorem c2K (t2 : TypeId) (cx cy : Bool) (a0 : Int) (a1 : Int) (b0 : Int) (b1 : Int) : kU prog .eql 153 t2 cx cy (.agg #[.int .i64 a0, .int .i64 a1]) (.agg #[.int .i64 b0, .int .i64 b1]) = some (.bool (decide (a0 = b0 ∧ a1 = b1))) := (c1N t2 cx cy a0 a1 b0 b1).1
theorem c2U (t2 : TypeId) (cx cy : Bool) (a0 : Int) (a1 : Int) (b0 : Int) (b1 : Int) : kU prog .neq 153 t2 cx cy (.agg #[.int .i64 a0, .int .i64 a1]) (.agg #[.int .i64 b0, .int .i64 b1]) = some (.bool (decide (¬ (a0 = b0 ∧ a1 = b1)))) := (c1N t2 cx cy a0 a1 b0 b1).2
theorem b0p {a1 : Int} {a2 : Int} {a3 : Int} : kK prog 29 [(0, .int .u16 a1), (1, .int .u16 a2), (2, .int .u16 a3)] = some (.agg #[.int .u16 a1, .int .u16 a2, .int .u16 a3]) := by kernel_rfl
theorem c3B {a1 : ByteArray} : kK prog 36 [(0, .string a1)] = some (.agg #[.string a1, .slice none 0 0, .slice none 0 0, .slice none 0 0]) := by kernel_rfl
theorem a6a {a1 : ByteArray} {a2 : Value} {a3 : Value} {a4 : Value} (h2 : a2.cells = #[a2] ∧ oneCell a2 = true ∧ pU a2 = true) (h3 : a3.cells = #[a3] ∧ oneCell a3 = true ∧ pU a3 = true) (h4 : a4.cells = #[a4] ∧ oneCell a4 = true ∧ pU a4 = true) : kK prog 36 [(0, .string a1), (1, a2), (2, a3), (3, a4)] = some (.agg #[.string a1, a2, a3, a4]) := by cases a2 <;> cases a3 <;> cases a4 <;> first | (exfalso; simp [oneCell] at h2; done) | (exfalso; simp [oneCell] at h3; done) | (exfalso; simp [oneCell] at h4; done) | kernel_rfl
theorem b5Q {a1 : Value} {a2 : Int} (h1 : a1.cells = #[a1] ∧ oneCell a1 = true ∧ pU a1 = true) : kK prog 41 [(0, a1), (1, .int .u64 a2)] = some (.agg #[a1, .int .u64 a2, .int .u64 0]) := by cases a1 <;> first | (exfalso; simp [oneCell] at h1; done) | kernel_rfl
theorem b5q {a1 : Int} {a2 : Int} : kK prog 41 [(1, .int .u64 a1), (2, .int .u64 a2)] = some (.agg #[.slice none 0 0, .int .u64 a1, .int .u64 a2]) := by kernel_rfl
theorem c1P : kK prog 55 [] = some (.agg #[.int .i64 0, .int .i64 0]) := by kernel_rfl
theorem a8o {a1 : Int} {a2 : Int} : kK prog 55 [(0, .int .i64 a1), (1, .int .i64 a2)] = some (.agg #[.int .i64 a1, .int .i64 a2]) := by kernel_rfl
theorem zL {a1 : Int} {a2 : Int} : kK prog 57 [(0, .int .i64 a1), (1, .int .i64 a2)] = some (.agg #[.int .i64 a1, .int .i64 a2]) := by kernel_rfl
theorem a5s {a1 : ByteArray} {a2 : ByteArray} {a3 : Int} {a4 : Int} {a5 : Int} : kK prog 59 [(0, .string a1), (1, .string a2), (2, .agg #[.int .i64 a3, .int .i64 a4]), (3, .int .i64 a5)] = some (.agg #[.string a1, .string a2, .int .i64 a3, .int .i64 a4, .int .i64 a5, .slice none 0 0]) := by kernel_rfl
theorem a2W {a1 : ByteArray} {a2 : ByteArray} {a3 : Int} {a4 : Int} {a5 : Int} {a6 : Value} (h6 : a6.cells = #[a6] ∧ oneCell a6 = true ∧ pU a6 = true) : kK prog 59 [(0, .string a1), (1, .string a2), (2, .agg #[.int .i64 a3, .int .i64 a4]), (3, .int .i64 a5), (4, a6)] = some (.agg #[.string a1, .string a2, .int .i64 a3, .int .i64 a4, .int .i64 a5, a6]) := by cases a6 <;> first | (exfalso; simp [oneCell] at h6; done) | kernel_rfl
theorem c1Y : kK prog 64 [] = some (.agg #[.int .i64 0, .int .i64 0]) := by kernel_rfl
theorem qA {a1 : Int} {a2 : Int} : kK prog 64 [(0, .int .i64 a1), (1, .int .i64 a2)] = some (.agg #[.int .i64 a1, .int .i64 a2]) := by kernel_rfl
theorem c3Q {a1 : Int} : kK prog 64 [(1, .int .i64 a1)] = some (.agg #[.int .i64 0, .int .i64 a1]) := by kernel_rfl
theorem a6F {a1 : Int} {a2 : Int} : kK prog 69 [(0, .int .i64 a1), (1, .int .i64 a2)] = some (.agg #[.int .i64 a1, .int .i64 a2]) := by kernel_rfl
theorem b0G {a1 : ByteArray} {a2 : Bool} {a3 : Int} {a4 : Int} : kK prog 72 [(0, .string a1), (1, .bool a2), (2, .agg #[.int .i64 a3, .int .i64 a4])] = some (.agg #[.string a1, .bool a2, .int .i64 a3, .int .i64 a4, .slice none 0 0]) := by kernel_rfl
theorem a2d {a1 : ByteArray} {a2 : Int} {a3 : Int} {a4 : Value} (h4 : a4.cells = #[a4] ∧ oneCell a4 = true ∧ pU a4 = true) : kK prog 72 [(0, .string a1), (2, .agg #[.int .i64 a2, .int .i64 a3]), (3, a4)] = some (.agg #[.string a1, .bool false, .int .i64 a2, .int .i64 a3, a4]) := by cases a4 <;> first | (exfalso; simp [oneCell] at h4; done) | kernel_rfl
theorem a9Q : kK prog 104 [] = some (.agg #[.int .u64 0, .int .u64 0]) := by kernel_rfl
theorem c0W {a1 : Int} : kK prog 104 [(0, .int .u64 a1)] = some (.agg #[.int .u64 a1, .int .u64 0]) := by kernel_rfl
theorem b2w {a1 : Int} {a2 : Int} : kK prog 104 [(0, .int .u64 a1), (1, .int .u64 a2)] = some (.agg #[.int .u64 a1, .int .u64 a2]) := by kernel_rfl
theorem b8Q {a1 : Int} : kK prog 104 [(1, .int .u64 a1)] = some (.agg #[.int .u64 0, .int .u64 a1]) := by kernel_rfl
theorem b3P {a1 : ByteArray} {a2 : Int} {a3 : Int} : kK prog 117 [(0, .string a1), (1, .agg #[.int .i64 a2, .int .i64 a3])] = some (.agg #[.string a1, .int .i64 a2, .int .i64 a3, .slice none 0 0]) := by kernel_rfl
theorem a6M {a1 : ByteArray} {a2 : Int} {a3 : Int} {a4 : Value} (h4 : a4.cells = #[a4] ∧ oneCell a4 = true ∧ pU a4 = true) : kK prog 117 [(0, .string a1), (1, .agg #[.int .i64 a2, .int .i64 a3]), (2, a4)] = some (.agg #[.string a1, .int .i64 a2, .int .i64 a3, a4]) := by cases a4 <;> first | (exfalso; simp [oneCell] at h4; done) | kernel_rfl
theorem a6U {a1 : ByteArray} {a2 : Int} {a3 : Int} : kK prog 124 [(0, .string a1), (1, .int .i64 a2), (2, .int .i64 a3)] = some (.agg #[.string a1, .int .i64 a2, .int .i64 a3, .int .i64 0, .bool false]) := by kernel_rfl
theorem a1y {a1 : ByteArray} {a2 : Int} {a3 : Int} {a4 : Int} {a5 : Bool} : kK prog 124 [(0, .string a1), (1, .int .i64 a2), (2, .int .i64 a3), (3, .int .i64 a4), (4, .bool a5)] = some (.agg #[.string a1, .int .i64 a2, .int .i64 a3, .int .i64 a4, .bool a5]) := by kernel_rfl
theorem qV {a1 : Int} {a2 : Int} : kK prog 153 [(0, .int .i64 a1), (1, .int .i64 a2)] = some (.agg #[.int .i64 a1, .int .i64 a2]) := by kernel_rfl
theorem c2H : kK prog 156 [] = some (.agg #[.int .i64 0, .int .i64 0, .slice none 0 0]) := by kernel_rfl
theorem lM {a1 : Int} {a2 : Int} {a3 : Value} (h3 : a3.cells = #[a3] ∧ oneCell a3 = true ∧ pU a3 = true) : kK prog 156 [(0, .int .i64 a1), (1, .int .i64 a2), (2, a3)] = some (.agg #[.int .i64 a1, .int .i64 a2, a3]) := by cases a3 <;> first | (exfalso; simp [oneCell] at h3; done) | kernel_rfl
theorem b2C {a1 : Value} {a2 : Int} {a3 : Int} (h1 : a1.cells = #[a1] ∧ oneCell a1 = true ∧ pU a1 = true) : kK prog 192 [(0, a1), (1, .agg #[.int .i64 a2, .int .i64 a3])] = some (.agg #[a1, .int .i64 a2, .int .i64 a3]) := by cases a1 <;> first | (exfalso; simp [oneCell] at h1; done) | kernel_rfl
theorem b3v {a1 : Int} {a2 : Int} : kK prog 215 [(0, .int .u64 a1), (1, .int .u64 a2)] = some (.agg #[.int .u64 a1, .int .u64 a2]) := by kernel_rfl
theorem tR4 (l : List Value) (H : Heap) : iC prog Tryz.f4 l H = some (get l 4) := rfl
theorem c7H (l : List Value) (H : Heap) : iC prog Tryz.f10 l H = some (get l 0) := rfl
theorem b0e (l : List Value) (H : Heap) : iC prog Tryz.f11 l H = some (get l 2) := rfl
theorem c7U (l : List Value) (H : Heap) : iC prog Tryz.f12 l H = pO (jR prog 36) (iE prog 36) H (get l 2) := by
 show (Option.bind (Option.bind (lQ prog H 36 (get l 2)) fun v => some [v]) fun vs => _) = _
 rw [lE]
 cases pO _ _ H (get l 2) <;> rfl
theorem c8c (l : List Value) (H : Heap) : iC prog Tryz.f13 l H = pO (jR prog 41) (iE prog 41) H (get l 4) := by
 show (Option.bind (Option.bind (lQ prog H 41 (get l 4)) fun v => some [v]) fun vs => _) = _
 rw [lE]
 cases pO _ _ H (get l 4) <;> rfl
theorem c7e (l : List Value) (H : Heap) : iC prog Tryz.f14 l H = some (get l 4) := rfl
theorem c5X (l : List Value) (H : Heap) : iC prog Tryz.f15 l H = if (jD (get l 6) && (jD (get l 7) && true)) = true then some (.tuple #[get l 6, get l 7]) else none := rfl
theorem c5N (l : List Value) (H : Heap) : iC prog Tryz.f16 l H = if (jD (get l 6) && (jD (get l 7) && true)) = true then some (.tuple #[get l 6, get l 7]) else none := rfl
theorem c7X (l : List Value) (H : Heap) : iC prog Tryz.f17 l H = some (get l 6) := rfl
theorem c7v (l : List Value) (H : Heap) : iC prog Tryz.f18 l H = some (get l 6) := rfl
theorem c3F (l : List Value) (H : Heap) : iC prog Tryz.f19 l H = some (get l 4) := rfl
theorem c5Z (l : List Value) (H : Heap) : iC prog Tryz.f21 l H = if (jD (get l 4) && (jD (get l 5) && true)) = true then some (.tuple #[get l 4, get l 5]) else none := rfl
theorem c7P (l : List Value) (H : Heap) : iC prog Tryz.f22 l H = some (get l 4) := rfl
theorem c7r (l : List Value) (H : Heap) : iC prog Tryz.f23 l H = some (get l 6) := rfl
theorem c8t (l : List Value) (H : Heap) : iC prog Tryz.f24 l H = some (get l 2) := rfl
theorem c6O (l : List Value) (H : Heap) : iC prog Tryz.f28 l H = if (jD (get l 6) && (jD (get l 7) && true)) = true then some (.tuple #[get l 6, get l 7]) else none := rfl
theorem c6j (l : List Value) (H : Heap) : iC prog Tryz.f29 l H = if (jD (get l 8) && (jD (get l 9) && true)) = true then some (.tuple #[get l 8, get l 9]) else none := rfl
theorem c0m (l : List Value) (H : Heap) : iC prog Tryz.f30 l H = some (get l 4) := rfl
theorem b2u (l : List Value) (H : Heap) : iC prog Tryz.f33 l H = some (get l 4) := rfl
theorem b9Y (l : List Value) (H : Heap) : iC prog Tryz.f34 l H = some (get l 4) := rfl
theorem a3H (l : List Value) (H : Heap) : iC prog Tryz.f36 l H = some (get l 2) := rfl
theorem c7i (l : List Value) (H : Heap) : iC prog Tryz.f37 l H = pO (jR prog 36) (iE prog 36) H (get l 0) := by
 show (Option.bind (Option.bind (lQ prog H 36 (get l 0)) fun v => some [v]) fun vs => _) = _
 rw [lE]
 cases pO _ _ H (get l 0) <;> rfl
theorem c8s (l : List Value) (H : Heap) : iC prog Tryz.f38 l H = some (get l 4) := rfl
theorem c8u (l : List Value) (H : Heap) : iC prog Tryz.f39 l H = (pO (jR prog 104) (iE prog 104) H (get l 2)).bind fun v => if (jD v && (jD (get l 3) && true)) = true then some (.tuple #[v, get l 3]) else none := by
 show (Option.bind (Option.bind (lQ prog H 104 (get l 2)) fun v => some [v, get l 3]) fun vs => _) = _
 rw [lE]
 cases pO _ _ H (get l 2) <;> rfl
theorem c7D (l : List Value) (H : Heap) : iC prog Tryz.f40 l H = pO (jR prog 59) (iE prog 59) H (get l 4) := by
 show (Option.bind (Option.bind (lQ prog H 59 (get l 4)) fun v => some [v]) fun vs => _) = _
 rw [lE]
 cases pO _ _ H (get l 4) <;> rfl
theorem b0i (l : List Value) (H : Heap) : iC prog Tryz.f41 l H = pO (jR prog 117) (iE prog 117) H (get l 8) := by
 show (Option.bind (Option.bind (lQ prog H 117 (get l 8)) fun v => some [v]) fun vs => _) = _
 rw [lE]
 cases pO _ _ H (get l 8) <;> rfl
theorem c4J (l : List Value) (H : Heap) : iC prog Tryz.f42 l H = if (jD (get l 6) && (jD (get l 7) && true)) = true then some (.tuple #[get l 6, get l 7]) else none := rfl
theorem c7J (l : List Value) (H : Heap) : iC prog Tryz.f43 l H = some (get l 4) := rfl
theorem c7M (l : List Value) (H : Heap) : iC prog Tryz.f44 l H = some (get l 6) := rfl
theorem c7T (l : List Value) (H : Heap) : iC prog Tryz.f45 l H = some (get l 6) := rfl
theorem c6Q (l : List Value) (H : Heap) : iC prog Tryz.f47 l H = some (get l 4) := rfl
theorem c2E (l : List Value) (H : Heap) : iC prog Tryz.f48 l H = some (get l 2) := rfl
theorem b7X (l : List Value) (H : Heap) : iC prog Tryz.f49 l H = some (get l 6) := rfl
theorem c7w (l : List Value) (H : Heap) : iC prog Tryz.f50 l H = (pO (jR prog 104) (iE prog 104) H (get l 2)).bind fun v => if (jD v && (jD (get l 3) && true)) = true then some (.tuple #[v, get l 3]) else none := by
 show (Option.bind (Option.bind (lQ prog H 104 (get l 2)) fun v => some [v, get l 3]) fun vs => _) = _
 rw [lE]
 cases pO _ _ H (get l 2) <;> rfl
theorem c7B (l : List Value) (H : Heap) : iC prog Tryz.f51 l H = some (get l 4) := rfl
theorem c5t (l : List Value) (H : Heap) : iC prog Tryz.f53 l H = if (jD (get l 6) && (jD (get l 7) && true)) = true then some (.tuple #[get l 6, get l 7]) else none := rfl
theorem c4b (l : List Value) (H : Heap) : iC prog Tryz.f54 l H = if (jD (get l 8) && (jD (get l 9) && true)) = true then some (.tuple #[get l 8, get l 9]) else none := rfl
theorem b8P (l : List Value) (H : Heap) : iC prog Tryz.f55 l H = some (get l 4) := rfl
theorem c6b (l : List Value) (H : Heap) : iC prog Tryz.f56 l H = some (get l 2) := rfl
theorem c8m (l : List Value) (H : Heap) : iC prog Tryz.f58 l H = some (get l 2) := rfl
theorem c7d (l : List Value) (H : Heap) : iC prog Tryz.f59 l H = some (get l 4) := rfl
theorem b2P (l : List Value) (H : Heap) : iC prog Tryz.f60 l H = some (get l 2) := rfl
theorem a9O (l : List Value) (H : Heap) : iC prog Tryz.f61 l H = some (get l 2) := rfl
theorem c5f (l : List Value) (H : Heap) : iC prog Tryz.f62 l H = some (get l 4) := rfl
theorem b5T (l : List Value) (H : Heap) : iC prog Tryz.f63 l H = some (get l 4) := rfl
theorem a0C (l : List Value) (H : Heap) : iC prog Tryz.f64 l H = some (get l 4) := rfl
theorem c7k (l : List Value) (H : Heap) : iC prog Tryz.f65 l H = some (get l 6) := rfl
theorem c7R (l : List Value) (H : Heap) : iC prog Tryz.f66 l H = pO (jR prog 59) (iE prog 59) H (get l 2) := by
 show (Option.bind (Option.bind (lQ prog H 59 (get l 2)) fun v => some [v]) fun vs => _) = _
 rw [lE]
 cases pO _ _ H (get l 2) <;> rfl
theorem c8k (l : List Value) (H : Heap) : iC prog Tryz.f67 l H = some (get l 2) := rfl
theorem c6q (l : List Value) (H : Heap) : iC prog Tryz.f68 l H = pO (jR prog 104) (iE prog 104) H (get l 4) := by
 show (Option.bind (Option.bind (lQ prog H 104 (get l 4)) fun v => some [v]) fun vs => _) = _
 rw [lE]
 cases pO _ _ H (get l 4) <;> rfl
theorem c7N (l : List Value) (H : Heap) : iC prog Tryz.f69 l H = pO (jR prog 57) (iE prog 57) H (get l 2) := by
 show (Option.bind (Option.bind (lQ prog H 57 (get l 2)) fun v => some [v]) fun vs => _) = _
 rw [lE]
 cases pO _ _ H (get l 2) <;> rfl
theorem c7S (l : List Value) (H : Heap) : iC prog Tryz.f70 l H = pO (jR prog 57) (iE prog 57) H (get l 2) := by
 show (Option.bind (Option.bind (lQ prog H 57 (get l 2)) fun v => some [v]) fun vs => _) = _
 rw [lE]
 cases pO _ _ H (get l 2) <;> rfl
theorem c7t (l : List Value) (H : Heap) : iC prog Tryz.f71 l H = if (jD (get l 4) && (jD (get l 5) && true)) = true then some (.tuple #[get l 4, get l 5]) else none := rfl
theorem c6y (l : List Value) (H : Heap) : iC prog Tryz.f72 l H = some (get l 6) := rfl
theorem c8n (l : List Value) (H : Heap) : iC prog Tryz.f73 l H = some (get l 6) := rfl
theorem c7q (l : List Value) (H : Heap) : iC prog Tryz.f74 l H = some (get l 2) := rfl
theorem c7L (l : List Value) (H : Heap) : iC prog Tryz.f75 l H = some (get l 4) := rfl
theorem c7y (l : List Value) (H : Heap) : iC prog Tryz.f76 l H = some (get l 6) := rfl
theorem c7l (l : List Value) (H : Heap) : iC prog Tryz.f77 l H = some (get l 4) := rfl
theorem c6t (l : List Value) (H : Heap) : iC prog Tryz.f79 l H = some (get l 4) := rfl
theorem b9t (l : List Value) (H : Heap) : iC prog Tryz.f82 l H = some (get l 2) := rfl
theorem c6h (l : List Value) (H : Heap) : iC prog Tryz.f83 l H = pO (jR prog 104) (iE prog 104) H (get l 2) := by
 show (Option.bind (Option.bind (lQ prog H 104 (get l 2)) fun v => some [v]) fun vs => _) = _
 rw [lE]
 cases pO _ _ H (get l 2) <;> rfl
theorem c6c (l : List Value) (H : Heap) : iC prog Tryz.f86 l H = some (get l 6) := rfl
theorem b7G (l : List Value) (H : Heap) : iC prog Tryz.f87 l H = some (get l 4) := rfl
theorem c7o (l : List Value) (H : Heap) : iC prog Tryz.f88 l H = some (get l 4) := rfl
theorem c5l (l : List Value) (H : Heap) : iC prog Tryz.f89 l H = some (get l 2) := rfl
theorem c7s (l : List Value) (H : Heap) : iC prog Tryz.f90 l H = some (get l 2) := rfl
theorem c8a (l : List Value) (H : Heap) : iC prog Tryz.f91 l H = some (get l 2) := rfl
theorem c8l (l : List Value) (H : Heap) : iC prog Tryz.f92 l H = pO (jR prog 104) (iE prog 104) H (get l 4) := by
 show (Option.bind (Option.bind (lQ prog H 104 (get l 4)) fun v => some [v]) fun vs => _) = _
 rw [lE]
 cases pO _ _ H (get l 4) <;> rfl
theorem b5O (l : List Value) (H : Heap) : iC prog Tryz.f93 l H = some (get l 2) := rfl
theorem b7E (l : List Value) (H : Heap) : iC prog Tryz.f94 l H = some (get l 2) := rfl
theorem c6D (l : List Value) (H : Heap) : iC prog Tryz.f95 l H = some (get l 2) := rfl
theorem c5Q (l : List Value) (H : Heap) : iC prog Tryz.f96 l H = some (get l 2) := rfl
theorem a1C (l : List Value) (H : Heap) : iC prog Tryz.f97 l H = some (get l 4) := rfl
theorem c8j (l : List Value) (H : Heap) : iC prog Tryz.f98 l H = some (get l 4) := rfl
theorem c7f (l : List Value) (H : Heap) : iC prog Tryz.f99 l H = some (get l 3) := rfl
theorem c1W (l : List Value) (H : Heap) : iC prog Tryz.f100 l H = some (get l 4) := rfl
theorem c6o (l : List Value) (H : Heap) : iC prog Tryz.f101 l H = some (get l 4) := rfl
theorem b5M (l : List Value) (H : Heap) : iC prog Tryz.f102 l H = some (get l 4) := rfl
theorem c5z (l : List Value) (H : Heap) : iC prog Tryz.f103 l H = some (get l 6) := rfl
theorem c5P (l : List Value) (H : Heap) : iC prog Tryz.f104 l H = some (get l 6) := rfl
theorem c4F (l : List Value) (H : Heap) : iC prog Tryz.f105 l H = some (.tuple #[]) := rfl
theorem c1S (l : List Value) (H : Heap) : iC prog Tryz.f106 l H = some (get l 4) := rfl
theorem c2a (l : List Value) (H : Heap) : iC prog Tryz.f118 l H = if (jD (get l 6) && (jD (get l 7) && true)) = true then some (.tuple #[get l 6, get l 7]) else none := rfl
theorem c4C (l : List Value) (H : Heap) : iC prog Tryz.f119 l H = some (get l 4) := rfl
theorem c5R (l : List Value) (H : Heap) : iC prog Tryz.f120 l H = some (get l 4) := rfl
theorem c5J (l : List Value) (H : Heap) : iC prog Tryz.f121 l H = some (.tuple #[]) := rfl
theorem c6x (l : List Value) (H : Heap) : iC prog Tryz.f122 l H = some (get l 2) := rfl
theorem a5e (l : List Value) (H : Heap) : iC prog Tryz.f123 l H = some (get l 2) := rfl
theorem c6l (l : List Value) (H : Heap) : iC prog Tryz.f124 l H = some (get l 4) := rfl
theorem c1M (l : List Value) (H : Heap) : iC prog Tryz.f125 l H = some (get l 2) := rfl
theorem b5x (l : List Value) (H : Heap) : iC prog Tryz.f126 l H = some (get l 2) := rfl
theorem a3o (l : List Value) (H : Heap) : iC prog Tryz.f127 l H = some (get l 4) := rfl
theorem c1q (l : List Value) (H : Heap) : iC prog Tryz.f128 l H = some (get l 4) := rfl
theorem c5k (l : List Value) (H : Heap) : iC prog Tryz.f133 l H = some (get l 6) := rfl
theorem c1G (l : List Value) (H : Heap) : iC prog Tryz.f134 l H = some (.tuple #[]) := rfl
theorem c5p (l : List Value) (H : Heap) : iC prog Tryz.f135 l H = some (get l 4) := rfl
theorem b5y (l : List Value) (H : Heap) : iC prog Tryz.f136 l H = some (get l 2) := rfl
theorem c1p (l : List Value) (H : Heap) : iC prog Tryz.f150 l H = some (get l 2) := rfl
theorem b7i (l : List Value) (H : Heap) : iC prog Tryz.f151 l H = some (get l 4) := rfl
theorem c4v (l : List Value) (H : Heap) : iC prog Tryz.f152 l H = some (get l 4) := rfl
theorem c1o (l : List Value) (H : Heap) : iC prog Tryz.f153 l H = some (get l 2) := rfl
theorem c1I (l : List Value) (H : Heap) : iC prog Tryz.f154 l H = some (get l 4) := rfl
theorem c6d (l : List Value) (H : Heap) : iC prog Tryz.f155 l H = some (get l 4) := rfl
theorem c1Z (l : List Value) (H : Heap) : iC prog Tryz.f165 l H = pO (jR prog 156) (iE prog 156) H (get l 4) := by
 show (Option.bind (Option.bind (lQ prog H 156 (get l 4)) fun v => some [v]) fun vs => _) = _
 rw [lE]
 cases pO _ _ H (get l 4) <;> rfl
theorem b2l (l : List Value) (H : Heap) : iC prog Tryz.f166 l H = (pO (jR prog 55) (iE prog 55) H (get l 6)).bind fun v => if (jD v && (jD (get l 7) && true)) = true then some (.tuple #[v, get l 7]) else none := by
 show (Option.bind (Option.bind (lQ prog H 55 (get l 6)) fun v => some [v, get l 7]) fun vs => _) = _
 rw [lE]
 cases pO _ _ H (get l 6) <;> rfl
theorem c4z (l : List Value) (H : Heap) : iC prog Tryz.f167 l H = some (get l 2) := rfl
theorem c6n (l : List Value) (H : Heap) : iC prog Tryz.f172 l H = some (get l 2) := rfl
theorem c1C (l : List Value) (H : Heap) : iC prog Tryz.f173 l H = some (get l 4) := rfl
theorem c1y (l : List Value) (H : Heap) : iC prog Tryz.f185 l H = some (get l 4) := rfl
theorem c1J (l : List Value) (H : Heap) : iC prog Tryz.f186 l H = some (get l 3) := rfl
theorem c4V (l : List Value) (H : Heap) : iC prog Tryz.f187 l H = some (get l 4) := rfl
theorem a7v : MapK prog 147 Value.string (.bool false) := MapK.str (kt := 9) (et := 4) (by kernel_rfl) (by kernel_rfl) (by kernel_rfl) rfl
theorem a6N : MapK prog 227 (fun p : Int × Int => .agg #[I p.1, I p.2]) (.bool false) := MapK.struct (kt := 64) (et := 4) (fs := (a0O prog 64).toArray) (by kernel_rfl) (by kernel_rfl) (by kernel_rfl) rfl (fun b k => by cases b <;> kernel_rfl) (fun a b => c4o (by kernel_rfl) (by kernel_rfl) (by kernel_rfl) (fun _ _ _ _ => by kernel_rfl) a b) (fun k => c3q k)
theorem tt0 : jR prog 3 = some false ∧ jR prog 4 = some false ∧ iE prog 4 = some 1 ∧ jR prog 5 = some false ∧ iE prog 5 = some 1 ∧ jR prog 9 = some false ∧ iE prog 9 = some 1 ∧ jR prog 22 = some false ∧ iE prog 22 = some 1 ∧ jR prog 23 = some false ∧ iE prog 23 = some 1 ∧ jR prog 24 = some false ∧ iE prog 24 = some 1 ∧ jR prog 26 = some true ∧ jR prog 27 = some true ∧ jR prog 28 = some false ∧ iE prog 28 = some 1 ∧ jR prog 29 = some true ∧ jR prog 32 = some false ∧ jR prog 33 = some false ∧ jR prog 34 = some false ∧ jR prog 36 = some true ∧ jR prog 38 = some false ∧ jR prog 39 = some false ∧ jR prog 41 = some true ∧ jR prog 44 = some false ∧ iE prog 44 = some 1 ∧ jR prog 49 = some false ∧ jR prog 55 = some true ∧ jR prog 57 = some true ∧ jR prog 59 = some true ∧ jR prog 64 = some true ∧ jR prog 69 = some true ∧ jR prog 70 = some false ∧ jR prog 72 = some true ∧ jR prog 90 = some false ∧ jR prog 104 = some true ∧ jR prog 107 = some false ∧ iE prog 107 = some 1 ∧ jR prog 109 = some true := by and_intros <;> kernel_rfl
theorem tt1 : jR prog 111 = some false ∧ iE prog 111 = some 1 ∧ jR prog 113 = some true ∧ jR prog 115 = some false ∧ jR prog 117 = some true ∧ jR prog 120 = some true ∧ jR prog 122 = some true ∧ jR prog 124 = some true ∧ jR prog 153 = some true ∧ jR prog 154 = some false ∧ iE prog 154 = some 1 ∧ jR prog 156 = some true ∧ jR prog 192 = some true ∧ jR prog 227 = some false ∧ iT prog 22 = some 9 ∧ iT prog 23 = some 4 ∧ iT prog 24 = some 4 ∧ iT prog 32 = some 6 ∧ iT prog 33 = some 5 ∧ iT prog 34 = some 5 ∧ iT prog 38 = some 1 ∧ iT prog 44 = some 2 ∧ iT prog 52 = some 2 ∧ iT prog 70 = some 4 ∧ iT prog 78 = some 1 ∧ iT prog 90 = some 2 ∧ iT prog 107 = some 4 ∧ iT prog 114 = some 1 ∧ iT prog 115 = some 3 ∧ iT prog 144 = some 1 ∧ iT prog 145 = some 2 ∧ iT prog 154 = some 2 ∧ iT prog 164 = some 3 ∧ iT prog 195 = some 2 ∧ lT prog 32 = true ∧ lT prog 33 = true ∧ lT prog 34 = true ∧ lT prog 38 = true ∧ lT prog 44 = true ∧ lT prog 49 = true := by and_intros <;> kernel_rfl
theorem tt2 : lT prog 52 = true ∧ lT prog 70 = true ∧ lT prog 90 = true ∧ lT prog 114 = true ∧ lT prog 115 = true ∧ lT prog 144 = true ∧ lT prog 145 = true ∧ lT prog 154 = true ∧ lT prog 164 = true ∧ lT prog 195 = true ∧ iT prog 9 = none ∧ oQ prog 9 = true ∧ iW prog 26 0 = some 0 ∧ iW prog 26 1 = some 1 ∧ iW prog 26 2 = some 2 ∧ iW prog 36 0 = some 0 ∧ iW prog 36 1 = some 1 ∧ iW prog 36 2 = some 2 ∧ iW prog 36 3 = some 3 ∧ iW prog 41 0 = some 0 ∧ iW prog 41 1 = some 1 ∧ iW prog 41 2 = some 2 ∧ iW prog 55 0 = some 0 ∧ iW prog 55 1 = some 1 ∧ iW prog 57 0 = some 0 ∧ iW prog 57 1 = some 1 ∧ iW prog 59 0 = some 0 ∧ iW prog 59 1 = some 1 ∧ iW prog 59 2 = some 2 ∧ iW prog 59 3 = some 4 ∧ iW prog 59 4 = some 5 ∧ iW prog 64 0 = some 0 ∧ iW prog 64 1 = some 1 ∧ iW prog 69 0 = some 0 ∧ iW prog 69 1 = some 1 ∧ iW prog 72 0 = some 0 ∧ iW prog 72 2 = some 2 ∧ iW prog 72 3 = some 4 ∧ iW prog 104 0 = some 0 ∧ iW prog 104 1 = some 1 := by and_intros <;> kernel_rfl
theorem tt3 : iW prog 109 0 = some 0 ∧ iW prog 109 1 = some 1 ∧ iW prog 109 2 = some 2 ∧ iW prog 109 3 = some 3 ∧ iW prog 113 0 = some 0 ∧ iW prog 113 1 = some 1 ∧ iW prog 113 2 = some 2 ∧ iW prog 113 3 = some 3 ∧ iW prog 113 4 = some 4 ∧ iW prog 117 0 = some 0 ∧ iW prog 117 1 = some 1 ∧ iW prog 117 2 = some 3 ∧ iW prog 120 0 = some 0 ∧ iW prog 120 1 = some 1 ∧ iW prog 120 2 = some 2 ∧ iW prog 120 3 = some 3 ∧ iW prog 122 0 = some 0 ∧ iW prog 122 1 = some 1 ∧ iW prog 122 2 = some 2 ∧ iW prog 122 3 = some 3 ∧ iW prog 124 0 = some 0 ∧ iW prog 124 1 = some 1 ∧ iW prog 124 2 = some 2 ∧ iW prog 124 3 = some 3 ∧ iW prog 124 4 = some 4 ∧ iW prog 153 0 = some 0 ∧ iW prog 153 1 = some 1 ∧ iW prog 156 0 = some 0 ∧ iW prog 156 1 = some 1 ∧ iW prog 156 2 = some 2 ∧ iW prog 192 0 = some 0 ∧ iW prog 192 1 = some 1 ∧ jA prog 36 = some (.agg #[.string ⟨#[]⟩, .slice none 0 0, .slice none 0 0, .slice none 0 0]) ∧ jT prog 36 = none ∧ jA prog 41 = some (.agg #[.slice none 0 0, .int .u64 0, .int .u64 0]) ∧ jT prog 41 = none ∧ jA prog 55 = some (.agg #[.int .i64 0, .int .i64 0]) ∧ jT prog 55 = none ∧ jA prog 57 = some (.agg #[.int .i64 0, .int .i64 0]) ∧ jT prog 57 = none := by and_intros <;> kernel_rfl
theorem tt4 : jA prog 59 = some (.agg #[.string ⟨#[]⟩, .string ⟨#[]⟩, .int .i64 0, .int .i64 0, .int .i64 0, .slice none 0 0]) ∧ jT prog 59 = none ∧ jA prog 64 = some (.agg #[.int .i64 0, .int .i64 0]) ∧ jT prog 64 = none ∧ jA prog 69 = some (.agg #[.int .i64 0, .int .i64 0]) ∧ jT prog 69 = none ∧ jA prog 72 = some (.agg #[.string ⟨#[]⟩, .bool false, .int .i64 0, .int .i64 0, .slice none 0 0]) ∧ jT prog 72 = none ∧ jA prog 90 = some (.slice none 0 0) ∧ jT prog 90 = none ∧ jA prog 104 = some (.agg #[.int .u64 0, .int .u64 0]) ∧ jT prog 104 = none ∧ jA prog 109 = some (.agg #[.int .u8 0, .int .u8 0, .bool false, .slice none 0 0]) ∧ jT prog 109 = none ∧ jA prog 117 = some (.agg #[.string ⟨#[]⟩, .int .i64 0, .int .i64 0, .slice none 0 0]) ∧ jT prog 117 = none ∧ jA prog 122 = some (.agg #[.int .u8 0, .int .u8 0, .int .i8 0, .bool false]) ∧ jT prog 122 = none ∧ jA prog 124 = some (.agg #[.string ⟨#[]⟩, .int .i64 0, .int .i64 0, .int .i64 0, .bool false]) ∧ jT prog 124 = none ∧ jA prog 153 = some (.agg #[.int .i64 0, .int .i64 0]) ∧ jT prog 153 = none ∧ jA prog 156 = some (.agg #[.int .i64 0, .int .i64 0, .slice none 0 0]) ∧ jT prog 156 = none ∧ jA prog 227 = some (.map none) ∧ jT prog 227 = none ∧ a1A prog 3 = some .i64 ∧ a1A prog 5 = some .u8 ∧ a1A prog 39 = some .u64 ∧ a1A prog 111 = some .i8 ∧ a1A prog 125 = some .u64 := by and_intros <;> kernel_rfl
def TS := (And.intro (And.intro (And.intro (And.intro (And.intro @tt0 (And.intro @tt1 @tt2)) (And.intro @tt3 (And.intro @tt4 @tS3))) (And.intro (And.intro @c1f (And.intro @c3M @c6N)) (And.intro @c5L (And.intro @c5m @c0c)))) (And.intro (And.intro (And.intro @lP (And.intro @c4B @c2s)) (And.intro @nQ (And.intro @b4A @qJ))) (And.intro (And.intro @a0s (And.intro @a1E @lA)) (And.intro @a1D (And.intro @c6P @uR))))) (And.intro (And.intro (And.intro (And.intro @a9J (And.intro @kX @b1W)) (And.intro @b5K (And.intro @wX @oH))) (And.intro (And.intro @b6U (And.intro @b1t @uH)) (And.intro @xB (And.intro @yV @b2k)))) (And.intro (And.intro (And.intro @b8p (And.intro @c3k @c7F)) (And.intro @c7j (And.intro @c6G @c5W))) (And.intro (And.intro @c6F (And.intro @c5Y @c5T)) (And.intro (And.intro @c2I @c2X) (And.intro @c2K @c2U))))))
def RZ := And.intro @RB (And.intro @RC @TS)
end Go.Ds
