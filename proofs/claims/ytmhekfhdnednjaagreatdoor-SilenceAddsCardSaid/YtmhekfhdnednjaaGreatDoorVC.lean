/-
  A part of the proof of SilenceAdds.
-/
import Derived.Test.YtmhekfhdnednjaaGreatDoorVA
import Derived.Test.YtmhekfhdnednjaaGreatDoorVB
import Derived.Test.YtmhekfhdnednjaaGreatDoorProg
import Derived.KernelRfl
import Derived.Lib.LaidTab
import Derived.Stop.LaidErr
import Derived.Laws.Strings
set_option linter.unusedVariables false
set_option linter.unusedSimpArgs false
set_option linter.defProp false
set_option linter.unusedSectionVars false
namespace Go.Ds
noncomputable section
inductive Pth where
 | z
 | l (p : Pth)
 | r (p : Pth)
inductive Fr where
 | e
 | n (v : Value) (l r : Fr)
def a5o : Nat → Nat → Pth := fun f => Nat.rec (motive := fun _ => Nat → Pth) (fun _ => .z) (fun _ ih k => Nat.rec (motive := fun _ => Pth) .z (fun k _ => Bool.rec (motive := fun _ => Pth) (.r (ih (Nat.div k 2))) (.l (ih (Nat.div k 2))) (Nat.beq (Nat.mod k 2) 0)) k) f
def kS (k : Nat) : Pth := a5o k k
def nX (p : Pth) : Fr → Value := Pth.rec (motive := fun _ => Fr → Value)
 (fun f => Fr.rec (motive := fun _ => Value) undef (fun v _ _ _ _ => v) f)
 (fun _ ih f => Fr.rec (motive := fun _ => Value) undef (fun _ l _ _ _ => ih l) f)
 (fun _ ih f => Fr.rec (motive := fun _ => Value) undef (fun _ _ r _ _ => ih r) f) p
def pV {α : Type} (v : Value) (p : Pth) : Fr → (Fr → α) → α := Pth.rec (motive := fun _ => Fr → (Fr → α) → α)
 (fun f K => Fr.rec (motive := fun _ => α) (K (.n v .e .e)) (fun _ l r _ _ => K (.n v l r)) f)
 (fun _ ih f K => Fr.rec (motive := fun _ => α) (ih .e fun l => K (.n undef l .e)) (fun w l r _ _ => ih l fun l => K (.n w l r)) f)
 (fun _ ih f K => Fr.rec (motive := fun _ => α) (ih .e fun r => K (.n undef .e r)) (fun w l r _ _ => ih r fun r => K (.n w l r)) f) p
def lP {α : Type} (p : Pth) : (Pth → α) → α := Pth.rec (motive := fun _ => (Pth → α) → α) (fun K => K .z) (fun _ ih K => ih fun p => K (.l p)) (fun _ ih K => ih fun p => K (.r p)) p
inductive LArg where
 | t (p : Pth)
 | c (v : Value)
def mO (f : Fr) (x : LArg) : Value := LArg.rec (motive := fun _ => Value) (fun p => nX p f) (fun v => v) x
inductive Rs where
 | no
 | ok (v : Value) (H : Heap)
 | th (v : Value) (H : Heap)
def oK {α : Type} (v : Value) (K : Value → α) : α :=
 match v with
 | .bool b => K (.bool b)
 | .int k n => K (.int k n)
 | .string s => K (.string s)
 | .pointer a => K (.pointer a)
 | .slice a n c => K (.slice a n c)
 | .map r => K (.map r)
 | .func fn a b => K (.func fn a b)
 | .agg cs => K (.agg cs)
 | .tuple vs => K (.tuple vs)
 | v => K v
inductive LOp where
 | bad
 | mv (x : LArg)
 | pick (c a b : LArg)
 | bin (g : IntKind → Int → Int → Option Value) (x y : LArg)
 | not (x : LArg)
 | ld1 (x : LArg)
 | ldn (n : Nat) (x : LArg)
 | st (n : Nat) (x y : LArg)
 | fa (off : Nat) (x : LArg)
 | ixs (size : Nat) (x i : LArg)
 | ixa (n size : Nat) (x i : LArg)
 | ext (i : Nat) (x : LArg)
 | f1 (off : Nat) (x : LArg)
 | fn (off n : Nat) (x : LArg)
 | len (x : LArg)
 | slen (x : LArg)
 | app (elem size bytes : Nat) (x y : LArg)
 | alloc (t : TypeId) (cs : List Value)
 | callF (f : FuncId) (p : Pth) (args : List LArg)
 | callV (g : LArg) (args : List LArg)
 | gen (o : Oper)
inductive LOps where
 | nil
 | cons (d : Option Pth) (o : LOp) (rest : LOps)
 | gcons (p : Pth) (w : Bool) (d : Option Pth) (o : LOp) (rest : LOps)
inductive LCode where
 | bad
 | skip
 | reg (ops : LOps)
 | drw (ops : LOps) (tab : List (Nat × Option Nat × Option (Pth × Bool) × LOp))
 | seq (a b : LCode)
 | cond (c : LArg) (x y : LCode)
 | block (id : Nat) (b : LCode)
 | loop (b : LCode)
 | exit (id : Nat)
 | ret
 | range (g : LArg) (ps : List Pth) (pp : List Pth) (params : Array Tmp) (assign body : Code) (a b : LCode)
inductive LRes where
 | t (p : Pth)
 | c1 (p : Pth)
 | cn (n : Nat) (p : Pth)
structure LFunc where
 ps : List Pth
 body : LCode
 res : List LRes
inductive LT where
 | e
 | n (g : Option LFunc) (l r : LT)
def a1w (p : Pth) : LT → Option LFunc := Pth.rec (motive := fun _ => LT → Option LFunc)
 (fun f => LT.rec (motive := fun _ => Option LFunc) none (fun v _ _ _ _ => v) f)
 (fun _ ih f => LT.rec (motive := fun _ => Option LFunc) none (fun _ l _ _ _ => ih l) f)
 (fun _ ih f => LT.rec (motive := fun _ => Option LFunc) none (fun _ _ r _ _ => ih r) f) p
def rW {α : Type} (v : LFunc) (p : Pth) : LT → (LT → α) → α := Pth.rec (motive := fun _ => LT → (LT → α) → α)
 (fun f K => LT.rec (motive := fun _ => α) (K (.n (some v) .e .e)) (fun _ l r _ _ => K (.n (some v) l r)) f)
 (fun _ ih f K => LT.rec (motive := fun _ => α) (ih .e fun l => K (.n none l .e)) (fun w l r _ _ => ih l fun l => K (.n w l r)) f)
 (fun _ ih f K => LT.rec (motive := fun _ => α) (ih .e fun r => K (.n none .e r)) (fun w l r _ _ => ih r fun r => K (.n w l r)) f) p
structure LEnv where
 L : Nat
 ps : List Pth
 pp : List Pth
 a : LCode
 b : LCode
def b8H (P : Program) (o : Oper) (ρ : Operand → Value) (H : Heap) : Option (Value × Heap) :=
 if o.op.operands.toList.all (fun x => flat (ρ x)) then
  match iN P (execOp ρ o) with
  | some (.value v) => if flat v then some (v, H) else none
  | _ => none
 else none
def c1H (P : Program) (o : Oper) (ρ : Operand → Value) (H : Heap) : Option (Value × Heap) :=
 let keep (v : Option Value) : Option (Value × Heap) := v.map fun v => (v, H)
 let plain : Option (Value × Heap) := b8H P o ρ H
 match o.op with
 | .move x | .assign x => some (ρ x, H)
 | .pick c a b => match ρ c with | .bool t => some (if t then ρ a else ρ b, H) | _ => none
 | .alloc t => (iX P t).bind fun z => if jC z then qY P H t z else none
 | .box t x => xE P H t (ρ x)
 | .build t parts =>
   let ps := parts.toList.map fun (i, x) => (i, ρ x)
   if (iX P t).any jC && ps.all (fun x => x.2.cells.toList.all oneCell) then
    (P.built t ps).map fun cs => (.agg cs, H)
   else none
 | .buildSlice t len parts =>
   (iI P t).bind fun elem => (iD P elem).bind fun size => (iX P elem).bind fun z =>
   let ps := parts.toList.map fun (i, x) => (i, ρ x)
   if len == 0 && ps.isEmpty && size != 0 then some (.slice (some ⟨H.length, 0, some 0⟩) 0 size, rM H elem []) else
   if jC z && ps.all (fun x => x.2.cells.toList.all oneCell) && len * size ≤ 2 ^ 24 && len * size != 0 && z.cells.size == size then
    (Instr.fill (fun i => some (i * size, size)) ((Array.range (len * size)).map (z.cells[· % z.cells.size]!)) ps).map fun cs =>
      (.slice (some ⟨H.length, 0, some cs.toList.length⟩) len size, rM H elem cs.toList)
   else none
 | .makeSlice t n c =>
   (iI P t).bind fun elem => (iD P elem).bind fun size => (nT P elem).bind fun bytes => (iX P elem).bind fun z =>
   match ρ n, ρ c with
   | .int .i64 a, .int .i64 b =>
     if jC z && decide (a ≤ b) && 0 ≤ a && b * (bytes + 1) ≤ (oT : Int) && size != 0 && z.cells.size == size then
      let cs := if size = 1 then List.replicate b.toNat (z.cells[0]!) else (madeCells z.cells (b.toNat * size)).toList
      some (.slice (some ⟨H.length, 0, some cs.length⟩) a.toNat size, rM H elem cs)
     else none
   | _, _ => none
 | .load t a => keep (lG P H t (ρ a))
 | .store t a x => (qN P H t (ρ a) (ρ x)).map fun H => (undef, H)
 | .nilCheck x => match ρ x with
   | .pointer (some a) => some (.pointer (some a), H)
   | .func (.func f) a b => some (.func (.func f) a b, H)
   | _ => none
 | .fieldAddr s x f => match ρ x with
   | .pointer (some ⟨A, i, some e⟩) => (oO P s f).bind fun fd => (iD P fd.type).bind fun n => if n == 0 then none else some (.pointer (some ⟨A, i + fd.offset, some e⟩), H)
   | _ => none
 | .indexAddr t x ix => match P.underlying t, ρ x, ρ ix with
   | some (.slice elem), .slice (some ⟨A, i, some e⟩) n _, .int _ j => (iD P elem).bind fun size =>
     if 0 ≤ j && j < n then some (.pointer (some ⟨A, i + j.toNat * size, some e⟩), H) else none
   | some (.array n elem), .pointer (some ⟨A, i, some e⟩), .int _ j => (iD P elem).bind fun size =>
     if 0 ≤ j && j < n then some (.pointer (some ⟨A, i + j.toNat * size, some e⟩), H) else none
   | some (.array n elem), .pointer (some ⟨A, i, none⟩), .int _ j => (iD P elem).bind fun size =>
     if 0 ≤ j && j < n then some (.pointer (some ⟨A, i + j.toNat * size, none⟩), H) else none
   | _, _, _ => none
 | .slice t x lo hi none => if flat (ρ x) then plain else match jI P t with
   | some (n, elem) => keep (a5B P H n elem (ρ x) (lo.map ρ) (hi.map ρ))
   | none => keep (wK P t (ρ x) (lo.map ρ) (hi.map ρ))
 | .field t x f => if flat (ρ x) then plain else
   match ρ x with
   | .agg cs => (oO P t f).bind fun fd => match jM P fd.type with
     | some true => (iD P fd.type).map fun n => (.agg (cs.extract fd.offset (fd.offset + n)), H)
     | some false => (cs[fd.offset]?).map fun v => (v, H)
     | none => none
   | _ => none
 | .extract t i => match ρ t with
   | .tuple vs => (vs[i]?).map fun v => (v, H)
   | _ => none
 | .makeFunc fn first captured => match fn with
   | .func f => if (first ++ captured).toList.all (fun x => nM (ρ x)) then some (.func (.func f) (first.map ρ) (captured.map ρ), H) else none
   | _ => none
 | .binOp op t x y _ => match op, ρ x, ρ y with
   | .eql, .slice (some _) _ _, .slice none 0 0 => if ((P.underlying t).map vK) == some true then some (.bool false, H) else none
   | .neq, .slice (some _) _ _, .slice none 0 0 => if ((P.underlying t).map vK) == some true then some (.bool true, H) else none
   | op, .int k a, .int k' b => if k = k' then (match mN op k a b with | some v => some (v, H) | none => plain) else plain
   | .eql, .pointer (some _), .pointer none => if tF P t then some (.bool false, H) else none
   | .neq, .pointer (some _), .pointer none => if tF P t then some (.bool true, H) else none
   | .eql, .pointer (some ⟨A, i, some e⟩), .pointer (some ⟨A', i', some e'⟩) => if tF P t && A == A' && i == i' && e == e' then some (.bool true, H) else none
   | .neq, .pointer (some ⟨A, i, some e⟩), .pointer (some ⟨A', i', some e'⟩) => if tF P t && A == A' && i == i' && e == e' then some (.bool false, H) else none
   | _, _, _ => plain
 | .call c => match c.callee with
   | .builtin .len => if c.args.size == 1 && c.argTypes.size == 1 then
      match (P.underlying (c.argTypes.getD 0 0)), ρ (c.args.getD 0 (.tmp 0)) with
      | some (.slice _), .slice a n k => keep (xH H (.slice a n k))
      | some .string, .string s => keep (xH H (.string s))
      | some (.map _ _), .map r => keep (xH H (.map r))
      | _, _ => none
     else none
   | .builtin .append => if c.args.size == 2 && c.argTypes.size == 2 && ((P.underlying (c.argTypes.getD 1 0)).map pW) == some true then
      nK P H (c.argTypes.getD 0 0) (ρ (c.args.getD 0 (.tmp 0))) (ρ (c.args.getD 1 (.tmp 0)))
     else none
   | .builtin .copy => if c.args.size == 2 && c.argTypes.size == 2 then a1U P H (c.argTypes.getD 0 0) (ρ (c.args.getD 0 (.tmp 0))) (ρ (c.args.getD 1 (.tmp 0))) else none
   | .builtin .clear => if c.args.size == 1 && c.argTypes.size == 1 then sJ P H (c.argTypes.getD 0 0) (ρ (c.args.getD 0 (.tmp 0))) else none
   | .builtin .cap => plain
   | .builtin .unsafeSliceData => if c.args.size == 1 && c.argTypes.size == 1 then match ρ (c.args.getD 0 (.tmp 0)) with
      | .slice (some a) n _ => if n == 0 then none else some (.pointer (some a), H)
      | _ => none
     else none
   | .builtin .unsafeString => if c.args.size == 2 && c.argTypes.size == 2 then uY P H (c.argTypes.getD 0 0) (ρ (c.args.getD 0 (.tmp 0))) (ρ (c.args.getD 1 (.tmp 0))) else none
   | .builtin .max => plain
   | .builtin .min => plain
   | _ => none
 | .unOp op _ x => match op, ρ x with
   | .not, .bool b => some (.bool (!b), H)
   | _, _ => plain
 | .makeMap t r => pN P H t (r.map ρ)
 | .lookup t x k c => keep (pJ P H t (ρ x) (ρ k) c)
 | .mapUpdate t m k v => (a0Y P H t (ρ m) (ρ k) (ρ v)).map fun H => (undef, H)
 | .mapEntry t m k => qT P H t (ρ m) (ρ k)
 | .entryStore _ m b v => (qO H (ρ m) (ρ b) (ρ v)).map fun H => (undef, H)
 | .convert s t x => if flat (ρ x) && !(lE P t) then plain else match ρ x with
   | .slice (some ⟨A, i, some e⟩) n _ => if lE P s && oQ P t then keep ((jF H A i e n).bind fun l => (nH l).map .string) else none
   | .string b => if lE P t && oQ P s && b.size ≤ 2 ^ 40 then (iI P t).bind fun elem => some (.slice (some ⟨H.length, 0, some b.size⟩) b.size 1, b5I H elem (b.data.toList.map fun c => .int .u8 c.toNat)) else none
   | .pointer (some ⟨A, 0, some e⟩) => if a3H P H s t A e then some (.pointer (some ⟨A, 0, some e⟩), H) else none
   | _ => none
 | .index _ _ _ => plain
 | .makeInterface _ _ => plain
 | _ => none
def nV {α : Type} (b : Bool) (no : α) (x : α) : α := Bool.rec (motive := fun _ => α) no x b
def a6S {α : Type} (cs : List α) : Nat → Bool := List.rec (motive := fun _ => Nat → Bool) (fun e => Nat.beq e 0) (fun _ _ ih e => Nat.rec (motive := fun _ => Bool) true (fun m _ => ih m) e) cs
def a4u {α : Type} (cs : List α) : Nat → Bool := List.rec (motive := fun _ => Nat → Bool) (fun e => Nat.beq e 0) (fun _ _ ih e => Nat.rec (motive := fun _ => Bool) false (fun m _ => ih m) e) cs
def a0W {α : Type} (cs : List α) : Nat → Option α := List.rec (motive := fun _ => Nat → Option α) (fun _ => none) (fun v _ ih e => Nat.rec (motive := fun _ => Option α) (some v) (fun m _ => ih m) e) cs
def a1S {α : Type} (cs : List α) : Nat → (List α → Rs) → Rs := List.rec (motive := fun _ => Nat → (List α → Rs) → Rs) (fun n K => Nat.rec (motive := fun _ => Rs) (K []) (fun _ _ => .no) n) (fun v _ ih n K => Nat.rec (motive := fun _ => Rs) (K []) (fun m _ => ih m fun l => K (v :: l)) n) cs
def b1h {α : Type} (cs : List α) : Nat → List α := List.rec (motive := fun _ => Nat → List α) (fun _ => []) (fun v t ih n => Nat.rec (motive := fun _ => List α) (v :: t) (fun m _ => ih m) n) cs
def kIx (k : IntKind) : Nat := IntKind.rec (motive := fun _ => Nat) 0 1 2 3 4 5 6 7 k
def hMv (x : LArg) (f : Fr) (H : Heap) : Rs := oK (mO f x) fun v => .ok v H
def b6M (c a b : LArg) (f : Fr) (H : Heap) : Rs := match mO f c with
 | .bool t => oK (mO f (Bool.rec (motive := fun _ => LArg) b a t)) fun v => .ok v H
 | _ => .no
def oV (v : Option Value) (H : Heap) : Rs := Option.rec (motive := fun _ => Rs) .no (fun v => .th v H) v
def c0d (g : IntKind → Int → Int → Option Value) (k : IntKind) (a : Int) (H : Heap) (y : Value) : Rs := match y with
 | .int k' b => nV (Nat.beq (kIx k) (kIx k')) .no (oV (g k a b) H)
 | _ => .no
def c0A (g : IntKind → Int → Int → Option Value) (x y : LArg) (f : Fr) (H : Heap) : Rs := match mO f x with
 | .int k a => c0d g k a H (mO f y)
 | _ => .no
def c5I (x : LArg) (f : Fr) (H : Heap) : Rs := match mO f x with
 | .bool b => .ok (.bool (Bool.rec (motive := fun _ => Bool) true false b)) H
 | _ => .no
def b7P (b : Option Blk) (i e : Nat) (H : Heap) : Rs := match b with
 | some (.cells cs _ _ lo _) => nV (Nat.ble lo e) .no (nV (a6S cs e) .no (nV (Nat.ble (Nat.succ i) e) .no (Option.rec (motive := fun _ => Rs) .no (fun v => oK v fun v => .ok v H) (a0W cs i))))
 | _ => .no
def c1C (b : Option Blk) (i : Nat) (H : Heap) : Rs := match b with
 | some (.cells cs _ false lo 1) => nV (a6S cs lo) .no (Option.rec (motive := fun _ => Rs) .no (fun v => oK v fun v => .ok v H) (a0W cs i))
 | _ => .no
def b3j (x : LArg) (f : Fr) (H : Heap) : Rs := match mO f x with
 | .pointer (some ⟨A, i, some e⟩) => b7P (iP H A) i e H
 | .pointer (some ⟨A, i, none⟩) => c1C (iP H A) i H
 | _ => .no
def b8P (b : Option Blk) (n i e : Nat) (H : Heap) : Rs := match b with
 | some (.cells cs _ _ lo _) => nV (Nat.ble lo e) .no (nV (a6S cs e) .no (nV (Nat.ble (Nat.add i n) e) .no (a1S (b1h cs i) n fun l => .ok (.agg ⟨l⟩) H)))
 | _ => .no
def b2u (n : Nat) (x : LArg) (f : Fr) (H : Heap) : Rs := match mO f x with
 | .pointer (some ⟨A, i, some e⟩) => b8P (iP H A) n i e H
 | _ => .no
def stB (b : Option Blk) (n A i e : Nat) (vs : List Value) (H : Heap) : Rs := match b with
 | some (.cells cs ty true lo ver) => nV (a4u vs n) .no (nV (vs.all oneCell) .no (nV (a4u cs e) .no (nV (Nat.ble (Nat.add i n) e) .no (nV (Nat.ble lo e) .no
    (.th undef (hset H A (.cells (iZ cs i vs) ty true e ver)))))))
 | _ => .no
def hSt (n : Nat) (x y : LArg) (f : Fr) (H : Heap) : Rs := match mO f x with
 | .pointer (some ⟨A, i, some e⟩) => stB (iP H A) n A i e (mO f y).cells.toList H
 | _ => .no
def hFa (off : Nat) (x : LArg) (f : Fr) (H : Heap) : Rs := match mO f x with
 | .pointer (some ⟨A, i, some e⟩) => kC (Nat.add i off) fun i => .ok (.pointer (some ⟨A, i, some e⟩)) H
 | _ => .no
def ixP (A i e size n : Nat) (H : Heap) (j : Value) : Rs := match j with
 | .int _ (.ofNat j) => nV (Nat.blt j n) .no (kC (Nat.add i (Nat.mul j size)) fun i => .ok (.pointer (some ⟨A, i, some e⟩)) H)
 | _ => .no
def c1k (size : Nat) (x i : LArg) (f : Fr) (H : Heap) : Rs := match mO f x with
 | .slice (some ⟨A, a, some e⟩) n _ => ixP A a e size n H (mO f i)
 | _ => .no
def ixG (A i size n : Nat) (H : Heap) (j : Value) : Rs := match j with
 | .int _ (.ofNat j) => nV (Nat.blt j n) .no (kC (Nat.add i (Nat.mul j size)) fun i => .ok (.pointer (some ⟨A, i, none⟩)) H)
 | _ => .no
def c0y (n size : Nat) (x i : LArg) (f : Fr) (H : Heap) : Rs := match mO f x with
 | .pointer (some ⟨A, a, some e⟩) => ixP A a e size n H (mO f i)
 | .pointer (some ⟨A, a, none⟩) => ixG A a size n H (mO f i)
 | _ => .no
def okV (v : Option Value) (H : Heap) : Rs := Option.rec (motive := fun _ => Rs) .no (fun v => oK v fun v => .ok v H) v
def c1q (i : Nat) (x : LArg) (f : Fr) (H : Heap) : Rs := match mO f x with
 | .tuple ⟨vs⟩ => okV (a0W vs i) H
 | _ => .no
def hF1 (off : Nat) (x : LArg) (f : Fr) (H : Heap) : Rs := match mO f x with
 | .agg ⟨cs⟩ => okV (a0W cs off) H
 | _ => .no
def hFn (off n : Nat) (x : LArg) (f : Fr) (H : Heap) : Rs := match mO f x with
 | .agg ⟨cs⟩ => a1S (b1h cs off) n fun l => .ok (.agg ⟨l⟩) H
 | _ => .no
def c2n (x : LArg) (f : Fr) (H : Heap) : Rs := match mO f x with
 | .slice _ n _ => .th (goInt n) H
 | _ => .no
def b5f (x : LArg) (f : Fr) (H : Heap) : Rs := match mO f x with
 | .string s => .th (goInt s.size) H
 | _ => .no
def c2K (b : Option Blk) (elem size bytes A i e k : Nat) (n : Nat) (l : List Value) (P : Program) (H : Heap) : Rs := match b with
 | some (.cells cs ty true lo ver) => nV (Bool.rec (motive := fun _ => Bool) (iD P ty == some size) true (Nat.beq ty elem)) .no (nV (a4u cs e) .no (nV (Nat.ble lo e) .no
    (nV (Nat.beq (Nat.add i (Nat.mul k size)) e)
      (nV (Nat.beq n 0) (nV (Nat.ble (Nat.add i (Nat.mul (Nat.add k n) size)) e) .no (.th (.slice (some ⟨A, i, some e⟩) (k + n) size) (hset H A (.cells (iZ cs (i + k * size) l) ty true e ver)))) .no)
      (nV (Nat.ble (Nat.mul (Nat.add k n) (Nat.succ bytes)) oT) .no (.th (.slice (some ⟨A, i, some (e + l.length)⟩) (k + n) size) (hset H A (.cells (a5u cs l) ty true lo (Bool.rec (motive := fun _ => Nat) 2 ver (Nat.beq ty elem)))))))))
 | _ => .no
def c3u (P : Program) (elem size bytes : Nat) (s : Value) (H : Heap) (n : Nat) (l : List Value) : Rs := match s with
 | .slice none k c => nV (Nat.beq k 0) .no (nV (Nat.beq c 0) .no (nV (Nat.ble (Nat.mul n (Nat.succ bytes)) oT) .no (nV (Nat.beq n 0) (.th (.slice (some ⟨H.length, 0, some l.length⟩) n size) (rM H elem l)) (.ok (.slice none 0 0) H))))
 | .slice (some ⟨A, i, some e⟩) k _ => c2K (iP H A) elem size bytes A i e k n l P H
 | _ => .no
def c1o (P : Program) (elem size bytes : Nat) (x y : LArg) (f : Fr) (H : Heap) : Rs := match a0o H size (mO f y) with
 | some (n, l) => c3u P elem size bytes (mO f x) H n l
 | none => .no
def c2p (t : TypeId) (cs : List Value) (_ : Fr) (H : Heap) : Rs := .th (.pointer (some ⟨H.length, 0, some cs.length⟩)) (rM H t cs)
def evF (f : Fr) : Operand → Value
 | .tmp t => nX (kS t) f
 | .const v => v
 | .global g => .pointer (some ⟨g, 0, none⟩)
 | .func k => .func (.func k) #[] #[]
def c5w (P : Program) (o : Oper) (f : Fr) (H : Heap) : Rs := match c1H P o (evF f) H with
 | some (v, H1) => .th v H1
 | none => .no
def a4z {α : Type} (f : Fr) (l : List LArg) : (List Value → α) → α := List.rec (motive := fun _ => (List Value → α) → α) (fun K => K []) (fun x _ ih K => oK (mO f x) fun v => ih fun l => K (v :: l)) l
structure Calls' where
 fn : Pth → FuncId → List Value → Heap → Rs
 rd : Nat → List Value → Heap → Rs
def c1l (C : Calls') (k : FuncId) (p : Pth) (args : List LArg) (f : Fr) (H : Heap) : Rs := a4z f args fun l => C.fn p k l H
def a9u (C : Calls') (l : List Value) (H : Heap) (g : Value) : Rs := match g with
 | .func (.func k) ⟨a⟩ ⟨b⟩ => kC k fun k => lP (kS k) fun p => C.fn p k (a5u a (a5u l b)) H
 | .func (.yield L) _ _ => C.rd L l H
 | _ => .no
def c0X (C : Calls') (g : LArg) (args : List LArg) (f : Fr) (H : Heap) : Rs := a4z f args fun l => a9u C l H (mO f g)
def c5F (_ : Fr) (_ : Heap) : Rs := .no
def opF (P : Program) (C : Calls') (o : LOp) : Fr → Heap → Rs :=
 LOp.rec (motive := fun _ => Fr → Heap → Rs) c5F hMv b6M c0A c5I b3j b2u hSt hFa c1k c0y c1q hF1 hFn c2n b5f (c1o P) c2p (c1l C) (c0X C) (c5w P) o
inductive Rf where
 | no
 | ok (f : Fr) (H : Heap)
def tP {α : Type} (d : Option Pth) (v : Value) (f : Fr) (K : Fr → α) : α := Option.rec (motive := fun _ => α) (K f) (fun p => pV v p f K) d
def b0q {α : Type} (no : α) (d : Option Pth) (f : Fr) (K : Fr → Heap → α) (r : Rs) : α :=
 Rs.rec (motive := fun _ => α) no (fun v H => tP d v f fun f => K f H) (fun v H => yY v fun v => nQ H fun H => tP d v f fun f => K f H) r
def isB (v : Value) (w : Bool) : Bool := match v with
 | .bool b => Bool.rec (motive := fun _ => Bool) (Bool.rec (motive := fun _ => Bool) true false w) w b
 | _ => false
def xK (P : Program) (C : Calls') (ops : LOps) : Fr → Heap → Rf := LOps.rec (motive := fun _ => Fr → Heap → Rf)
 (fun f H => .ok f H)
 (fun d o _ ih f H => b0q .no d f ih (opF P C o f H))
 (fun p w d o _ ih f H => nV (isB (nX p f) w) (tP d undef f fun f => ih f H) (b0q .no d f ih (opF P C o f H))) ops
inductive Rt where
 | no
 | ok (tr : List (Fr × Heap × Value)) (f : Fr) (H : Heap)
def b0D (tr : List (Fr × Heap × Value)) (f0 : Fr) (H0 : Heap) (d : Option Pth) (K : List (Fr × Heap × Value) → Fr → Heap → Rt) (r : Rs) : Rt :=
 Rs.rec (motive := fun _ => Rt) .no (fun v H => tP d v f0 fun f => K ((f0, H0, v) :: tr) f H) (fun v H => yY v fun v => nQ H fun H => tP d v f0 fun f => K ((f0, H0, v) :: tr) f H) r
def rJ (P : Program) (C : Calls') (ops : LOps) : List (Fr × Heap × Value) → Fr → Heap → Rt := LOps.rec (motive := fun _ => List (Fr × Heap × Value) → Fr → Heap → Rt)
 (fun tr f H => .ok tr f H)
 (fun d o _ ih tr f H => b0D tr f H d ih (opF P C o f H))
 (fun p w d o _ ih tr f H => nV (isB (nX p f) w) (tP d undef f fun f1 => ih ((f, H, undef) :: tr) f1 H) (b0D tr f H d ih (opF P C o f H))) ops
def b7Q (v : Value) (r : Rs) : Bool := Rs.rec (motive := fun _ => Bool) false (fun w _ => veq w v) (fun w _ => veq w v) r
def b3L (f : Fr) (g : Option (Pth × Bool)) : Bool := match g with
 | none => true
 | some (p, w) => isB (nX p f) w
def b3C (P : Program) (C : Calls') (tr : List (Fr × Heap × Value)) (H1 : Heap) (x : Nat × Option Nat × Option (Pth × Bool) × LOp) : Bool :=
 match a0W tr x.1 with
 | some (f, _, v) => nV (b3L f x.2.2.1) true (match x.2.1 with
   | none => b7Q v (opF P C x.2.2.2 f H1)
   | some m => match a0W tr m with
     | some (_, H, _) => b7Q v (opF P C x.2.2.2 f H)
     | none => false)
 | none => false
def b6A {α : Type} (p : α → Bool) (l : List α) : Bool := List.rec (motive := fun _ => Bool) true (fun x _ ih => nV (p x) false ih) l
inductive Rc where
 | no
 | ok (e : Ex) (f : Fr) (H : Heap)
def c3a (r : Rf) : Rc := Rf.rec (motive := fun _ => Rc) .no (fun f H => .ok .normal f H) r
def c0w (P : Program) (C : Calls') (tab : List (Nat × Option Nat × Option (Pth × Bool) × LOp)) (r : Rt) : Rc := Rt.rec (motive := fun _ => Rc) .no (fun tr f H => nV (b6A (b3C P C tr H) tab) .no (.ok .normal f H)) r
def pB {α : Type} (no : α) (l : List Value) : List Pth → Fr → (Fr → α) → α := List.rec (motive := fun _ => List Pth → Fr → (Fr → α) → α) (fun _ f K => K f)
 (fun v _ ih ps f K => List.rec (motive := fun _ => α) no (fun p ps _ => pV v p f fun f => ih ps f K) ps) l
def a3A (H : Heap) (f : Fr) (r : LRes) : Rs := LRes.rec (motive := fun _ => Rs) (fun p => oK (nX p f) fun v => .ok v H) (fun p => b3j (.t p) f H) (fun n p => b2u n (.t p) f H) r
def b6e (H : Heap) (f : Fr) (l : List LRes) : (List Value → Rs) → Rs := List.rec (motive := fun _ => (List Value → Rs) → Rs) (fun K => K []) (fun r _ ih K => Rs.rec (motive := fun _ => Rs) .no (fun v _ => ih fun l => K (v :: l)) (fun _ _ => .no) (a3A H f r)) l
def noT (v : Value) : Bool := match v with | .tuple _ => false | _ => true
def a7G (l : List LRes) (f : Fr) (H : Heap) : Rs := match l with
 | [r] => a3A H f r
 | l => b6e H f l fun vs => nV (b6A noT vs) .no (.ok (.tuple ⟨vs⟩) H)
def c2q (l : List LRes) (r : Rc) : Rs := match r with
 | .ok .normal f H => a7G l f H
 | .ok .ret f H => a7G l f H
 | _ => .no
abbrev qB := List LEnv → LCode → Fr → Heap → Rc
def c1O (P : Program) (k : FuncId) (args : List Value) (H : Heap) : Rs := match qE P k args H with
 | some (v, H1) => .th v H1
 | none => .no
def nZ (T : LT) (ih : qB) (E : List LEnv) (p : Pth) (args : List Value) (H : Heap) : Rs := match a1w p T with
 | some g => pB .no args g.ps .e fun f => c2q g.res (ih E g.body f H)
 | none => .no
def b4A (P : Program) (T : LT) (ih : qB) (E : List LEnv) (p : Pth) (k : FuncId) (args : List Value) (H : Heap) : Rs := match a1w p T with
 | some g => pB .no args g.ps .e fun f => c2q g.res (ih E g.body f H)
 | none => c1O P k args H
def b5Q (E : List LEnv) (L : Nat) : Option LEnv := List.rec (motive := fun _ => Option LEnv) none (fun e _ ih => nV (Nat.beq e.L L) ih (some e)) E
def c0b (e : Ex) : Option Code := match e with | .normal => none | .ret => some .ret | .exit id => some (.exit id)
def a2E (L : Nat) (e : Ex) (H : Heap) : Rs := match iP H L with
 | some (.loop ⟨_, _, fn, tmps, ps, a, b, d⟩) => match c0b e with
   | none => .th (.bool true) (hset H L (.loop ⟨.ready, none, fn, tmps, ps, a, b, d⟩))
   | some c => .th (.bool false) (hset H L (.loop ⟨.done, some c, fn, tmps, ps, a, b, d⟩))
 | _ => .no
def b2C (L : Nat) (r : Rc) : Rs := match r with
 | .ok e _ H => a2E L e H
 | .no => .no
def zR (ih : qB) (E : List LEnv) (en : LEnv) (f : Fr) (H : Heap) : Rs := match iP H en.L with
 | some (.loop ⟨.ready, p, fn, tmps, ps, a, b, d⟩) => nQ (hset H en.L (.loop ⟨.busy, p, fn, tmps, ps, a, b, d⟩)) fun H => b2C en.L (ih E en.b f H)
 | _ => .no
def sQ (ih : qB) (E : List LEnv) (en : LEnv) (r : Rc) : Rs := match r with
 | .ok .normal f H => zR ih E en f H
 | _ => .no
def a9n (ih : qB) (E : List LEnv) (L : Nat) (args : List Value) (H : Heap) : Rs := match b5Q E L with
 | some en => match iP H L with
   | some (.loop ⟨.ready, _, _, ⟨tmps⟩, ps, _, _, _⟩) => nV (a4u args ps.size) .no (pB .no tmps en.ps .e fun f => pB .no args en.pp f fun f => sQ ih E en (ih E en.a f H))
   | _ => .no
 | none => .no
def zM (P : Program) (T : LT) (ih : qB) (E : List LEnv) : Calls' := ⟨b4A P T ih E, a9n ih E⟩
def c5H (_ : Fr) (_ : Heap) : Rc := .no
def c3q (f : Fr) (H : Heap) : Rc := .ok .normal f H
def c5x (P : Program) (T : LT) (ih : qB) (E : List LEnv) (ops : LOps) (f : Fr) (H : Heap) : Rc := c3a (xK P (zM P T ih E) ops f H)
def c5L (P : Program) (T : LT) (ih : qB) (E : List LEnv) (ops : LOps) (tab : List (Nat × Option Nat × Option (Pth × Bool) × LOp)) (f : Fr) (H : Heap) : Rc := c0w P (zM P T ih E) tab (rJ P (zM P T ih E) ops [] f H)
def b9i (ih : qB) (E : List LEnv) (b : LCode) (r : Rc) : Rc := match r with
 | .ok .normal f H => ih E b f H
 | r => r
def c6l (ih : qB) (E : List LEnv) (a b : LCode) (_ _ : Fr → Heap → Rc) (f : Fr) (H : Heap) : Rc := b9i ih E b (ih E a f H)
def b5M (ih : qB) (E : List LEnv) (c : LArg) (x y : LCode) (_ _ : Fr → Heap → Rc) (f : Fr) (H : Heap) : Rc := match mO f c with
 | .bool t => ih E (Bool.rec (motive := fun _ => LCode) y x t) f H
 | _ => .no
def c3m (id : Nat) (r : Rc) : Rc := match r with
 | .ok (.exit i) f H => .ok (Bool.rec (motive := fun _ => Ex) (.exit i) .normal (Nat.beq i id)) f H
 | r => r
def c0E (ih : qB) (E : List LEnv) (id : Nat) (b : LCode) (_ : Fr → Heap → Rc) (f : Fr) (H : Heap) : Rc := c3m id (ih E b f H)
def c2L (ih : qB) (E : List LEnv) (b : LCode) (_ : Fr → Heap → Rc) (f : Fr) (H : Heap) : Rc := b9i ih E (.loop b) (ih E b f H)
def c3B (id : Nat) (f : Fr) (H : Heap) : Rc := .ok (.exit id) f H
def c5T (f : Fr) (H : Heap) : Rc := .ok .ret f H
def frL {α : Type} (f : Fr) (ps : List Pth) : (List Value → α) → α := List.rec (motive := fun _ => (List Value → α) → α) (fun K => K []) (fun p _ ih K => oK (nX p f) fun v => ih fun l => K (v :: l)) ps
def uB (L : Nat) (f : Fr) (H : Heap) : Rc := match iP H L with
 | some (.loop ⟨.ready, none, fn, tmps, ps, a, b, d⟩) => nQ (hset H L (.loop ⟨.exhausted, none, fn, tmps, ps, a, b, d⟩)) fun H => .ok .normal f H
 | some (.loop ⟨.done, none, fn, tmps, ps, a, b, d⟩) => nQ (hset H L (.loop ⟨.exhausted, none, fn, tmps, ps, a, b, d⟩)) fun H => .ok .normal f H
 | some (.loop ⟨.done, some .ret, fn, tmps, ps, a, b, d⟩) => nQ (hset H L (.loop ⟨.exhausted, some .ret, fn, tmps, ps, a, b, d⟩)) fun H => .ok .ret f H
 | some (.loop ⟨.done, some (.exit id), fn, tmps, ps, a, b, d⟩) => nQ (hset H L (.loop ⟨.exhausted, some (.exit id), fn, tmps, ps, a, b, d⟩)) fun H => .ok (.exit id) f H
 | _ => .no
def b2d (L : Nat) (f : Fr) (r : Rs) : Rc := match r with
 | .no => .no
 | .ok _ H => uB L f H
 | .th _ H => nQ H fun H => uB L f H
def b1i (T : LT) (ih : qB) (E : List LEnv) (f : Fr) (L : Nat) (k : FuncId) (args : List Value) (H : Heap) : Rc := lP (kS k) fun p => b2d L f (nZ T ih E p args H)
def a8M (T : LT) (ih : qB) (E : List LEnv) (g : LArg) (ps pp : List Pth) (params : Array Tmp) (assign body : Code) (a b : LCode) (_ _ : Fr → Heap → Rc) (f : Fr) (H : Heap) : Rc := match mO f g with
 | .func (.func k) ⟨x⟩ ⟨y⟩ => kC H.length fun L => frL f ps fun l => nQ (H.cons (.loop ⟨.ready, none, 0, ⟨l⟩, params, assign, body, 0⟩)) fun H1 =>
    kC k fun k => b1i T ih (⟨L, ps, pp, a, b⟩ :: E) f L k (a5u x (.func (.yield L) #[] #[] :: y)) H1
 | _ => .no
def b1k (P : Program) (T : LT) (ih : qB) (E : List LEnv) (c : LCode) : Fr → Heap → Rc :=
 LCode.rec (motive := fun _ => Fr → Heap → Rc) c5H c3q (c5x P T ih E) (c5L P T ih E) (c6l ih E) (b5M ih E) (c0E ih E) (c2L ih E) c3B c5T (a8M T ih E) c
def exF (P : Program) (T : LT) (n : Nat) : qB := Nat.rec (motive := fun _ => qB) (fun _ _ _ _ => .no) (fun _ ih => b1k P T ih) n
section
variable {α : Type}
def lR (x : Operand) (K : LArg → α) : α := match x with
 | .tmp t => lP (kS t) fun p => K (.t p)
 | .const v => K (.c v)
 | .global g => K (.c (.pointer (some ⟨g, 0, none⟩)))
 | .func k => K (.c (.func (.func k) #[] #[]))
def a5O (l : List Operand) : (List LArg → α) → α := List.rec (motive := fun _ => (List LArg → α) → α) (fun K => K []) (fun x _ ih K => lR x fun x => ih fun l => K (x :: l)) l
def a2Z (o : Option Nat) (d : α) (K : Nat → α) : α := match o with
 | some n => kC n K
 | none => d
def c6v (k : IntKind) (a b : Int) : Option Value := some (.int k (wF k (b8O a b)))
def c5S (k : IntKind) (a b : Int) : Option Value := some (.int k (wF k (b8o a b)))
def c3R (a b : Int) : Int := match a, b with
 | .ofNat a, .ofNat b => .ofNat (Nat.mul a b)
 | a, b => a * b
def c4g (k : IntKind) (a b : Int) : Option Value := some (.int k (wF k (c3R a b)))
def c4V (a b : Int) : Int := match a, b with
 | .ofNat a, .ofNat b => .ofNat (Nat.div a b)
 | a, b => a.tdiv b
def c4T (a b : Int) : Int := match a, b with
 | .ofNat a, .ofNat b => .ofNat (Nat.mod a b)
 | a, b => a.tmod b
def b7f (k : IntKind) (a b : Int) : Option Value := match eqI b 0 with | true => none | false => some (.int k (wF k (c4V a b)))
def b8Q (k : IntKind) (a b : Int) : Option Value := match eqI b 0 with | true => none | false => some (.int k (c4T a b))
def c5W (_ : IntKind) (a b : Int) : Option Value := some (.bool (eqI a b))
def c5t (_ : IntKind) (a b : Int) : Option Value := some (.bool (!eqI a b))
def c5U (_ : IntKind) (a b : Int) : Option Value := some (.bool (ltI a b))
def c5v (_ : IntKind) (a b : Int) : Option Value := some (.bool (!ltI b a))
def c6h (_ : IntKind) (a b : Int) : Option Value := some (.bool (ltI b a))
def c5r (_ : IntKind) (a b : Int) : Option Value := some (.bool (!ltI a b))
def b7m (op : BinOp) : Option (IntKind → Int → Int → Option Value) := match op with
 | .add => some c6v
 | .sub => some c5S
 | .mul => some c4g
 | .quo => some b7f
 | .rem => some b8Q
 | .eql => some c5W
 | .neq => some c5t
 | .lss => some c5U
 | .leq => some c5v
 | .gtr => some c6h
 | .geq => some c5r
 | _ => none
def c2j (d : Option TypeDesc) : Bool := match d with | some (.int _) => true | _ => false
def c6H (P : Program) (s : TypeId) (f : Nat) (d : α) (K1 : Nat → α) (Kn : Nat → Nat → α) : α := match oO P s f with
 | some fd => kC fd.offset fun off => match jM P fd.type with
   | some true => a2Z (iD P fd.type) d fun n => Kn off n
   | some false => K1 off
   | none => d
 | none => d
def b3D (P : Program) (o : Oper) (c : Call) (K : LOp → α) : α := match c.callee with
 | .value (.func k) => lP (kS k) fun p => a5O c.args.toList fun l => K (.callF k p l)
 | .value g => lR g fun g => a5O c.args.toList fun l => K (.callV g l)
 | .builtin .len => nV (c.args.size == 1 && c.argTypes.size == 1) (K (.gen o)) (match P.underlying (c.argTypes.getD 0 0) with
    | some (.slice _) => lR (c.args.getD 0 (.tmp 0)) fun x => K (.len x)
    | some .string => lR (c.args.getD 0 (.tmp 0)) fun x => K (.slen x)
    | _ => K (.gen o))
 | .builtin .append => nV (c.args.size == 2 && c.argTypes.size == 2 && ((P.underlying (c.argTypes.getD 1 0)).map pW) == some true) (K (.gen o))
    (match iI P (c.argTypes.getD 0 0) with
     | some elem => a2Z (iD P elem) (K (.gen o)) fun size => a2Z (nT P elem) (K (.gen o)) fun bytes => match iX P elem with
       | some z => nV (z.cells.size == size && size != 0) (K (.gen o)) (kC elem fun elem => lR (c.args.getD 0 (.tmp 0)) fun x => lR (c.args.getD 1 (.tmp 0)) fun y => K (.app elem size bytes x y))
       | none => K (.gen o)
     | none => K (.gen o))
 | _ => K (.gen o)
def c3Q (P : Program) (o : Oper) (K : LOp → α) : α := match o.op with
 | .move x => lR x fun x => K (.mv x)
 | .assign x => lR x fun x => K (.mv x)
 | .pick c a b => lR c fun c => lR a fun a => lR b fun b => K (.pick c a b)
 | .binOp op t x y _ => nV (c2j (P.underlying t)) (K (.gen o)) (match b7m op with
   | some g => lR x fun x => lR y fun y => K (.bin g x y)
   | none => K (.gen o))
 | .load t x => match jM P t with
   | some true => a2Z (iD P t) (K (.gen o)) fun n => lR x fun x => K (.ldn n x)
   | some false => lR x fun x => K (.ld1 x)
   | none => K (.gen o)
 | .store t x y => a2Z (iD P t) (K (.gen o)) fun n => lR x fun x => lR y fun y => K (.st n x y)
 | .fieldAddr s x f => match oO P s f with
   | some fd => match iD P fd.type with
     | some 0 => K (.gen o)
     | some _ => kC fd.offset fun off => lR x fun x => K (.fa off x)
     | none => K (.gen o)
   | none => K (.gen o)
 | .indexAddr t x i => match P.underlying t with
   | some (.slice elem) => a2Z (iD P elem) (K (.gen o)) fun size => lR x fun x => lR i fun i => K (.ixs size x i)
   | some (.array n elem) => a2Z (iD P elem) (K (.gen o)) fun size => lR x fun x => lR i fun i => K (.ixa n size x i)
   | _ => K (.gen o)
 | .extract t i => kC i fun i => lR t fun t => K (.ext i t)
 | .call c => b3D P o c K
 | _ => K (.gen o)
def xJ (P : Program) (o : Oper) (K : LOp → α) : α := nV (o.op.operands.toList.all iT) (K .bad) (c3Q P o K)
def a6i (k : Nat) (d : Option Tmp) (no : α) (K : Option Pth → α) : α := match d with
 | none => K none
 | some t => nV (Nat.blt t k) no (lP (kS t) fun p => K (some p))
def uD (P : Program) (k : Nat) (ops : Array Oper) (l : List Oper) : (LOps → α) → α → α := List.rec (motive := fun _ => (LOps → α) → α → α) (fun K _ => K .nil)
 (fun o _ ih K no => a6i k o.dst no fun d => xJ P o fun o' => match o.guard with
   | none => ih (fun r => K (.cons d o' r)) no
   | some (j, w) => match (ops[j]?).bind (·.dst) with
     | some t => nV (Nat.blt t k) no (lP (kS t) fun p => zS w fun w => ih (fun r => K (.gcons p w d o' r)) no)
     | none => no) l
def loG (k : Nat) (ops : Array Oper) (g : Option (Nat × Bool)) (no : α) (K : Option (Pth × Bool) → α) : α := match g with
 | none => K none
 | some (j, w) => match (ops[j]?).bind (·.dst) with
   | some t => nV (Nat.blt t k) no (lP (kS t) fun p => zS w fun w => K (some (p, w)))
   | none => no
def tD (P : Program) (k : Nat) (ops : Array Oper) (N : Nat) (tab : List (Nat × Nat)) : (List (Nat × Option Nat × Option (Pth × Bool) × LOp) → α) → α → α := List.rec (motive := fun _ => (List (Nat × Option Nat × Option (Pth × Bool) × LOp) → α) → α → α) (fun K _ => K [])
 (fun x _ ih K no => match ops[x.1]? with
   | some o => loG k ops o.guard no fun g => xJ P o fun o' => kC (N - 1 - x.1) fun i => nV (Nat.blt x.2 N) (ih (fun l => K ((i, none, g, o') :: l)) no) (kC (N - 1 - x.2) fun m => ih (fun l => K ((i, some m, g, o') :: l)) no)
   | none => no) tab
def b5O (k : Nat) : (List Pth → α) → α := Nat.rec (motive := fun _ => (List Pth → α) → α) (fun K => K []) (fun n ih K => lP (kS n) fun p => ih fun l => K (p :: l)) k
def c1c {β : Type} (l : List β) : List β → (List β → α) → α := List.rec (motive := fun _ => List β → (List β → α) → α) (fun a K => K a) (fun x _ ih a K => ih (x :: a) K) l
def b3v (k : Nat) (K : List Pth → α) : α := b5O k fun l => c1c l [] K
def wS (k : Nat) (l : List Tmp) : (List Pth → α) → α → α := List.rec (motive := fun _ => (List Pth → α) → α → α) (fun K _ => K []) (fun t _ ih K no => nV (Nat.blt t k) no (lP (kS t) fun p => ih (fun l => K (p :: l)) no)) l
def nA (P : Program) (k : Nat) (c : Code) : (LCode → α) → α := Code.rec (motive := fun _ => (LCode → α) → α)
 (fun K => K .skip)
 (fun _ ops d K => Bool.rec (motive := fun _ => α) (uD P k ops ops.toList (fun l => K (.reg l)) (K .bad))
   (match mX P ops with
     | some [] => uD P k ops ops.toList (fun l => K (.reg l)) (K .bad)
     | some tab => uD P k ops ops.toList (fun l => tD P k ops ops.size tab (fun t => K (.drw l t)) (K .bad)) (K .bad)
     | none => K .bad) d)
 (fun _ _ iha ihb K => iha fun a => ihb fun b => K (.seq a b))
 (fun c _ _ ihx ihy K => nV (iT c) (K .bad) (lR c fun c => ihx fun x => ihy fun y => K (.cond c x y)))
 (fun id _ ih K => kC id fun id => ih fun b => K (.block id b))
 (fun _ ih K => ih fun b => K (.loop b))
 (fun g ps assign body iha ihb K => nV (iT g) (K .bad) (lR g fun g' => b3v k fun pp => wS k ps.toList (fun q => iha fun a => ihb fun b => K (.range g' pp q ps assign body a b)) (K .bad)))
 (fun id K => kC id fun id => K (.exit id))
 (fun _ _ K => K .bad)
 (fun _ K => K .skip)
 (fun _ K => K .bad)
 (fun K => K .ret)
 (fun _ K => K .bad) c
def a0P (P : Program) (l : List ResultVar) : (List LRes → α) → α → α := List.rec (motive := fun _ => (List LRes → α) → α → α) (fun K _ => K [])
 (fun r _ ih K no => match r with
   | .tmp t => lP (kS t) fun p => ih (fun l => K (.t p :: l)) no
   | .cell a t => match jM P t with
     | some true => a2Z (iD P t) no fun n => lP (kS a) fun p => ih (fun l => K (.cn n p :: l)) no
     | some false => lP (kS a) fun p => ih (fun l => K (.c1 p :: l)) no
     | none => no) l
def a1D (P : Program) (f : FuncId) (no : α) (K : LFunc → α) : α := match P.funcs[f]? with
 | some fn => match fn.body with
   | some c => nV (fn.name == "runtime.NumGoroutine") (a0P P fn.results.toList (fun res => b3v fn.ntmps fun ps => nA P fn.ntmps c fun b => K ⟨ps, b, res⟩) no) no
   | none => no
 | none => no
def uS (P : Program) (fs : List FuncId) : LT → (LT → α) → α := List.rec (motive := fun _ => LT → (LT → α) → α) (fun T K => K T)
 (fun f _ ih T K => a1D P f (ih T K) fun g => lP (kS f) fun p => rW g p T fun T => ih T K) fs
end
end
end Go.Ds
namespace Go.Ds
section
variable {α : Type}
theorem vM (f k : Nat) : a5o (f + 1) (k + 1) = if k % 2 = 0 then .l (a5o f (k / 2)) else .r (a5o f (k / 2)) := by
 show Bool.rec (motive := fun _ => Pth) (.r (a5o f (k / 2))) (.l (a5o f (k / 2))) (Nat.beq (k % 2) 0) = _
 by_cases h : k % 2 = 0
 ·rw [if_pos h, h]; rfl
 ·rw [if_neg h]
  have : Nat.beq (k % 2) 0 = false := fX.2 fun e => h (dV e)
  rw [this]
theorem a4w (f : Nat) : a5o f 0 = .z := by cases f <;> rfl
theorem a1s : ∀ (f g a b : Nat), a ≤ f → b ≤ g → a5o f a = a5o g b → a = b
 | _, _, 0, 0, _, _, _ => rfl
 | 0, _, a + 1, _, h, _, _ => by omega
 | _, 0, _, b + 1, _, h, _ => by omega
 | f, g + 1, 0, b + 1, _, _, h => by
   rw [a4w, vM] at h
   split at h <;> cases h
 | f + 1, g, a + 1, 0, _, _, h => by
   rw [a4w, vM] at h
   split at h <;> cases h
 | f + 1, g + 1, a + 1, b + 1, ha, hb, h => by
   rw [vM, vM] at h
   by_cases h1 : a % 2 = 0
   ·rw [if_pos h1] at h
    by_cases h2 : b % 2 = 0
    ·rw [if_pos h2] at h
     injection h with h
     have := a1s f g (a / 2) (b / 2) (by omega) (by omega) h
     omega
    ·rw [if_neg h2] at h; cases h
   ·rw [if_neg h1] at h
    by_cases h2 : b % 2 = 0
    ·rw [if_pos h2] at h; cases h
    ·rw [if_neg h2] at h
     injection h with h
     have := a1s f g (a / 2) (b / 2) (by omega) (by omega) h
     omega
theorem b0A {a b : Nat} (h : kS a = kS b) : a = b := a1s _ _ _ _ (dm _) (dm _) h
theorem lN (p : Pth) (K : Pth → α) : lP p K = K p := by
 induction p generalizing K with
 | z => rfl
 | l p ih => exact ih _
 | r p ih => exact ih _
theorem mU (v : Value) (K : Value → α) : oK v K = K v := by cases v <;> rfl
theorem sV (v : Value) (p : Pth) (f : Fr) (K : Fr → α) : pV v p f K = K (pV v p f fun f => f) := by
 induction p generalizing f α with
 | z => cases f <;> rfl
 | l p ih =>
   cases f with
   | e =>
     show pV v p .e (fun l => K (.n undef l .e)) = K (pV v p .e fun l => .n undef l .e)
     rw [ih, ih (K := fun l => Fr.n undef l .e)]
   | n w l r =>
     show pV v p l (fun l => K (.n w l r)) = K (pV v p l fun l => .n w l r)
     rw [ih, ih (K := fun l => Fr.n w l r)]
 | r p ih =>
   cases f with
   | e =>
     show pV v p .e (fun l => K (.n undef .e l)) = K (pV v p .e fun l => .n undef .e l)
     rw [ih, ih (K := fun l => Fr.n undef .e l)]
   | n w l r =>
     show pV v p r (fun r => K (.n w l r)) = K (pV v p r fun r => .n w l r)
     rw [ih, ih (K := fun r => Fr.n w l r)]
theorem tT (p : Pth) : nX p .e = undef := by
 cases p <;> rfl
theorem b2t (v : Value) (p q : Pth) (f : Fr) : (q = p → nX q (pV v p f fun f => f) = v) ∧ (q ≠ p → nX q (pV v p f fun f => f) = nX q f) := by
 induction p generalizing f q with
 | z =>
   refine ⟨fun h => ?_, fun h => ?_⟩
   ·subst h; cases f <;> rfl
   ·cases q with
    | z => exact absurd rfl h
    | l q =>
      cases f with
      | e => show nX q .e = undef; exact tT q
      | n => rfl
    | r q =>
      cases f with
      | e => show nX q .e = undef; exact tT q
      | n => rfl
 | l p ih =>
   have h1 : ∀ f, pV v (.l p) f (fun f => f) = match f with | .e => .n undef (pV v p .e fun f => f) .e | .n w l r => .n w (pV v p l fun f => f) r := fun f => by
    cases f with
    | e => exact sV v p .e fun l => Fr.n undef l .e
    | n w l r => exact sV v p l fun l => Fr.n w l r
   rw [h1]
   cases q with
   | z => exact ⟨fun h => (nomatch h), fun _ => by cases f <;> rfl⟩
   | r q =>
     refine ⟨fun h => (nomatch h), fun _ => ?_⟩
     cases f with
     | e => show nX q .e = undef; exact tT q
     | n => rfl
   | l q =>
     refine ⟨fun h => ?_, fun h => ?_⟩
     ·injection h with h
      cases f with
      | e => exact (ih q .e).1 h
      | n w l r => exact (ih q l).1 h
     ·have h : q ≠ p := fun e => h (by rw [e])
      cases f with
      | e => show nX q (pV v p .e fun f => f) = undef; rw [(ih q .e).2 h, tT]
      | n w l r => exact (ih q l).2 h
 | r p ih =>
   have h1 : ∀ f, pV v (.r p) f (fun f => f) = match f with | .e => .n undef .e (pV v p .e fun f => f) | .n w l r => .n w l (pV v p r fun f => f) := fun f => by
    cases f with
    | e => exact sV v p .e fun l => Fr.n undef .e l
    | n w l r => exact sV v p r fun r => Fr.n w l r
   rw [h1]
   cases q with
   | z => exact ⟨fun h => (nomatch h), fun _ => by cases f <;> rfl⟩
   | l q =>
     refine ⟨fun h => (nomatch h), fun _ => ?_⟩
     cases f with
     | e => show nX q .e = undef; exact tT q
     | n => rfl
   | r q =>
     refine ⟨fun h => ?_, fun h => ?_⟩
     ·injection h with h
      cases f with
      | e => exact (ih q .e).1 h
      | n w l r => exact (ih q r).1 h
     ·have h : q ≠ p := fun e => h (by rw [e])
      cases f with
      | e => show nX q (pV v p .e fun f => f) = undef; rw [(ih q .e).2 h, tT]
      | n w l r => exact (ih q r).2 h
def FAg (f : Fr) (l : List Value) : Prop := ∀ t, nX (kS t) f = get l t
def FRel (k : Nat) (f : Fr) (l : List Value) : Prop := l.length = k ∧ FAg f l
noncomputable def b6d (f : Fr) (t : Tmp) (v : Value) : Fr := pV v (kS t) f fun f => f
theorem a3Y (f : Fr) (t u : Tmp) (v : Value) : nX (kS u) (b6d f t v) = if u = t then v else nX (kS u) f := by
 have h := b2t v (kS t) (kS u) f
 by_cases he : u = t
 ·rw [if_pos he]; exact h.1 (by rw [he])
 ·rw [if_neg he]; exact h.2 (fun e => he (b0A e))
theorem FRel.put {k : Nat} {f : Fr} {l : List Value} (h : FRel k f l) {t : Tmp} (ht : t < k) (v : Value) : FRel k (b6d f t v) (Go.Ds.put l (some t) v) := by
 refine ⟨by simp [Go.Ds.put, kN, h.1], fun u => ?_⟩
 rw [a3Y, b0S]
 by_cases he : u = t
 ·subst he; rw [if_pos rfl, if_pos ⟨rfl, by rw [h.1]; exact ht⟩]
 ·rw [if_neg he, if_neg (fun hh => he (cZ hh.1).symm)]; exact h.2 u
theorem FRel.set {k : Nat} {f : Fr} {l : List Value} (h : FRel k f l) {t : Tmp} (ht : t < k) (v : Value) : FRel k (b6d f t v) (l.set t v) := by
 have := h.put ht v
 simpa [Go.Ds.put, kN] using this
def Rs.Is (r : Rs) (v : Value) (H : Heap) : Prop := r = .ok v H ∨ r = .th v H
theorem Rs.ar {v : Value} {H : Heap} : ¬ Rs.no.Is v H := by rintro (h | h) <;> cases h
theorem Rs.aP {v w : Value} {H H1 : Heap} (h : (Rs.ok v H).Is w H1) : w = v ∧ H1 = H := by
 rcases h with h | h
 ·injection h with a b; exact ⟨a.symm, b.symm⟩
 ·cases h
theorem Rs.aS {v w : Value} {H H1 : Heap} (h : (Rs.th v H).Is w H1) : w = v ∧ H1 = H := by
 rcases h with h | h
 ·cases h
 ·injection h with a b; exact ⟨a.symm, b.symm⟩
theorem kO (b : Bool) (no x : α) : nV b no x = if b = true then x else no := by cases b <;> rfl
theorem lF {b : Bool} {x : Rs} {v : Value} {H : Heap} (h : (nV b Rs.no x).Is v H) : b = true ∧ x.Is v H := by
 cases b with
 | false => exact absurd h Rs.ar
 | true => exact ⟨rfl, h⟩
theorem xV {β : Type} : ∀ (cs : List β) (e : Nat), a6S cs e = decide (e ≤ cs.length)
 | [], 0 => rfl
 | [], e + 1 => by simp; rfl
 | _ :: _, 0 => rfl
 | _ :: cs, e + 1 => by show a6S cs e = _; rw [xV cs e]; simp
theorem yJ {β : Type} : ∀ (cs : List β) (e : Nat), a4u cs e = decide (e = cs.length)
 | [], 0 => rfl
 | [], e + 1 => by simp; rfl
 | _ :: _, 0 => by simp; rfl
 | _ :: cs, e + 1 => by show a4u cs e = _; rw [yJ cs e]; simp
theorem zC {β : Type} : ∀ (cs : List β) (e : Nat), a0W cs e = cs[e]?
 | [], _ => rfl
 | _ :: _, 0 => rfl
 | _ :: cs, e + 1 => by show a0W cs e = _; rw [zC cs e]; simp
theorem a7V {β : Type} : ∀ (cs : List β) (e : Nat), b1h cs e = cs.drop e
 | [], e => by cases e <;> rfl
 | _ :: _, 0 => rfl
 | _ :: cs, e + 1 => by show b1h cs e = _; rw [a7V cs e]; rfl
theorem a5V {β : Type} : ∀ {cs : List β} {n : Nat} {K : List β → Rs} {v : Value} {H : Heap}, (a1S cs n K).Is v H → n ≤ cs.length ∧ (K (cs.take n)).Is v H
 | [], 0, K, v, H, h => ⟨dm _, h⟩
 | [], n + 1, K, v, H, h => absurd h Rs.ar
 | _ :: _, 0, K, v, H, h => ⟨eU _, h⟩
 | c :: cs, n + 1, K, v, H, h => by
   have h' : (a1S cs n fun l => K (c :: l)).Is v H := h
   obtain ⟨h1, h2⟩ := a5V h'
   exact ⟨by simp; omega, h2⟩
theorem b7a {a b : IntKind} (h : Nat.beq (kIx a) (kIx b) = true) : a = b := by
 cases a <;> cases b <;> first | rfl | (exact absurd h (by decide))
theorem b5N (k : Nat) (K : List Pth → α) : b5O k K = K ((List.range k).map kS).reverse := by
 induction k generalizing K with
 | zero => rfl
 | succ n ih =>
   show lP (kS n) (fun p => b5O n fun l => K (p :: l)) = _
   rw [lN, ih, ez]
   simp
theorem b9A {β : Type} (l : List β) : ∀ (a : List β) (K : List β → α), c1c l a K = K (l.reverse ++ a) := by
 induction l with
 | nil => intro a K; rfl
 | cons x l ih => intro a K; show c1c l (x :: a) K = _; rw [ih]; simp
theorem b0T (k : Nat) (K : List Pth → α) : b3v k K = K ((List.range k).map kS) := by
 unfold b3v; rw [b5N, b9A]; simp
theorem oY (n : Nat) (d : α) (K : Nat → α) : a2Z (some n) d K = K n := jW n K
def LK (H H' : Heap) : Prop := H.length ≤ H'.length ∧ ∀ A r', A < H.length → iP H' A = some (.loop r') →
 ∃ r, iP H A = some (.loop r) ∧ r'.assign = r.assign ∧ r'.body = r.body ∧ r'.params = r.params ∧ r'.tmps = r.tmps
theorem LK.refl (H : Heap) : LK H H := ⟨dm _, fun _ r _ h => ⟨r, h, rfl, rfl, rfl, rfl⟩⟩
theorem LK.trans {H H1 H2 : Heap} (h : LK H H1) (k : LK H1 H2) : LK H H2 := ⟨dI h.1 k.1, fun A r' hA hr => by
 obtain ⟨r1, h1, a1, b1, c1, d1⟩ := k.2 A r' (dO hA h.1) hr
 obtain ⟨r, h2, a2, b2, c2, d2⟩ := h.2 A r1 hA h1
 exact ⟨r, h2, a1.trans a2, b1.trans b2, c1.trans c2, d1.trans d2⟩⟩
def Blk.cg : Blk → Bool
 | .loop _ => true
 | _ => false
theorem LK.hset (H : Heap) (A : Nat) {b : Blk} (hb : b.cg = false) : LK H (hset H A b) := by
 refine ⟨by rw [jA]; exact dm _, fun B r' hB h => ?_⟩
 by_cases he : A = B
 ·subst he; rw [iR _ hB] at h; injection h with h; subst h; cases hb
 ·rw [iM _ he] at h; exact ⟨r', h, rfl, rfl, rfl, rfl⟩
theorem LK.cons (H : Heap) (b : Blk) : LK H (H.cons b) := by
 refine ⟨by rw [length_cons]; omega, fun B r' hB h => ?_⟩
 rw [jP b hB] at h; exact ⟨r', h, rfl, rfl, rfl, rfl⟩
theorem LK.row (H : Heap) (ty : TypeId) (cs : List Value) : LK H (rM H ty cs) := by rw [lJ]; exact .cons _ _
theorem LK.loop {H : Heap} {L : Nat} {r r' : Loop} (h : iP H L = some (.loop r)) (e : r'.assign = r.assign ∧ r'.body = r.body ∧ r'.params = r.params ∧ r'.tmps = r.tmps) : LK H (Go.Ds.hset H L (.loop r')) := by
 refine ⟨by rw [jA]; exact dm _, fun B r2 hB hg => ?_⟩
 by_cases he : L = B
 ·subst he; rw [iR _ hB] at hg; injection hg with hg; injection hg with hg; subst hg; exact ⟨r, h, e⟩
 ·rw [iM _ he] at hg; exact ⟨r2, hg, rfl, rfl, rfl, rfl⟩
variable {P : Program}
theorem a7Y {H H' : Heap} {t : TypeId} {p v : Value} (h : qN P H t p v = some H') : LK H H' := by
 unfold qN at h
 split at h
 ·split at h
  ·dsimp only at h
   split at h
   ·injection h with h; subst h; exact .hset _ _ rfl
   ·cases h
  ·cases h
 ·cases h
theorem a4f {H H' : Heap} {t : TypeId} {v r : Value} (h : xE P H t v = some (r, H')) : LK H H' := by
 unfold xE at h
 dsimp only at h
 split at h
 ·injection h with h; injection h with _ h; subst h; exact .row _ _ _
 ·cases h
theorem a5i {H H' : Heap} {t : TypeId} {s x r : Value} (h : nK P H t s x = some (r, H')) : LK H H' := by
 unfold nK at h
 simp only [db] at h
 obtain ⟨elem, _, size, _, bytes, _, z, _, ⟨n, l⟩, _, h⟩ := h
 try dsimp only at h
 split at h
 ·split at h
  ·split at h
   ·injection h with h; injection h with _ h; subst h; exact .refl _
   ·injection h with h; injection h with _ h; subst h; exact .row _ _ _
  ·cases h
 ·split at h
  ·split at h
   ·injection h with h; injection h with _ h; subst h; exact .hset _ _ rfl
   ·split at h
    ·injection h with h; injection h with _ h; subst h; exact .hset _ _ rfl
    ·cases h
  ·cases h
 ·cases h
theorem a7T {H H' : Heap} {t : TypeId} {v r : Value} (h : qY P H t v = some (r, H')) : LK H H' := by
 unfold qY at h
 split at h
 ·dsimp only at h
  rename_i n elem _
  have key : ∀ (b : Bool), (if b = true then some (Value.pointer (some ⟨H.length, 0, some v.cells.toList.length⟩), b5p H elem v.cells.toList) else none) = some (r, H') → LK H H' := by
   intro b h
   cases b
   ·cases h
   ·injection h with h; injection h with _ h; subst h; rw [a1g]; exact .cons _ _
  exact key _ h
 ·exact a4f h
theorem a4K {H H' : Heap} {t : TypeId} {x y r : Value} (h : uY P H t x y = some (r, H')) : LK H H' := by
 unfold uY at h
 split at h
 ·split at h
  ·split at h
   ·simp only [dp] at h
    obtain ⟨_, _, h⟩ := h
    injection h with _ h; subst h; exact .hset _ _ rfl
   ·cases h
  ·cases h
 ·cases h
theorem a5g {H H' : Heap} {k : FuncId} {args : List Value} {r : Value} (h : qE P k args H = some (r, H')) : LK H H' := by
 unfold qE at h
 simp only [db] at h
 obtain ⟨fn, _, h⟩ := h
 split at h
 case isFalse => cases h
 split at h
 ·split at h
  ·injection h with h; injection h with _ h; subst h; exact .refl _
  ·cases h
 split at h
 ·split at h
  ·split at h
   ·simp only [db] at h
    obtain ⟨_, _, h⟩ := h
    split at h
    ·injection h with h; injection h with _ h; subst h; exact .row _ _ _
    ·cases h
   ·cases h
  ·cases h
 split at h
 ·split at h
  ·split at h
   ·split at h
    ·injection h with h; injection h with _ h; subst h; exact .refl _
    ·cases h
   ·cases h
  ·cases h
 ·cases h
theorem a8B {H H' : Heap} {t : TypeId} {s x r : Value} (h : a1U P H t s x = some (r, H')) : LK H H' := by
 unfold a1U at h
 simp only [db] at h
 obtain ⟨elem, _, size, _, m, _, h⟩ := h
 try dsimp only at h
 split at h
 ·split at h
  ·injection h with h; injection h with _ h; subst h; exact .refl _
  ·cases h
 ·split at h
  ·injection h with h; injection h with _ h; subst h; exact .refl _
  ·simp only [db] at h
   obtain ⟨l, _, h⟩ := h
   split at h
   ·split at h
    ·injection h with h; injection h with _ h; subst h; exact .hset _ _ rfl
    ·cases h
   ·cases h
 ·cases h
theorem a6K {H H' : Heap} {t : TypeId} {x r : Value} (h : sJ P H t x = some (r, H')) : LK H H' := by
 unfold sJ at h
 simp only [db] at h
 obtain ⟨elem, _, z, _, h⟩ := h
 split at h
 ·injection h with h; injection h with _ h; subst h; exact .refl _
 ·split at h
  ·injection h with h; injection h with _ h; subst h; exact .refl _
  ·try dsimp only at h
   split at h
   ·split at h
    ·injection h with h; injection h with _ h; subst h; exact .hset _ _ rfl
    ·cases h
   ·cases h
 ·cases h
theorem b1V {H H' : Heap} {t : TypeId} {m k v : Value} (h : a0Y P H t m k v = some H') : LK H H' := by
 unfold a0Y at h
 simp only [db] at h
 obtain ⟨⟨kt, et⟩, _, h⟩ := h
 dsimp only at h
 split at h
 ·split at h
  ·split at h
   ·simp only [db] at h
    obtain ⟨r, _, h⟩ := h
    split at h
    ·simp only [db] at h
     obtain ⟨e, _, h⟩ := h
     split at h
     ·injection h with h; subst h; exact .hset _ _ rfl
     ·cases h
    ·injection h with h; subst h; exact .hset _ _ rfl
   ·cases h
  ·cases h
 ·cases h
theorem a7q {H H' : Heap} {t : TypeId} {m k r : Value} (h : qT P H t m k = some (r, H')) : LK H H' := by
 unfold qT at h
 simp only [db] at h
 obtain ⟨⟨kt, et⟩, _, h⟩ := h
 dsimp only at h
 split at h
 ·split at h
  ·split at h
   ·simp only [db] at h
    obtain ⟨r, _, h⟩ := h
    split at h
    ·simp only [db] at h
     obtain ⟨e, _, h⟩ := h
     split at h
     ·injection h with h; injection h with _ h; subst h; exact .hset _ _ rfl
     ·cases h
    ·simp only [db] at h
     obtain ⟨z, _, h⟩ := h
     split at h
     ·injection h with h; injection h with _ h; subst h; exact .hset _ _ rfl
     ·cases h
   ·cases h
  ·cases h
 ·cases h
theorem a8b {H H' : Heap} {m b v : Value} (h : qO H m b v = some H') : LK H H' := by
 unfold qO at h
 split at h
 ·split at h
  ·split at h
   ·simp only [db] at h
    obtain ⟨e, _, h⟩ := h
    injection h with h; subst h; exact .hset _ _ rfl
   ·cases h
  ·cases h
 ·cases h
theorem a3i {H H' : Heap} {t : TypeId} {o : Option Value} {r : Value} (h : pN P H t o = some (r, H')) : LK H H' := by
 unfold pN at h
 simp only [db] at h
 obtain ⟨_, _, h⟩ := h
 split at h
 ·injection h with h; injection h with _ h; subst h; exact .cons _ _
 ·injection h with h; injection h with _ h; subst h; exact .cons _ _
 ·cases h
theorem a6q {H H' : Heap} {o : Oper} {l : List Value} {r : Value} (h : kQ P o l H = some (r, H')) : H' = H := by
 unfold kQ at h
 split at h
 ·split at h
  ·split at h
   ·injection h with h; injection h with _ h; exact h.symm
   ·cases h
  ·cases h
 ·cases h
theorem vP {H H' : Heap} {v r : Value} (h : some (v, H) = some (r, H')) : LK H H' := by injection h with h; injection h with _ h; subst h; exact .refl _
theorem tQ {H H' : Heap} {v : Option Value} {r : Value} (h : v.map (fun v => (v, H)) = some (r, H')) : LK H H' := by
 cases v with
 | none => cases h
 | some v => exact vP h
set_option maxHeartbeats 1000000 in
theorem b3R {H H' : Heap} {o : Oper} {l : List Value} {r : Value} (h : opD P o l H = some (r, H')) : LK H H' := by
 obtain ⟨dst, op, type, pos, after, guard⟩ := o
 have pl : ∀ {o : Oper}, kQ P o l H = some (r, H') → LK H H' := fun h => by rw [a6q h]; exact .refl _
 cases op with
 | alloc t =>
   simp only [opD, db] at h
   obtain ⟨z, _, h⟩ := h
   split at h
   ·exact a7T h
   ·cases h
 | box t x => simp only [opD] at h; exact a4f h
 | store t x y =>
   simp only [opD, dp] at h
   obtain ⟨H1, h, e⟩ := h
   injection e with _ e; subst e
   exact a7Y h
 | mapUpdate t m x y =>
   simp only [opD, dp] at h
   obtain ⟨H1, h, e⟩ := h
   injection e with _ e; subst e
   exact b1V h
 | mapEntry t m x => simp only [opD] at h; exact a7q h
 | entryStore t m x y =>
   simp only [opD, dp] at h
   obtain ⟨H1, h, e⟩ := h
   injection e with _ e; subst e
   exact a8b h
 | makeMap t x => simp only [opD] at h; exact a3i h
 | buildSlice t len parts =>
   simp only [opD, db] at h
   obtain ⟨elem, _, size, _, z, _, h⟩ := h
   split at h
   ·injection h with h; injection h with _ h; subst h; exact .row _ _ _
   split at h
   ·simp only [dp] at h
    obtain ⟨cs, _, e⟩ := h
    injection e with _ e; subst e
    exact .row _ _ _
   ·cases h
 | makeSlice t n c =>
   simp only [opD, db] at h
   obtain ⟨elem, _, size, _, bytes, _, z, _, h⟩ := h
   split at h
   ·split at h
    ·injection h with h; injection h with _ h; subst h; exact .row _ _ _
    ·cases h
   ·cases h
 | call c =>
   simp only [opD] at h
   split at h
   ·split at h
    ·split at h
     all_goals first | exact tQ h | cases h
    ·cases h
   ·split at h
    ·exact a5i h
    ·cases h
   ·split at h
    ·exact a8B h
    ·cases h
   ·split at h
    ·exact a6K h
    ·cases h
   ·exact pl h
   ·split at h
    ·split at h
     ·split at h
      ·cases h
      ·exact vP h
     ·cases h
    ·cases h
   ·split at h
    ·exact a4K h
    ·cases h
   ·exact pl h
   ·exact pl h
   ·cases h
 | convert s t x =>
   simp only [opD] at h
   split at h
   ·exact pl h
   ·split at h
    ·split at h
     ·exact tQ h
     ·cases h
    ·split at h
     ·simp only [db] at h
      obtain ⟨_, _, h⟩ := h
      injection h with h; injection h with _ h; subst h
      rw [b0v]; exact .cons _ _
     ·cases h
    ·split at h
     ·exact vP h
     ·cases h
    ·cases h
 | slice t x lo hi mx =>
   cases mx with
   | some _ => simp only [opD] at h; cases h
   | none =>
     simp only [opD] at h
     split at h
     ·exact pl h
     ·split at h
      ·exact tQ h
      ·exact tQ h
 | _ =>
   simp only [opD] at h
   repeat' first
    | exact LK.refl _
    | exact vP h
    | exact tQ h
    | exact pl h
    | (cases h; done)
    | split at h
    | (simp only [db, dp] at h; obtain ⟨_, _, h⟩ := h)
    | (obtain ⟨_, _, h⟩ := h)
    | (injection h with h; injection h with _ h; subst h; exact LK.refl _)
    | (injection h with _ h; subst h; exact LK.refl _)
    | (cases h; exact LK.refl _)
end
end Go.Ds
namespace Go.Ds
variable {P : Program}
structure CallsOk (P : Program) (C : Calls') (H0 : Heap) : Prop where
 fn : ∀ p f args H v H1, LK H0 H → (C.fn p f args H).Is v H1 → p = kS f → (FnS P f args H (fun v' H' => v' = v ∧ H' = H1) ∨ qE P f args H = some (v, H1)) ∧ LK H H1
 rd : ∀ L args H v H1, LK H0 H → (C.rd L args H).Is v H1 → xU P L args H v H1 ∧ LK H H1
noncomputable def iW (x : Operand) : LArg := match x with
 | .tmp t => .t (kS t)
 | .const v => .c v
 | .global g => .c (.pointer (some ⟨g, 0, none⟩))
 | .func k => .c (.func (.func k) #[] #[])
theorem kZ {α : Type} (x : Operand) (K : LArg → α) : lR x K = K (iW x) := by
 cases x with
 | tmp t => exact lN _ _
 | _ => rfl
theorem jS {f : Fr} {l : List Value} (h : FAg f l) (x : Operand) : mO f (iW x) = ev l x := by
 cases x with
 | tmp t => exact h t
 | _ => rfl
theorem a3C {α : Type} (l : List Operand) (K : List LArg → α) : a5O l K = K (l.map iW) := by
 induction l generalizing K with
 | nil => rfl
 | cons x l ih =>
   show lR x (fun x => a5O l fun l => K (x :: l)) = _
   rw [kZ, ih]; rfl
theorem a6Q {α : Type} {f : Fr} {l : List Value} (h : FAg f l) (xs : List Operand) (K : List Value → α) : a4z f (xs.map iW) K = K (xs.map (ev l)) := by
 induction xs generalizing K with
 | nil => rfl
 | cons x xs ih =>
   show oK (mO f (iW x)) (fun v => a4z f (xs.map iW) fun l => K (v :: l)) = _
   rw [mU, ih, jS h]; rfl
theorem c1P {f : Fr} {l : List Value} (h : FAg f l) : evF f = ev l := by
 funext x
 cases x with
 | tmp t => exact h t
 | _ => rfl
def wE (P : Program) (o : Oper) (lo : LOp) : Prop := ∀ C H0 f l H v H1, CallsOk P C H0 → LK H0 H → FAg f l → (opF P C lo f H).Is v H1 → StepR P o l H v H1 ∧ LK H H1
def LowPl (P : Program) (o : Oper) (lo : LOp) : Prop := ∀ C f l H v H1, FAg f l → (opF P C lo f H).Is v H1 → opD P o l H = some (v, H1)
theorem LowPl.low {o : Oper} {lo : LOp} (hok : o.op.operands.toList.all iT = true) (h : LowPl P o lo) : wE P o lo :=
 fun C _ f l H v H1 _ _ hf hr => by have := h C f l H v H1 hf hr; exact ⟨.op hok this, b3R this⟩
theorem b7H (o : Oper) : wE P o .bad := fun _ _ _ _ _ _ _ _ _ _ h => absurd h Rs.ar
theorem b8R (o : Oper) : LowPl P o (.gen o) := fun C f l H v H1 hf hr => by
 have hr : (match c1H P o (evF f) H with | some (v, H1) => Rs.th v H1 | none => .no).Is v H1 := hr
 rw [c1P hf] at hr
 have e : c1H P o (ev l) H = opD P o l H := rfl
 rw [e] at hr
 split at hr
 ·rename_i v2 H2 h2
  obtain ⟨rfl, rfl⟩ := Rs.aS hr
  exact h2
 ·exact absurd hr Rs.ar
section
variable {dst : Option Tmp} {type : TypeId} {pos : String} {after : Array Edge} {guard : Option (Nat × Bool)}
theorem c0Y (x : Operand) : LowPl P ⟨dst, .move x, type, pos, after, guard⟩ (.mv (iW x)) := fun C f l H v H1 hf hr => by
 have hr : (oK (mO f (iW x)) fun v => Rs.ok v H).Is v H1 := hr
 rw [mU, jS hf] at hr
 obtain ⟨rfl, rfl⟩ := Rs.aP hr
 rfl
theorem c0N (x : Operand) : LowPl P ⟨dst, .assign x, type, pos, after, guard⟩ (.mv (iW x)) := fun C f l H v H1 hf hr => by
 have hr : (oK (mO f (iW x)) fun v => Rs.ok v H).Is v H1 := hr
 rw [mU, jS hf] at hr
 obtain ⟨rfl, rfl⟩ := Rs.aP hr
 rfl
theorem b5q (c a b : Operand) : LowPl P ⟨dst, .pick c a b, type, pos, after, guard⟩ (.pick (iW c) (iW a) (iW b)) := fun C f l H v H1 hf hr => by
 have hr : (b6M (iW c) (iW a) (iW b) f H).Is v H1 := hr
 unfold b6M at hr
 rw [jS hf] at hr
 split at hr
 ·rename_i t ht
  rw [mU] at hr
  simp only [opD, ht]
  cases t
  ·have hr : (Rs.ok (mO f (iW b)) H).Is v H1 := hr
   rw [jS hf] at hr
   obtain ⟨rfl, rfl⟩ := Rs.aP hr; rfl
  ·have hr : (Rs.ok (mO f (iW a)) H).Is v H1 := hr
   rw [jS hf] at hr
   obtain ⟨rfl, rfl⟩ := Rs.aP hr; rfl
 ·exact absurd hr Rs.ar
theorem b7Y (a b : Int) : c3R a b = a * b := by cases a <;> cases b <;> rfl
theorem a5D (a b : Int) : c4V a b = a.tdiv b := by cases a <;> cases b <;> rfl
theorem a4A (a b : Int) : c4T a b = a.tmod b := by cases a <;> cases b <;> rfl
theorem b7G {op : BinOp} {g : IntKind → Int → Int → Option Value} (h : b7m op = some g) (k : IntKind) (a b : Int) : mN op k a b = g k a b := by
 cases op <;> simp only [b7m] at h <;> first | (cases h; done) | (injection h with h; subst h)
 all_goals first
  | rfl
  | (simp only [mN, c4g, b7Y]; done)
  | (simp only [mN, b7f, a5D]; done)
  | (simp only [mN, b8Q, a4A]; done)
  | (simp only [mN, b7f, a5D]; rfl)
  | (simp only [mN, b8Q, a4A]; rfl)
  | (simp only [mN, b7f, a5D]; cases eqI b 0 <;> rfl)
  | (simp only [mN, b8Q, a4A]; cases eqI b 0 <;> rfl)
theorem c2H {o : Option Value} {H H1 : Heap} {v : Value} (h : (oV o H).Is v H1) : o = some v ∧ H1 = H := by
 cases o with
 | none => exact absurd h Rs.ar
 | some w => obtain ⟨rfl, rfl⟩ := Rs.aS h; exact ⟨rfl, rfl⟩
theorem b4E {o : Option Value} {H H1 : Heap} {v : Value} (h : (okV o H).Is v H1) : o = some v ∧ H1 = H := by
 cases o with
 | none => exact absurd h Rs.ar
 | some w =>
   have h : (oK w fun v => Rs.ok v H).Is v H1 := h
   rw [mU] at h
   obtain ⟨rfl, rfl⟩ := Rs.aP h; exact ⟨rfl, rfl⟩
theorem b8G {op : BinOp} {g : IntKind → Int → Int → Option Value} (hg : b7m op = some g) (t yt : TypeId) (x y : Operand) : LowPl P ⟨dst, .binOp op t x y yt, type, pos, after, guard⟩ (.bin g (iW x) (iW y)) := fun C f l H v H1 hf hr => by
 have hr : (c0A g (iW x) (iW y) f H).Is v H1 := hr
 unfold c0A at hr
 rw [jS hf] at hr
 split at hr
 ·rename_i k a hx
  unfold c0d at hr
  rw [jS hf] at hr
  split at hr
  ·rename_i k' b hy
   obtain ⟨hk, hq⟩ := lF hr
   obtain rfl := b7a hk
   obtain ⟨hv, rfl⟩ := c2H hq
   rw [← b7G hg] at hv
   have : opD P ⟨dst, .binOp op t x y yt, type, pos, after, guard ⟩ l H1 = if k = k then (match mN op k a b with | some v => some (v, H1) | none => kQ P ⟨dst, .binOp op t x y yt, type, pos, after, guard ⟩ l H1) else kQ P ⟨dst, .binOp op t x y yt, type, pos, after, guard ⟩ l H1 := by
    simp only [opD, hx, hy]
    cases op <;> rfl
   rw [this, if_pos rfl, hv]
  ·exact absurd hr Rs.ar
 ·exact absurd hr Rs.ar
theorem b7q {b : Option Blk} {i e : Nat} {H H1 : Heap} {v : Value} (h : (b7P b i e H).Is v H1) : H1 = H ∧ ∃ cs ty rw lo ver, b = some (.cells cs ty rw lo ver) ∧ lo ≤ e ∧ e ≤ cs.length ∧ i + 1 ≤ e ∧ cs[i]? = some v := by
 unfold b7P at h
 split at h
 ·rename_i cs ty rw lo ver
  obtain ⟨h1, h⟩ := lF h
  obtain ⟨h2, h⟩ := lF h
  obtain ⟨h3, h⟩ := lF h
  have h : (okV (a0W cs i) H).Is v H1 := h
  obtain ⟨h4, h5⟩ := b4E h
  rw [xV] at h2
  rw [zC] at h4
  exact ⟨h5, cs, ty, rw, lo, ver, rfl, eE h1, by simpa using h2, eE h3, h4⟩
 ·exact absurd h Rs.ar
theorem b7L {b : Option Blk} {n i e : Nat} {H H1 : Heap} {v : Value} (h : (b8P b n i e H).Is v H1) : H1 = H ∧ ∃ cs ty rw lo ver, b = some (.cells cs ty rw lo ver) ∧ lo ≤ e ∧ e ≤ cs.length ∧ i + n ≤ e ∧ v = .agg ((cs.drop i).take n).toArray := by
 unfold b8P at h
 split at h
 ·rename_i cs ty rw lo ver
  obtain ⟨h1, h⟩ := lF h
  obtain ⟨h2, h⟩ := lF h
  obtain ⟨h3, h⟩ := lF h
  obtain ⟨h4, h⟩ := a5V h
  obtain ⟨rfl, rfl⟩ := Rs.aP h
  rw [xV] at h2
  exact ⟨rfl, cs, ty, rw, lo, ver, rfl, eE h1, by simpa using h2, eE h3, by rw [a7V]⟩
 ·exact absurd h Rs.ar
theorem b1g {X : LArg} {f : Fr} {H H1 : Heap} {v w : Value} {t : TypeId} (ht : jM P t = some false) (hw : mO f X = w) (h : (b3j X f H).Is v H1) : H1 = H ∧ lG P H t w = some v := by
 unfold b3j at h
 rw [hw] at h
 split at h
 ·rename_i A i e
  obtain ⟨h1, cs, ty, rw', lo, ver, h2, h3, h4, h5, h6⟩ := b7q h
  refine ⟨h1, ?_⟩
  simp only [lG, ht, jF, h2]
  rw [if_pos (by simp; omega)]
  simp [h6]
 ·rename_i A i
  unfold c1C at h
  split at h
  ·rename_i cs ty lo hg
   obtain ⟨h1, h⟩ := lF h
   rw [xV] at h1
   have h1 : lo ≤ cs.length := by simpa using h1
   cases hn : a0W cs i with
   | none => rw [hn] at h; exact absurd h Rs.ar
   | some c =>
     rw [hn] at h
     have h : (oK c fun v => Rs.ok v H).Is v H1 := h
     rw [mU] at h
     obtain ⟨rfl, rfl⟩ := Rs.aP h
     rw [zC] at hn
     have hi := (dw.1 hn).1
     refine ⟨rfl, ?_⟩
     simp only [lG, ht, jF, hg]
     rw [if_pos (by simp; omega)]
     simp [hn]
  ·exact absurd h Rs.ar
 ·exact absurd h Rs.ar
theorem b1e {X : LArg} {f : Fr} {H H1 : Heap} {v w : Value} {t : TypeId} {n : Nat} (ht : jM P t = some true) (hn : iD P t = some n) (hw : mO f X = w) (h : (b2u n X f H).Is v H1) : H1 = H ∧ lG P H t w = some v := by
 unfold b2u at h
 rw [hw] at h
 split at h
 ·rename_i A i e
  obtain ⟨h1, cs, ty, rw', lo, ver, h2, h3, h4, h5, h6⟩ := b7L h
  refine ⟨h1, ?_⟩
  simp only [lG, ht, hn, da, jF, h2]
  rw [if_pos (by simp; omega), h6]
  rfl
 ·exact absurd h Rs.ar
theorem b7D {t : TypeId} (ht : jM P t = some false) (x : Operand) : LowPl P ⟨dst, .load t x, type, pos, after, guard⟩ (.ld1 (iW x)) := fun C f l H v H1 hf hr => by
 obtain ⟨rfl, h⟩ := b1g (P := P) ht (jS hf x) hr
 simp only [opD, h, dP]
theorem b7Z {t : TypeId} {n : Nat} (ht : jM P t = some true) (hn : iD P t = some n) (x : Operand) : LowPl P ⟨dst, .load t x, type, pos, after, guard⟩ (.ldn n (iW x)) := fun C f l H v H1 hf hr => by
 obtain ⟨rfl, h⟩ := b1e (P := P) ht hn (jS hf x) hr
 simp only [opD, h, dP]
theorem c1B {t : TypeId} {n : Nat} (hn : iD P t = some n) (x y : Operand) : LowPl P ⟨dst, .store t x y, type, pos, after, guard⟩ (.st n (iW x) (iW y)) := fun C f l H v H1 hf hr => by
 have hr : (hSt n (iW x) (iW y) f H).Is v H1 := hr
 unfold hSt at hr
 rw [jS hf, jS hf] at hr
 split at hr
 ·rename_i A i e hx
  unfold stB at hr
  split at hr
  ·rename_i cs ty lo ver hg
   obtain ⟨h1, hr⟩ := lF hr
   obtain ⟨h2, hr⟩ := lF hr
   obtain ⟨h3, hr⟩ := lF hr
   obtain ⟨h4, hr⟩ := lF hr
   obtain ⟨h5, hr⟩ := lF hr
   obtain ⟨rfl, rfl⟩ := Rs.aS hr
   rw [yJ] at h1 h3
   have h1 : n = (ev l y).cells.toList.length := by simpa only [decide_eq_true_eq] using h1
   have h3 : e = cs.length := by simpa only [decide_eq_true_eq] using h3
   have h4 : i + n ≤ e := eE h4
   have h5 : lo ≤ e := eE h5
   simp only [opD, qN, hx, hg]
   rw [if_pos ⟨by rw [hn, h1], h2, h3, by omega, h5⟩]
   simp only [dP]
   rw [h3]
  ·exact absurd hr Rs.ar
 ·exact absurd hr Rs.ar
theorem c0z {s : TypeId} {k n : Nat} {fd : Field} (hf' : oO P s k = some fd) (hn : iD P fd.type = some n) (hn0 : n ≠ 0) (x : Operand) : LowPl P ⟨dst, .fieldAddr s x k, type, pos, after, guard⟩ (.fa fd.offset (iW x)) := fun C f l H v H1 hf hr => by
 have hr : (hFa fd.offset (iW x) f H).Is v H1 := hr
 unfold hFa at hr
 rw [jS hf] at hr
 split at hr
 ·rename_i A i e hx
  rw [jW] at hr
  obtain ⟨rfl, rfl⟩ := Rs.aP hr
  simp only [opD, hx, hf', da, hn]
  rw [if_neg (by simpa using hn0)]; rfl
 ·exact absurd hr Rs.ar
theorem b6P {A i e size n : Nat} {H H1 : Heap} {j v : Value} (h : (ixP A i e size n H j).Is v H1) : H1 = H ∧ ∃ k m, j = .int k (.ofNat m) ∧ m < n ∧ v = .pointer (some ⟨A, i + m * size, some e⟩) := by
 unfold ixP at h
 split at h
 ·rename_i k m
  obtain ⟨h1, h⟩ := lF h
  rw [jW] at h
  obtain ⟨rfl, rfl⟩ := Rs.aP h
  rw [blt_eq] at h1
  exact ⟨rfl, k, m, rfl, by simpa using h1, rfl⟩
 ·exact absurd h Rs.ar
theorem b7N {t elem : TypeId} {size : Nat} (ht : P.underlying t = some (.slice elem)) (hs : iD P elem = some size) (x i : Operand) : LowPl P ⟨dst, .indexAddr t x i, type, pos, after, guard⟩ (.ixs size (iW x) (iW i)) := fun C f l H v H1 hf hr => by
 have hr : (c1k size (iW x) (iW i) f H).Is v H1 := hr
 unfold c1k at hr
 rw [jS hf, jS hf] at hr
 split at hr
 ·rename_i A a e n c hx
  obtain ⟨rfl, k, m, hj, hm, rfl⟩ := b6P hr
  simp only [opD, ht, hx, hj, hs, da]
  rw [if_pos (by simp; omega)]
  rfl
 ·exact absurd hr Rs.ar
theorem c5e (a b : Nat) : Nat.beq a b = (a == b) := by
 cases h : Nat.beq a b with
 | true => rw [dV h]; simp
 | false => have := Nat.ne_of_beq_eq_false h; simp [this]
theorem c2i {A i size n : Nat} {H H1 : Heap} {j v : Value} (h : (ixG A i size n H j).Is v H1) : H1 = H ∧ ∃ k m, j = .int k (.ofNat m) ∧ m < n ∧ v = .pointer (some ⟨A, i + m * size, none⟩) := by
 unfold ixG at h
 split at h
 ·rename_i k m
  obtain ⟨h1, h⟩ := lF h
  rw [jW] at h
  obtain ⟨rfl, rfl⟩ := Rs.aP h
  exact ⟨rfl, k, m, rfl, by simpa [ic] using h1, rfl⟩
 ·exact absurd h Rs.ar
theorem b7X {t elem : TypeId} {n size : Nat} (ht : P.underlying t = some (.array n elem)) (hs : iD P elem = some size) (x i : Operand) : LowPl P ⟨dst, .indexAddr t x i, type, pos, after, guard⟩ (.ixa n size (iW x) (iW i)) := fun C f l H v H1 hf hr => by
 have hr : (c0y n size (iW x) (iW i) f H).Is v H1 := hr
 unfold c0y at hr
 rw [jS hf, jS hf] at hr
 split at hr
 ·rename_i A a e hx
  obtain ⟨rfl, k, m, hj, hm, rfl⟩ := b6P hr
  simp only [opD, ht, hx, hj, hs, da]
  rw [if_pos (by simp; omega)]
  rfl
 ·rename_i A a hx
  obtain ⟨rfl, k, m, hj, hm, rfl⟩ := c2i hr
  simp only [opD, ht, hx, hj, hs, da]
  rw [if_pos (by simp; omega)]
  rfl
 ·exact absurd hr Rs.ar
theorem b9x (i : Nat) (x : Operand) : LowPl P ⟨dst, .extract x i, type, pos, after, guard⟩ (.ext i (iW x)) := fun C f l H v H1 hf hr => by
 have hr : (c1q i (iW x) f H).Is v H1 := hr
 unfold c1q at hr
 rw [jS hf] at hr
 split at hr
 ·rename_i vs hx
  obtain ⟨h1, rfl⟩ := b4E hr
  rw [zC] at h1
  simp only [opD, hx]
  simp [h1]
 ·exact absurd hr Rs.ar
theorem b8k {c : Call} {elem : TypeId} (hc : c.callee = .builtin .len) (h1 : c.args.size = 1) (h2 : c.argTypes.size = 1) (ht : P.underlying (c.argTypes.getD 0 0) = some (.slice elem)) : LowPl P ⟨dst, .call c, type, pos, after, guard⟩ (.len (iW (c.args.getD 0 (.tmp 0)))) := fun C f l H v H1 hf hr => by
 have hr : (c2n (iW (c.args.getD 0 (.tmp 0))) f H).Is v H1 := hr
 unfold c2n at hr
 rw [jS hf] at hr
 split at hr
 ·rename_i a n k hx
  obtain ⟨rfl, rfl⟩ := Rs.aS hr
  simp only [opD, hc, h1, h2, ht, hx, xH]; rfl
 ·exact absurd hr Rs.ar
theorem b4a {c : Call} (hc : c.callee = .builtin .len) (h1 : c.args.size = 1) (h2 : c.argTypes.size = 1) (ht : P.underlying (c.argTypes.getD 0 0) = some .string) : LowPl P ⟨dst, .call c, type, pos, after, guard⟩ (.slen (iW (c.args.getD 0 (.tmp 0)))) := fun C f l H v H1 hf hr => by
 have hr : (b5f (iW (c.args.getD 0 (.tmp 0))) f H).Is v H1 := hr
 unfold b5f at hr
 rw [jS hf] at hr
 split at hr
 ·rename_i s hx
  obtain ⟨rfl, rfl⟩ := Rs.aS hr
  simp only [opD, hc, h1, h2, ht, hx, xH]; rfl
 ·exact absurd hr Rs.ar
theorem b8J {c : Call} {elem : TypeId} {size bytes : Nat} {z : Value} (hc : c.callee = .builtin .append) (h1 : c.args.size = 2) (h2 : c.argTypes.size = 2) (hi : ((P.underlying (c.argTypes.getD 1 0)).map pW) = some true)
 (he : iI P (c.argTypes.getD 0 0) = some elem) (hs : iD P elem = some size) (hb : nT P elem = some bytes) (hz : iX P elem = some z) (hzs : z.cells.size = size) (hs0 : size ≠ 0) :
 LowPl P ⟨dst, .call c, type, pos, after, guard⟩ (.app elem size bytes (iW (c.args.getD 0 (.tmp 0))) (iW (c.args.getD 1 (.tmp 0)))) := fun C f l H v H1 hf hr => by
 have hr : (c1o P elem size bytes (iW (c.args.getD 0 (.tmp 0))) (iW (c.args.getD 1 (.tmp 0))) f H).Is v H1 := hr
 unfold c1o at hr
 rw [jS hf, jS hf] at hr
 have hD : opD P ⟨dst, .call c, type, pos, after, guard⟩ l H = nK P H (c.argTypes.getD 0 0) (ev l (c.args.getD 0 (.tmp 0))) (ev l (c.args.getD 1 (.tmp 0))) := by
  simp only [opD, hc, h1, h2, hi]; rfl
 rw [hD]
 unfold nK
 rw [he, da, hs, da, hb, da, hz, da]
 split at hr
 ·rename_i n m hsrc
  rw [hsrc, da]
  unfold c3u at hr
  split at hr
  ·rename_i k cc hx
   obtain ⟨g1, hq1⟩ := lF hr
   obtain ⟨g2, hq2⟩ := lF hq1
   obtain ⟨g3, hq⟩ := lF hq2
   clear hr hq1 hq2
   obtain rfl : k = 0 := dV g1
   obtain rfl : cc = 0 := dV g2
   have g3 : n * (bytes + 1) ≤ oT := eE g3
   simp only [hx]
   rw [if_pos (by simp [hs0, hzs, g3])]
   rw [kO] at hq
   by_cases hn : n = 0
   ·subst hn
    rw [if_pos (by rfl)] at hq
    obtain ⟨rfl, rfl⟩ := Rs.aP hq
    simp
   ·rw [if_neg (fun e => hn (dV e))] at hq
    obtain ⟨rfl, rfl⟩ := Rs.aS hq
    simp [hn]
  ·rename_i A i e k cc hx
   unfold c2K at hr
   split at hr
   ·rename_i cs ty lo ver hg
    obtain ⟨g2, hr⟩ := lF hr
    obtain ⟨g4, hr⟩ := lF hr
    obtain ⟨g5, hr⟩ := lF hr
    have g2 : (ty == elem || iD P ty == some size) = true := by
     rw [c5e] at g2
     cases hh : (ty == elem) with
     | true => rfl
     | false => rw [hh] at g2; exact g2
    rw [yJ] at g4
    have g4 : e = cs.length := by simpa only [decide_eq_true_eq] using g4
    have g5 : lo ≤ e := eE g5
    simp only [hx, hg]
    rw [kO] at hr
    by_cases g3 : i + k * size = e
    ·rw [if_pos (by simpa using g3)] at hr
     obtain ⟨g1, hr⟩ := lF hr
     obtain ⟨rfl, rfl⟩ := Rs.aS hr
     have g1 : (k + n) * (bytes + 1) ≤ oT := eE g1
     have et : (Bool.rec (motive := fun _ => Nat) 2 ver (Nat.beq ty elem)) = (if (ty == elem) = true then ver else 2) := by
      rw [c5e]
      cases hh : (ty == elem) with
      | true => rfl
      | false => rfl
     rw [et, if_pos (by simp only [g2, fD, dc, bne_iff_ne, beq_iff_eq, decide_eq_true_eq]; exact ⟨⟨⟨⟨⟨hs0, g1⟩, by simpa using hzs⟩, g3⟩, g4⟩, g5⟩)]
    ·rw [if_neg (by simpa using g3)] at hr
     rw [kO] at hr
     by_cases hn : n = 0
     ·rw [if_pos (by simpa using hn)] at hr
      exact absurd hr Rs.ar
     ·rw [if_neg (by simpa using hn)] at hr
      obtain ⟨g6, hr⟩ := lF hr
      obtain ⟨rfl, rfl⟩ := Rs.aS hr
      have g6 : i + (k + n) * size ≤ e := eE g6
      rw [if_neg (by simp [g3]), if_pos (by simp only [g2, fD, dc, bne_iff_ne, beq_iff_eq, decide_eq_true_eq]; exact ⟨⟨⟨⟨⟨hs0, hn⟩, by simpa using hzs⟩, g6⟩, g4⟩, g5⟩), g4]
   ·exact absurd hr Rs.ar
  ·exact absurd hr Rs.ar
 ·exact absurd hr Rs.ar
theorem b2r {c : Call} {k : FuncId} (hc : c.callee = .value (.func k)) (hok : (Op.call c).operands.toList.all iT = true) : wE P ⟨dst, .call c, type, pos, after, guard⟩ (.callF k (kS k) (c.args.toList.map iW)) := fun C H0 f l H v H1 hC hk hf hr => by
 have hr : (a4z f (c.args.toList.map iW) fun l => C.fn (kS k) k l H).Is v H1 := hr
 rw [a6Q hf] at hr
 obtain ⟨h1 | hx, h2⟩ := hC.fn _ _ _ _ _ _ hk hr rfl
 case inr => exact ⟨.ext hok c (.func k) k #[] #[] rfl hc rfl (by simpa using hx), h2⟩
 obtain ⟨he, v', H', hcall, rfl, rfl⟩ := h1.fn
 exact ⟨.call hok c (.func k) k #[] #[] rfl hc rfl he (by simpa using hcall), h2⟩
theorem b1E {c : Call} {g : Operand} (hc : c.callee = .value g) (hok : (Op.call c).operands.toList.all iT = true) : wE P ⟨dst, .call c, type, pos, after, guard⟩ (.callV (iW g) (c.args.toList.map iW)) := fun C H0 f l H v H1 hC hk hf hr => by
 have hr : (a4z f (c.args.toList.map iW) fun l => a9u C l H (mO f (iW g))).Is v H1 := hr
 rw [a6Q hf, jS hf] at hr
 unfold a9u at hr
 split at hr
 ·rename_i k a b hg
  rw [jW, lN] at hr
  obtain ⟨h1 | hx, h2⟩ := hC.fn _ _ _ _ _ _ hk hr rfl
  case inr => exact ⟨.ext hok c g k ⟨a⟩ ⟨b⟩ rfl hc hg (by simpa [zA] using hx), h2⟩
  obtain ⟨he, v', H', hcall, rfl, rfl⟩ := h1.fn
  exact ⟨.call hok c g k ⟨a⟩ ⟨b⟩ rfl hc hg he (by simpa [zA] using hcall), h2⟩
 ·rename_i L a b hg
  obtain ⟨h1, h2⟩ := hC.rd _ _ _ _ _ hk hr
  exact ⟨.round hok c g L _ _ rfl hc hg h1, h2⟩
 ·exact absurd hr Rs.ar
end
set_option maxHeartbeats 1000000 in
theorem b0Z {α : Type} (o : Oper) (K : LOp → α) : ∃ lo, wE P o lo ∧ xJ P o K = K lo := by
 unfold xJ
 rw [kO]
 by_cases hok : o.op.operands.toList.all iT = true
 case neg => rw [if_neg hok]; exact ⟨_, b7H o, rfl⟩
 rw [if_pos hok]
 have gen : ∃ lo, wE P o lo ∧ K (.gen o) = K lo := ⟨_, (b8R o).low hok, rfl⟩
 obtain ⟨dst, op, type, pos, after, guard⟩ := o
 unfold c3Q
 cases op with
 | move x => simp only [kZ]; exact ⟨_, (c0Y x).low hok, rfl⟩
 | assign x => simp only [kZ]; exact ⟨_, (c0N x).low hok, rfl⟩
 | pick c a b => simp only [kZ]; exact ⟨_, (b5q c a b).low hok, rfl⟩
 | binOp op t x y yt =>
   simp only [kZ, kO]
   split
   ·split
    ·rename_i g hg; exact ⟨_, (b8G hg t yt x y).low hok, rfl⟩
    ·exact gen
   ·exact gen
 | load t x =>
   simp only [kZ]
   split
   ·rename_i ht
    cases hn : iD P t with
    | none => exact gen
    | some n => rw [oY]; exact ⟨_, (b7Z ht hn x).low hok, rfl⟩
   ·rename_i ht; exact ⟨_, (b7D ht x).low hok, rfl⟩
   ·exact gen
 | store t x y =>
   simp only [kZ]
   cases hn : iD P t with
   | none => exact gen
   | some n => rw [oY]; exact ⟨_, (c1B hn x y).low hok, rfl⟩
 | fieldAddr s x k =>
   simp only [kZ]
   split
   ·rename_i fd hfd
    split
    ·exact gen
    ·rename_i n hn0 hn
     rw [jW]
     exact ⟨_, (c0z hfd hn (fun e => hn0 e) x).low hok, rfl⟩
    ·exact gen
   ·exact gen
 | indexAddr t x i =>
   simp only [kZ]
   split
   ·rename_i elem ht
    cases hs : iD P elem with
    | none => exact gen
    | some n => rw [oY]; exact ⟨_, (b7N ht hs x i).low hok, rfl⟩
   ·rename_i n elem ht
    cases hs : iD P elem with
    | none => exact gen
    | some m => rw [oY]; exact ⟨_, (b7X ht hs x i).low hok, rfl⟩
   ·exact gen
 | extract t i => simp only [kZ]; rw [jW]; exact ⟨_, (b9x i t).low hok, rfl⟩
 | call c =>
   simp only
   unfold b3D
   split
   ·rename_i k hc
    rw [lN, a3C]
    exact ⟨_, b2r hc hok, rfl⟩
   ·rename_i g _ hc
    rw [kZ, a3C]
    exact ⟨_, b1E hc hok, rfl⟩
   ·rename_i hc
    rw [kO]
    split
    ·rename_i h1
     simp only [dc, beq_iff_eq] at h1
     split
     ·rename_i elem ht; rw [kZ]; exact ⟨_, (b8k hc h1.1 h1.2 ht).low hok, rfl⟩
     ·rename_i ht; rw [kZ]; exact ⟨_, (b4a hc h1.1 h1.2 ht).low hok, rfl⟩
     ·exact gen
    ·exact gen
   ·rename_i hc
    rw [kO]
    split
    ·rename_i h1
     simp only [dc, beq_iff_eq] at h1
     split
     ·rename_i elem he
      cases hs : iD P elem with
      | none => exact gen
      | some size =>
        rw [oY]
        cases hb : nT P elem with
        | none => exact gen
        | some bytes =>
          rw [oY]
          split
          ·rename_i z hz
           rw [kO]
           split
           ·rename_i h2
            simp only [dc, beq_iff_eq, bne_iff_ne] at h2
            rw [jW, kZ, kZ]
            exact ⟨_, (b8J hc h1.1.1 h1.1.2 h1.2 he hs hb hz h2.1 h2.2).low hok, rfl⟩
           ·exact gen
          ·exact gen
     ·exact gen
    ·exact gen
   ·exact gen
 | _ => exact gen
def DOk (k : Nat) (dst : Option Tmp) (d : Option Pth) : Prop := (dst = none ∧ d = none) ∨ ∃ t, dst = some t ∧ t < k ∧ d = some (kS t)
inductive LowOps (P : Program) (k : Nat) (ops : Array Oper) : List Oper → LOps → Prop
 | nil : LowOps P k ops [] .nil
 | cons {o : Oper} {os : List Oper} {d : Option Pth} {lo : LOp} {r : LOps} (hd : DOk k o.dst d) (ho : wE P o lo) (hg : o.guard = none) (hr : LowOps P k ops os r) : LowOps P k ops (o :: os) (.cons d lo r)
 | gcons {o : Oper} {os : List Oper} {d : Option Pth} {lo : LOp} {r : LOps} {j t : Nat} {w : Bool} (hd : DOk k o.dst d) (ho : wE P o lo) (hg : o.guard = some (j, w)) (ht : (ops[j]?).bind (·.dst) = some t) (htk : t < k) (hr : LowOps P k ops os r) : LowOps P k ops (o :: os) (.gcons (kS t) w d lo r)
def GOk (ops : Array Oper) (o : Oper) (g : Option (Pth × Bool)) : Prop := (o.guard = none ∧ g = none) ∨ ∃ j w t, o.guard = some (j, w) ∧ (ops[j]?).bind (·.dst) = some t ∧ g = some (kS t, w)
theorem GOk.runs {ops : Array Oper} {o : Oper} {g : Option (Pth × Bool)} (h : GOk ops o g) {f : Fr} {l : List Value} (hf : FAg f l) (hw : Region.wanted o (iV ops l) = true) : b3L f g = true := by
 rcases h with ⟨_, rfl⟩ | ⟨j, w, t, hg, ht, rfl⟩
 ·rfl
 ·simp only [Region.wanted, hg, iV, ht] at hw
  show isB (nX (kS t) f) w = true
  rw [hf t, oE, dg]
  cases hl : l[t]? with
  | none => rw [hl] at hw; simp at hw
  | some v =>
    rw [hl] at hw
    cases v <;> simp at hw
    subst hw
    rename_i b
    cases b <;> rfl
inductive LowTab (P : Program) (ops : Array Oper) : List (Nat × Nat) → List (Nat × Option Nat × Option (Pth × Bool) × LOp) → Prop
 | nil : LowTab P ops [] []
 | cons {i m : Nat} {o : Oper} {lo : LOp} {tab : List (Nat × Nat)} {t : List (Nat × Option Nat × Option (Pth × Bool) × LOp)} {g : Option (Pth × Bool)} (ho : ops[i]? = some o) (hgd : GOk ops o g) (hl : wE P o lo) (hr : LowTab P ops tab t) :
    LowTab P ops ((i, m) :: tab) ((ops.size - 1 - i, if m < ops.size then some (ops.size - 1 - m) else none, g, lo) :: t)
inductive Low (P : Program) (k : Nat) : Code → LCode → Prop
 | bad (c : Code) : Low P k c .bad
 | skip : Low P k .skip .skip
 | label (t : Nat) : Low P k (.label t) .skip
 | reg {id : Nat} {ops : Array Oper} {d : Bool} {lo : LOps} (h : LowOps P k ops ops.toList lo) (hd : d = true → mX P ops = some []) : Low P k (.region id ops d) (.reg lo)
 | drw {id : Nat} {ops : Array Oper} {lo : LOps} {tab : List (Nat × Nat)} {t : List (Nat × Option Nat × Option (Pth × Bool) × LOp)} (h : LowOps P k ops ops.toList lo) (ht : mX P ops = some tab) (hl : LowTab P ops tab t) : Low P k (.region id ops true) (.drw lo t)
 | seq {a b : Code} {A B : LCode} (ha : Low P k a A) (hb : Low P k b B) : Low P k (.seq a b) (.seq A B)
 | cond {c : Operand} {x y : Code} {X Y : LCode} (hc : iT c = true) (hx : Low P k x X) (hy : Low P k y Y) : Low P k (.cond c x y) (.cond (iW c) X Y)
 | block {id : Nat} {b : Code} {B : LCode} (hb : Low P k b B) : Low P k (.block id b) (.block id B)
 | loop {b : Code} {B : LCode} (hb : Low P k b B) : Low P k (.loop b) (.loop B)
 | exit (id : Nat) : Low P k (.exit id) (.exit id)
 | ret : Low P k .ret .ret
 | range {g : Operand} {ps : Array Tmp} {assign body : Code} {A B : LCode} (hg : iT g = true) (hps : ∀ t ∈ ps.toList, t < k) (ha : Low P k assign A) (hb : Low P k body B) :
    Low P k (.rangeFunc g ps assign body) (.range (iW g) ((List.range k).map kS) (ps.toList.map kS) ps assign body A B)
section
variable {α : Type}
theorem b6j (k : Nat) (dst : Option Tmp) (no : α) (K : Option Pth → α) : (∃ d, DOk k dst d ∧ a6i k dst no K = K d) ∨ a6i k dst no K = no := by
 cases dst with
 | none => exact .inl ⟨none, .inl ⟨rfl, rfl⟩, rfl⟩
 | some t =>
   simp only [a6i, kO]
   split
   ·rename_i h
    rw [lN]
    rw [blt_eq] at h
    exact .inl ⟨_, .inr ⟨t, rfl, by simpa using h, rfl⟩, rfl⟩
   ·exact .inr rfl
theorem a1T (k : Nat) (ops : Array Oper) (l : List Oper) (K : LOps → α) (no : α) : (∃ L, LowOps P k ops l L ∧ uD P k ops l K no = K L) ∨ uD P k ops l K no = no := by
 induction l generalizing K with
 | nil => exact .inl ⟨_, .nil, rfl⟩
 | cons o l ih =>
   let K2 : Option Pth → LOp → α := fun d o' => match o.guard with
    | none => uD P k ops l (fun r => K (.cons d o' r)) no
    | some (j, w) => match (ops[j]?).bind (·.dst) with
      | some t => nV (Nat.blt t k) no (lP (kS t) fun p => zS w fun w => uD P k ops l (fun r => K (.gcons p w d o' r)) no)
      | none => no
   have e : uD P k ops (o :: l) K no = a6i k o.dst no fun d => xJ P o fun o' => K2 d o' := rfl
   rw [e]
   rcases b6j k o.dst no (fun d => xJ P o fun o' => K2 d o') with ⟨d, hd, h1⟩ | h1
   ·rw [h1]
    obtain ⟨lo, hlo, h2⟩ := b0Z (P := P) o (fun o' => K2 d o')
    rw [h2]
    simp only [K2]
    split
    ·rename_i hg
     rcases ih (fun r => K (.cons d lo r)) with ⟨L, hL, h3⟩ | h3
     ·exact .inl ⟨_, .cons hd hlo hg hL, h3⟩
     ·exact .inr h3
    ·rename_i j w hg
     split
     ·rename_i t ht
      rw [kO]
      split
      ·rename_i htk
       rw [lN, vE]
       rw [blt_eq] at htk
       rcases ih (fun r => K (.gcons (kS t) w d lo r)) with ⟨L, hL, h3⟩ | h3
       ·exact .inl ⟨_, .gcons hd hlo hg ht (by simpa using htk) hL, h3⟩
       ·exact .inr h3
      ·exact .inr rfl
     ·exact .inr rfl
   ·exact .inr h1
theorem c1J (k : Nat) (ops : Array Oper) (o : Oper) (no : α) (K : Option (Pth × Bool) → α) : (∃ g, GOk ops o g ∧ loG k ops o.guard no K = K g) ∨ loG k ops o.guard no K = no := by
 cases hg : o.guard with
 | none => exact .inl ⟨none, .inl ⟨hg, rfl⟩, rfl⟩
 | some x =>
   obtain ⟨j, w⟩ := x
   unfold loG
   cases ht : (ops[j]?).bind (·.dst) with
   | none => exact .inr (by simp only [ht])
   | some t =>
     simp only [ht, kO]
     split
     ·refine .inl ⟨some (kS t, w), .inr ⟨j, w, t, hg, ht, rfl⟩, ?_⟩
      rw [lN, vE]
     ·exact .inr rfl
theorem b4O (k : Nat) (ops : Array Oper) (tab : List (Nat × Nat)) (K : List (Nat × Option Nat × Option (Pth × Bool) × LOp) → α) (no : α) : (∃ t, LowTab P ops tab t ∧ tD P k ops ops.size tab K no = K t) ∨ tD P k ops ops.size tab K no = no := by
 induction tab generalizing K with
 | nil => exact .inl ⟨_, .nil, rfl⟩
 | cons x tab ih =>
   obtain ⟨i, m⟩ := x
   cases ho : ops[i]? with
   | none =>
     refine .inr ?_
     show (match ops[i]? with
      | some o => _
      | none => no) = no
     rw [ho]
   | some o =>
     let K2 : Option (Pth × Bool) → LOp → α := fun g o' => kC (ops.size - 1 - i) fun i => nV (Nat.blt m ops.size) (tD P k ops ops.size tab (fun l => K ((i, none, g, o') :: l)) no) (kC (ops.size - 1 - m) fun m => tD P k ops ops.size tab (fun l => K ((i, some m, g, o') :: l)) no)
     have e : tD P k ops ops.size ((i, m) :: tab) K no = loG k ops o.guard no fun g => xJ P o fun o' => K2 g o' := by
      show (match ops[i]? with
       | some o => loG k ops o.guard no fun g => xJ P o fun o' => K2 g o'
       | none => no) = _
      rw [ho]
     rw [e]
     rcases c1J k ops o no (fun g => xJ P o fun o' => K2 g o') with ⟨g, hgd, h1⟩ | h1
     ·rw [h1]
      obtain ⟨lo, hlo, h2⟩ := b0Z (P := P) o (fun o' => K2 g o')
      rw [h2]
      show (∃ t, _ ∧ kC (ops.size - 1 - i) (fun i => nV (Nat.blt m ops.size) (tD P k ops ops.size tab (fun l => K ((i, none, g, lo) :: l)) no) (kC (ops.size - 1 - m) fun m => tD P k ops ops.size tab (fun l => K ((i, some m, g, lo) :: l)) no)) = K t) ∨ kC (ops.size - 1 - i) (fun i => nV (Nat.blt m ops.size) (tD P k ops ops.size tab (fun l => K ((i, none, g, lo) :: l)) no) (kC (ops.size - 1 - m) fun m => tD P k ops ops.size tab (fun l => K ((i, some m, g, lo) :: l)) no)) = no
      rw [jW, kO, jW, blt_eq]
      by_cases hm : m < ops.size
      ·rw [if_pos (by simpa using hm)]
       rcases ih (fun l => K ((ops.size - 1 - i, some (ops.size - 1 - m), g, lo) :: l)) with ⟨t, ht, h3⟩ | h3
       ·have := LowTab.cons (m := m) ho hgd hlo ht
        rw [if_pos hm] at this
        exact .inl ⟨_, this, h3⟩
       ·exact .inr h3
      ·rw [if_neg (by simpa using hm)]
       rcases ih (fun l => K ((ops.size - 1 - i, none, g, lo) :: l)) with ⟨t, ht, h3⟩ | h3
       ·have := LowTab.cons (m := m) ho hgd hlo ht
        rw [if_neg hm] at this
        exact .inl ⟨_, this, h3⟩
       ·exact .inr h3
     ·exact .inr h1
theorem b3u (k : Nat) (l : List Tmp) (K : List Pth → α) (no : α) : ((∀ t ∈ l, t < k) ∧ wS k l K no = K (l.map kS)) ∨ wS k l K no = no := by
 induction l generalizing K with
 | nil => exact .inl ⟨by simp, rfl⟩
 | cons t l ih =>
   show _ ∨ nV (Nat.blt t k) no (lP (kS t) fun p => wS k l (fun l => K (p :: l)) no) = no
   have e : wS k (t :: l) K no = nV (Nat.blt t k) no (lP (kS t) fun p => wS k l (fun l => K (p :: l)) no) := rfl
   rw [e, kO, lN, blt_eq]
   by_cases h : t < k
   ·rw [if_pos (by simpa using h)]
    rcases ih (fun l => K (kS t :: l)) with ⟨h1, h2⟩ | h2
    ·exact .inl ⟨by simpa using ⟨h, h1⟩, h2⟩
    ·exact .inr h2
   ·rw [if_neg (by simpa using h)]; exact .inr rfl
theorem b3i (k : Nat) (c : Code) (K : LCode → α) : ∃ C, Low P k c C ∧ nA P k c K = K C := by
 induction c generalizing K with
 | skip => exact ⟨_, .skip, rfl⟩
 | region id ops d =>
   cases d with
   | false =>
     show ∃ C, _ ∧ uD P k ops ops.toList (fun l => K (.reg l)) (K .bad) = K C
     rcases a1T (P := P) k ops ops.toList (fun l => K (.reg l)) (K .bad) with ⟨L, hL, h⟩ | h
     ·exact ⟨_, .reg hL (fun h => by cases h), h⟩
     ·exact ⟨_, .bad _, h⟩
   | true =>
     show ∃ C, _ ∧ (match mX P ops with
      | some [] => uD P k ops ops.toList (fun l => K (.reg l)) (K .bad)
      | some tab => uD P k ops ops.toList (fun l => tD P k ops ops.size tab (fun t => K (.drw l t)) (K .bad)) (K .bad)
      | none => K .bad) = K C
     split
     ·rename_i hd
      rcases a1T (P := P) k ops ops.toList (fun l => K (.reg l)) (K .bad) with ⟨L, hL, h⟩ | h
      ·exact ⟨_, .reg hL (fun _ => hd), h⟩
      ·exact ⟨_, .bad _, h⟩
     ·rename_i tab _ hd
      rcases a1T (P := P) k ops ops.toList (fun l => tD P k ops ops.size tab (fun t => K (.drw l t)) (K .bad)) (K .bad) with ⟨L, hL, h⟩ | h
      ·rw [h]
       rcases b4O (P := P) k ops tab (fun t => K (.drw L t)) (K .bad) with ⟨t, ht, h2⟩ | h2
       ·exact ⟨_, .drw hL hd ht, h2⟩
       ·exact ⟨_, .bad _, h2⟩
      ·exact ⟨_, .bad _, h⟩
     ·exact ⟨_, .bad _, rfl⟩
 | seq a b iha ihb =>
   show ∃ C, _ ∧ nA P k a (fun a => nA P k b fun b => K (.seq a b)) = K C
   obtain ⟨A, hA, h1⟩ := iha (fun a => nA P k b fun b => K (.seq a b))
   obtain ⟨B, hB, h2⟩ := ihb (fun b => K (.seq A b))
   exact ⟨_, .seq hA hB, h1.trans h2⟩
 | cond c x y ihx ihy =>
   show ∃ C, _ ∧ nV (iT c) (K .bad) (lR c fun c => nA P k x fun x => nA P k y fun y => K (.cond c x y)) = K C
   rw [kO]
   split
   ·rename_i hc
    rw [kZ]
    obtain ⟨X, hX, h1⟩ := ihx (fun x => nA P k y fun y => K (.cond (iW c) x y))
    obtain ⟨Y, hY, h2⟩ := ihy (fun y => K (.cond (iW c) X y))
    exact ⟨_, .cond hc hX hY, h1.trans h2⟩
   ·exact ⟨_, .bad _, rfl⟩
 | block id b ih =>
   show ∃ C, _ ∧ kC id (fun id => nA P k b fun b => K (.block id b)) = K C
   rw [jW]
   obtain ⟨B, hB, h1⟩ := ih (fun b => K (.block id b))
   exact ⟨_, .block hB, h1⟩
 | loop b ih =>
   show ∃ C, _ ∧ nA P k b (fun b => K (.loop b)) = K C
   obtain ⟨B, hB, h1⟩ := ih (fun b => K (.loop b))
   exact ⟨_, .loop hB, h1⟩
 | rangeFunc g ps assign body iha ihb =>
   show ∃ C, _ ∧ nV (iT g) (K .bad) (lR g fun g' => b3v k fun pp => wS k ps.toList (fun q => nA P k assign fun a => nA P k body fun b => K (.range g' pp q ps assign body a b)) (K .bad)) = K C
   rw [kO]
   split
   ·rename_i hg
    rw [kZ, b0T]
    rcases b3u k ps.toList (fun q => nA P k assign fun a => nA P k body fun b => K (.range (iW g) ((List.range k).map kS) q ps assign body a b)) (K .bad) with ⟨hps, h⟩ | h
    ·obtain ⟨A, hA, h1⟩ := iha (fun a => nA P k body fun b => K (.range (iW g) ((List.range k).map kS) (ps.toList.map kS) ps assign body a b))
     obtain ⟨B, hB, h2⟩ := ihb (fun b => K (.range (iW g) ((List.range k).map kS) (ps.toList.map kS) ps assign body A b))
     exact ⟨_, .range hg hps hA hB, h.trans (h1.trans h2)⟩
    ·exact ⟨_, .bad _, h⟩
   ·exact ⟨_, .bad _, rfl⟩
 | exit id =>
   show ∃ C, _ ∧ kC id (fun id => K (.exit id)) = K C
   rw [jW]
   exact ⟨_, .exit id, rfl⟩
 | label t => exact ⟨_, .label t, rfl⟩
 | ret => exact ⟨_, .ret, rfl⟩
 | scope b _ => exact ⟨_, .bad _, rfl⟩
 | goto t => exact ⟨_, .bad _, rfl⟩
 | refuse w => exact ⟨_, .bad _, rfl⟩
end
theorem vN {α : Type} {k : Nat} {f : Fr} {l : List Value} (h : FRel k f l) {dst : Option Tmp} {d : Option Pth} (hd : DOk k dst d) (v : Value) (K : Fr → α) : ∃ f', tP d v f K = K f' ∧ FRel k f' (put l dst v) := by
 rcases hd with ⟨rfl, rfl⟩ | ⟨t, rfl, ht, rfl⟩
 ·exact ⟨f, rfl, h⟩
 ·exact ⟨b6d f t v, sV v (kS t) f K, h.put ht v⟩
theorem xL {ops : Array Oper} {l : List Value} {j t : Nat} (ht : (ops[j]?).bind (·.dst) = some t) (htl : t < l.length) (w : Bool) : (iV ops l j == some w) = isB (get l t) w := by
 have hg : get l t = l[t] := by rw [oE]; simp [htl]
 unfold iV
 rw [ht, hg]
 simp only [dx htl]
 cases hv : l[t] <;> simp [isB]
 rename_i b
 cases b <;> cases w <;> rfl
theorem b8W {k : Nat} {ops : Array Oper} {C : Calls'} {H0 : Heap} (hC : CallsOk P C H0) {os : List Oper} {lo : LOps} (hlo : LowOps P k ops os lo) : ∀ {i : Nat}, ops.toList.drop i = os → ∀ {f : Fr} {l : List Value} {H : Heap} {f1 : Fr} {H1 : Heap},
 FRel k f l → LK H0 H → xK P C lo f H = .ok f1 H1 → ∃ l1, FRel k f1 l1 ∧ OpsR P ops (List.range' i os.length) l H l1 H1 ∧ LK H H1 := by
 induction hlo with
 | nil =>
   intro i _ f l H f1 H1 hf _ h
   injection h with h1 h2
   subst h1 h2
   exact ⟨l, hf, .nil l H, .refl H⟩
 | @cons o os d lo r hd ho hg hr ih =>
   intro i hi f l H f1 H1 hf hk h
   have hio : ops[i]? = some o := by
    have : (ops.toList.drop i)[0]? = some o := by rw [hi]; rfl
    rw [dH] at this
    simpa using this
   have hi' : ops.toList.drop (i + 1) = os := by rw [← fF, hi]; rfl
   have hw : Region.wanted o (iV ops l) = true := by simp [Region.wanted, hg]
   have h : b0q Rf.no d f (xK P C r) (opF P C lo f H) = .ok f1 H1 := h
   have key : ∀ v H2, (opF P C lo f H).Is v H2 → (tP d v f fun f => xK P C r f H2) = .ok f1 H1 → ∃ l1, FRel k f1 l1 ∧ OpsR P ops (List.range' i (o :: os).length) l H l1 H1 ∧ LK H H1 := by
    intro v H2 hop hrest
    obtain ⟨hs, hk2⟩ := ho C H0 f l H v H2 hC hk hf.2 hop
    obtain ⟨f', e, hf'⟩ := vN hf hd v (fun f => xK P C r f H2)
    rw [e] at hrest
    obtain ⟨l1, h1, h2, h3⟩ := ih hi' hf' (hk.trans hk2) hrest
    exact ⟨l1, h1, .step hio hw hs h2, hk2.trans h3⟩
   cases hop : opF P C lo f H with
   | no => rw [hop] at h; cases h
   | ok v H2 => rw [hop] at h; exact key v H2 (.inl hop) h
   | th v H2 =>
     rw [hop] at h
     have h : yY v (fun v => nQ H2 fun H2 => tP d v f fun f => xK P C r f H2) = .ok f1 H1 := h
     rw [xO, lV] at h
     exact key v H2 (.inr hop) h
 | @gcons o os d lo r j t w hd ho hg ht htk hr ih =>
   intro i hi f l H f1 H1 hf hk h
   have hio : ops[i]? = some o := by
    have : (ops.toList.drop i)[0]? = some o := by rw [hi]; rfl
    rw [dH] at this
    simpa using this
   have hi' : ops.toList.drop (i + 1) = os := by rw [← fF, hi]; rfl
   have hwi : Region.wanted o (iV ops l) = isB (nX (kS t) f) w := by
    simp only [Region.wanted, hg]
    rw [xL ht (by rw [hf.1]; exact htk) w, hf.2 t]
   have h : nV (isB (nX (kS t) f) w) (tP d undef f fun f => xK P C r f H) (b0q Rf.no d f (xK P C r) (opF P C lo f H)) = .ok f1 H1 := h
   rw [kO] at h
   split at h
   ·rename_i hb
    have key : ∀ v H2, (opF P C lo f H).Is v H2 → (tP d v f fun f => xK P C r f H2) = .ok f1 H1 → ∃ l1, FRel k f1 l1 ∧ OpsR P ops (List.range' i (o :: os).length) l H l1 H1 ∧ LK H H1 := by
     intro v H2 hop hrest
     obtain ⟨hs, hk2⟩ := ho C H0 f l H v H2 hC hk hf.2 hop
     obtain ⟨f', e, hf'⟩ := vN hf hd v (fun f => xK P C r f H2)
     rw [e] at hrest
     obtain ⟨l1, h1, h2, h3⟩ := ih hi' hf' (hk.trans hk2) hrest
     exact ⟨l1, h1, .step hio (by rw [hwi, hb]) hs h2, hk2.trans h3⟩
    cases hop : opF P C lo f H with
    | no => rw [hop] at h; cases h
    | ok v H2 => rw [hop] at h; exact key v H2 (.inl hop) h
    | th v H2 =>
      rw [hop] at h
      have h : yY v (fun v => nQ H2 fun H2 => tP d v f fun f => xK P C r f H2) = .ok f1 H1 := h
      rw [xO, lV] at h
      exact key v H2 (.inr hop) h
   ·rename_i hb
    obtain ⟨f', e, hf'⟩ := vN hf hd undef (fun f => xK P C r f H)
    rw [e] at h
    obtain ⟨l1, h1, h2, h3⟩ := ih hi' hf' hk h
    exact ⟨l1, h1, .past hio (by rw [hwi]; simpa using hb) h2, h3⟩
structure Noted (P : Program) (k : Nat) (ops : Array Oper) (H : Heap) (i n : Nat) (T : Nat → List Value × Heap) (val : Nat → Value) (tr0 tr : List (Fr × Heap × Value)) : Prop where
 step : ∀ j, i ≤ j → j < i + n → wI P ops j (T j) (T (j + 1)) (val j)
 new : ∀ j, i ≤ j → j < i + n → ∃ g, tr[i + n - 1 - j]? = some (g, (T j).2, val j) ∧ FAg g (T j).1
 old : ∀ m, tr[n + m]? = tr0[m]?
 lk : ∀ j, i ≤ j → j ≤ i + n → LK H (T j).2
theorem b6b {k : Nat} {ops : Array Oper} {C : Calls'} {H0 : Heap} (hC : CallsOk P C H0) {os : List Oper} {lo : LOps} (hlo : LowOps P k ops os lo) : ∀ {i : Nat}, ops.toList.drop i = os → ∀ {tr0 tr : List (Fr × Heap × Value)} {f : Fr} {l : List Value} {H : Heap} {f1 : Fr} {H1 : Heap},
 FRel k f l → LK H0 H → rJ P C lo tr0 f H = .ok tr f1 H1 → ∃ T val l1, T i = (l, H) ∧ T (i + os.length) = (l1, H1) ∧ FRel k f1 l1 ∧ Noted P k ops H i os.length T val tr0 tr := by
 have more : ∀ {i n : Nat} {o : Oper} {tr0 tr : List (Fr × Heap × Value)} {f : Fr} {l : List Value} {H : Heap} {v : Value} {l2 : List Value} {H2 : Heap} {l1 : List Value} {H1 : Heap} {f1 : Fr}, FRel k f l → wI P ops i (l, H) (l2, H2) v → LK H H2 →
  (∃ T val l1, T (i + 1) = (l2, H2) ∧ T (i + 1 + n) = (l1, H1) ∧ FRel k f1 l1 ∧ Noted P k ops H2 (i + 1) n T val ((f, H, v) :: tr0) tr) →
  ∃ T val l1, T i = (l, H) ∧ T (i + (n + 1)) = (l1, H1) ∧ FRel k f1 l1 ∧ Noted P k ops H i (n + 1) T val tr0 tr := by
  intro i n o tr0 tr f l H v l2 H2 _ H1 f1 hf hst hk ⟨T, val, l1, h1, h2, h3, hN⟩
  refine ⟨fun j => if j ≤ i then (l, H) else T j, fun j => if j ≤ i then v else val j, l1, by simp, ?_, h3, ?_⟩
  ·show (if i + (n + 1) ≤ i then (l, H) else T (i + (n + 1))) = _
   rw [if_neg (by omega), ← h2]; congr 1; omega
  ·refine ⟨fun j hj hn => ?_, fun j hj hn => ?_, fun m => ?_, fun j hj hn => ?_⟩
   ·by_cases he : j = i
    ·subst he
     simp only [dm, if_true]
     rw [if_neg (by omega), h1]
     exact hst
    ·rw [if_neg (by omega), if_neg (by omega), if_neg (by omega)]
     exact hN.step j (by omega) (by omega)
   ·by_cases he : j = i
    ·subst he
     simp only [dm, if_true]
     refine ⟨f, ?_, hf.2⟩
     have := hN.old 0
     rw [show j + (n + 1) - 1 - j = n + 0 by omega, this]; rfl
    ·rw [if_neg (by omega), if_neg (by omega)]
     obtain ⟨g, hg, hag⟩ := hN.new j (by omega) (by omega)
     exact ⟨g, by rw [← hg]; congr 1; omega, hag⟩
   ·have := hN.old (m + 1)
    rw [show n + 1 + m = n + (m + 1) by omega, this]; rfl
   ·by_cases he : j = i
    ·subst he; simp only [dm, if_true]; exact .refl H
    ·rw [if_neg (by omega)]; exact hk.trans (hN.lk j (by omega) (by omega))
 induction hlo with
 | nil =>
   intro i _ tr0 tr f l H f1 H1 hf _ h
   injection h with h1 h2 h3
   subst h1 h2 h3
   exact ⟨fun _ => (l, H), fun _ => undef, l, rfl, rfl, hf, fun j _ h => absurd h (by simp; omega), fun j _ h => absurd h (by simp; omega), fun m => by simp, fun _ _ _ => .refl H⟩
 | @cons o os d lo r hd ho hg hr ih =>
   intro i hi tr0 tr f l H f1 H1 hf hk h
   have hio : ops[i]? = some o := by
    have : (ops.toList.drop i)[0]? = some o := by rw [hi]; rfl
    rw [dH] at this
    simpa using this
   have hi' : ops.toList.drop (i + 1) = os := by rw [← fF, hi]; rfl
   have hw : Region.wanted o (iV ops l) = true := by simp [Region.wanted, hg]
   have h : b0D tr0 f H d (rJ P C r) (opF P C lo f H) = .ok tr f1 H1 := h
   have key : ∀ v H2, (opF P C lo f H).Is v H2 → (tP d v f fun f2 => rJ P C r ((f, H, v) :: tr0) f2 H2) = .ok tr f1 H1 → ∃ T val l1, T i = (l, H) ∧ T (i + (o :: os).length) = (l1, H1) ∧ FRel k f1 l1 ∧ Noted P k ops H i (o :: os).length T val tr0 tr := by
    intro v H2 hop hrest
    obtain ⟨hs, hk2⟩ := ho C H0 f l H v H2 hC hk hf.2 hop
    obtain ⟨f', e, hf'⟩ := vN hf hd v (fun f2 => rJ P C r ((f, H, v) :: tr0) f2 H2)
    rw [e] at hrest
    have := ih hi' hf' (hk.trans hk2) hrest
    exact more (o := o) (l1 := l) hf ⟨o, hio, rfl, .inl ⟨hw, hs⟩⟩ hk2 this
   cases hop : opF P C lo f H with
   | no => rw [hop] at h; cases h
   | ok v H2 => rw [hop] at h; exact key v H2 (.inl hop) h
   | th v H2 =>
     rw [hop] at h
     have h : yY v (fun v => nQ H2 fun H2 => tP d v f fun f2 => rJ P C r ((f, H, v) :: tr0) f2 H2) = .ok tr f1 H1 := h
     rw [xO, lV] at h
     exact key v H2 (.inr hop) h
 | @gcons o os d lo r j t w hd ho hg ht htk hr ih =>
   intro i hi tr0 tr f l H f1 H1 hf hk h
   have hio : ops[i]? = some o := by
    have : (ops.toList.drop i)[0]? = some o := by rw [hi]; rfl
    rw [dH] at this
    simpa using this
   have hi' : ops.toList.drop (i + 1) = os := by rw [← fF, hi]; rfl
   have hwi : Region.wanted o (iV ops l) = isB (nX (kS t) f) w := by
    simp only [Region.wanted, hg]
    rw [xL ht (by rw [hf.1]; exact htk) w, hf.2 t]
   have h : nV (isB (nX (kS t) f) w) (tP d undef f fun f2 => rJ P C r ((f, H, undef) :: tr0) f2 H) (b0D tr0 f H d (rJ P C r) (opF P C lo f H)) = .ok tr f1 H1 := h
   rw [kO] at h
   split at h
   ·rename_i hb
    have key : ∀ v H2, (opF P C lo f H).Is v H2 → (tP d v f fun f2 => rJ P C r ((f, H, v) :: tr0) f2 H2) = .ok tr f1 H1 → ∃ T val l1, T i = (l, H) ∧ T (i + (o :: os).length) = (l1, H1) ∧ FRel k f1 l1 ∧ Noted P k ops H i (o :: os).length T val tr0 tr := by
     intro v H2 hop hrest
     obtain ⟨hs, hk2⟩ := ho C H0 f l H v H2 hC hk hf.2 hop
     obtain ⟨f', e, hf'⟩ := vN hf hd v (fun f2 => rJ P C r ((f, H, v) :: tr0) f2 H2)
     rw [e] at hrest
     exact more (o := o) (l1 := l) hf ⟨o, hio, rfl, .inl ⟨by rw [hwi, hb], hs⟩⟩ hk2 (ih hi' hf' (hk.trans hk2) hrest)
    cases hop : opF P C lo f H with
    | no => rw [hop] at h; cases h
    | ok v H2 => rw [hop] at h; exact key v H2 (.inl hop) h
    | th v H2 =>
      rw [hop] at h
      have h : yY v (fun v => nQ H2 fun H2 => tP d v f fun f2 => rJ P C r ((f, H, v) :: tr0) f2 H2) = .ok tr f1 H1 := h
      rw [xO, lV] at h
      exact key v H2 (.inr hop) h
   ·rename_i hb
    obtain ⟨f', e, hf'⟩ := vN hf hd undef (fun f2 => rJ P C r ((f, H, undef) :: tr0) f2 H)
    rw [e] at h
    exact more (o := o) (l1 := l) hf ⟨o, hio, rfl, .inr ⟨by rw [hwi]; simpa using hb, rfl, rfl⟩⟩ (.refl H) (ih hi' hf' hk h)
theorem b0V {α : Type} (p : α → Bool) (l : List α) : b6A p l = l.all p := by
 induction l with
 | nil => rfl
 | cons x l ih =>
   show nV (p x) false (b6A p l) = _
   rw [kO, ih, fC]
   cases p x <;> rfl
theorem b7e {v : Value} {r : Rs} (h : b7Q v r = true) : ∃ H, r.Is v H := by
 cases r with
 | no => cases h
 | ok w H => exact ⟨H, .inl (by rw [b4f (show veq w v = true from h)])⟩
 | th w H => exact ⟨H, .inr (by rw [b4f (show veq w v = true from h)])⟩
theorem LowTab.get {ops : Array Oper} {tab : List (Nat × Nat)} {t : List (Nat × Option Nat × Option (Pth × Bool) × LOp)} (h : LowTab P ops tab t) {i m : Nat} (hm : (i, m) ∈ tab) : ∃ o lo g, ops[i]? = some o ∧ GOk ops o g ∧ wE P o lo ∧ (ops.size - 1 - i, (if m < ops.size then some (ops.size - 1 - m) else none), g, lo) ∈ t := by
 induction h with
 | nil => cases hm
 | @cons i2 m2 o lo tab t g ho hgd hl hr ih =>
   rcases eA.1 hm with he | hm
   ·injection he with h1 h2
    subst h1 h2
    exact ⟨o, lo, g, ho, hgd, hl, by simp⟩
   ·obtain ⟨o', lo', g', h1, h0, h2, h3⟩ := ih hm
    exact ⟨o', lo', g', h1, h0, h2, eB _ h3⟩
theorem a9I {fl : Fl} {ops : Array Oper} {i m : Nat} (h : (i, m) ∈ mK fl ops) {o : Oper} (ho : ops[i]? = some o) : nN o.op = true := by
 unfold mK at h
 simp only [eC] at h
 obtain ⟨⟨x, j⟩, hx, h⟩ := h
 dsimp only at h
 split at h
 ·rename_i hr
  simp only [dy] at h
  obtain ⟨m', _, e⟩ := h
  injection e with e1 e2
  subst e1
  have := gi.1 hx
  have : ops[j]? = some x := by simpa using this
  rw [this] at ho
  injection ho with ho
  subst ho
  exact hr
 ·cases h
theorem b8l (jZ : P.follows .mixedOrders = true) {k id : Nat} {ops : Array Oper} {C : Calls'} {H : Heap} (hC : CallsOk P C H) {lo : LOps} {tab : List (Nat × Nat)} {t : List (Nat × Option Nat × Option (Pth × Bool) × LOp)} (hlo : LowOps P k ops ops.toList lo) (htab : mX P ops = some tab) (hl : LowTab P ops tab t)
 {f : Fr} {l : List Value} {e : Ex} {f1 : Fr} {H1 : Heap} (hf : FRel k f l) (h : c0w P C t (rJ P C lo [] f H) = .ok e f1 H1) : ∃ l1, e = .normal ∧ FRel k f1 l1 ∧ Sim P (.region id ops true) l H .normal l1 H1 ∧ LK H H1 := by
 cases hr : rJ P C lo [] f H with
 | no => rw [hr] at h; cases h
 | ok tr f2 H2 =>
   rw [hr] at h
   have h : nV (b6A (b3C P C tr H2) t) Rc.no (.ok .normal f2 H2) = .ok e f1 H1 := h
   rw [kO] at h
   split at h
   case isFalse => cases h
   rename_i hall
   injection h with h1 h2 h3
   subst h1 h2 h3
   obtain ⟨T, val, l1, hT0, hTn, hf1, hN⟩ := b6b hC hlo (i := 0) rfl hf (.refl H) hr
   rw [fI, fg] at hTn
   rw [fI] at hN
   have hlk : LK H H2 := by have := hN.lk ops.size (eU _) (by omega); rwa [hTn] at this
   refine ⟨l1, rfl, hf1, ?_, hlk⟩
   have := Sim.draw jZ (id := id) htab (T := T) (val := val) ⟨fun j hj => hN.step j (eU _) (by omega)⟩ ?_
   ·rw [hT0, hTn] at this; exact this
   ·intro i m o hm ho hw
    obtain ⟨o', lo', gd, ho', hgd, hlow, hmem⟩ := hl.get hm
    rw [ho] at ho'
    obtain rfl := cZ ho'
    rw [b0V, dz] at hall
    have hrd := hall _ hmem
    have hi : i < ops.size := (dj.1 ho).1
    obtain ⟨g, hg, hag⟩ := hN.new i (eU _) (by omega)
    have hg : tr[ops.size - 1 - i]? = some (g, (T i).2, val i) := by rw [← hg]; congr 1; omega
    have hread : nN o.op = true := by
     obtain ⟨fl, _, rfl⟩ := qF htab
     exact a9I hm ho
    have fin : ∀ H3, LK H H3 → b7Q (val i) (opF P C lo' g H3) = true → ∃ H4, opD P o (T i).1 H3 = some (val i, H4) := by
     intro H3 hk3 hq
     obtain ⟨H4, h4⟩ := b7e hq
     obtain ⟨hs, _⟩ := hlow C H g (T i).1 H3 (val i) H4 hC hk3 hag h4
     refine ⟨H4, hs.opD fun c fv hc hv => ?_⟩
     rw [hc] at hread
     simp [nN, hv] at hread
    unfold b3C at hrd
    simp only [zC, hg, hgd.runs hag hw] at hrd
    rw [kO, if_pos rfl] at hrd
    by_cases hms : m < ops.size
    ·rw [if_pos hms] at hrd
     obtain ⟨g2, hg2, _⟩ := hN.new m (eU _) (by omega)
     have hg2 : tr[ops.size - 1 - m]? = some (g2, (T m).2, val m) := by rw [← hg2]; congr 1; omega
     simp only [hg2] at hrd
     exact fin _ (hN.lk m (eU _) (by omega)) hrd
    ·rw [if_neg hms] at hrd
     have hle : m = ops.size := by
      obtain ⟨fl, _, rfl⟩ := qF htab
      have := a2b hm
      omega
     subst hle
     have := fin H2 hlk hrd
     rw [hTn]; exact this
def uR (P : Program) : List ResultVar → List LRes → Prop
 | [], [] => True
 | r :: rs, l :: ls => (match r, l with
   | .tmp t, .t p => p = kS t
   | .cell a t, .c1 p => p = kS a ∧ jM P t = some false
   | .cell a t, .cn n p => p = kS a ∧ jM P t = some true ∧ iD P t = some n
   | _, _ => False) ∧ uR P rs ls
 | _, _ => False
theorem b6n {α : Type} (l : List ResultVar) (K : List LRes → α) (no : α) : (∃ r, uR P l r ∧ a0P P l K no = K r) ∨ a0P P l K no = no := by
 induction l generalizing K with
 | nil => exact .inl ⟨[], trivial, rfl⟩
 | cons r l ih =>
   cases r with
   | tmp t =>
     have e : a0P P (.tmp t :: l) K no = lP (kS t) fun p => a0P P l (fun l => K (.t p :: l)) no := rfl
     rw [e, lN]
     rcases ih (fun l => K (.t (kS t) :: l)) with ⟨q, h1, h2⟩ | h2
     ·exact .inl ⟨.t (kS t) :: q, ⟨rfl, h1⟩, h2⟩
     ·exact .inr h2
   | cell a t =>
     have e : a0P P (.cell a t :: l) K no = match jM P t with
      | some true => a2Z (iD P t) no fun n => lP (kS a) fun p => a0P P l (fun l => K (.cn n p :: l)) no
      | some false => lP (kS a) fun p => a0P P l (fun l => K (.c1 p :: l)) no
      | none => no := rfl
     rw [e]
     split
     ·rename_i ha
      cases hn : iD P t with
      | none => exact .inr rfl
      | some n =>
        rw [oY, lN]
        rcases ih (fun l => K (.cn n (kS a) :: l)) with ⟨q, h1, h2⟩ | h2
        ·exact .inl ⟨.cn n (kS a) :: q, ⟨⟨rfl, ha, hn⟩, h1⟩, h2⟩
        ·exact .inr h2
     ·rename_i ha
      rw [lN]
      rcases ih (fun l => K (.c1 (kS a) :: l)) with ⟨q, h1, h2⟩ | h2
      ·exact .inl ⟨.c1 (kS a) :: q, ⟨⟨rfl, ha⟩, h1⟩, h2⟩
      ·exact .inr h2
     ·exact .inr rfl
theorem b1f {H H1 : Heap} {f : Fr} {l : List Value} (hf : FAg f l) {r : ResultVar} {q : LRes} {rs : List ResultVar} {qs : List LRes} (h : uR P (r :: rs) (q :: qs)) {v : Value} (hv : (a3A H f q).Is v H1) : H1 = H ∧ a1j P l H r = some v ∧ uR P rs qs := by
 obtain ⟨h, hr⟩ := h
 cases r with
 | tmp t => cases q with
   | t p =>
     have h : p = kS t := h
     subst h
     have hv : (oK (nX (kS t) f) fun v => Rs.ok v H).Is v H1 := hv
     rw [mU] at hv
     obtain ⟨rfl, rfl⟩ := Rs.aP hv
     exact ⟨rfl, by rw [hf t]; rfl, hr⟩
   | c1 p => exact h.elim
   | cn n p => exact h.elim
 | cell a t => cases q with
   | t p => exact h.elim
   | c1 p =>
     obtain ⟨rfl, ha⟩ := h
     obtain ⟨e, h1⟩ := b1g (P := P) (X := .t (kS a)) (w := get l a) ha (hf a) hv
     exact ⟨e, h1, hr⟩
   | cn n p =>
     obtain ⟨rfl, ha, hn⟩ := h
     obtain ⟨e, h1⟩ := b1e (P := P) (X := .t (kS a)) (w := get l a) ha hn (hf a) hv
     exact ⟨e, h1, hr⟩
theorem b8T {H : Heap} {f : Fr} {q : LRes} {v : Value} {H1 : Heap} : ¬ (a3A H f q = .th v H1) := by
 intro h
 cases q with
 | t p =>
   have h : (oK (nX p f) fun v => Rs.ok v H) = .th v H1 := h
   rw [mU] at h; cases h
 | c1 p =>
   have h : b3j (.t p) f H = .th v H1 := h
   unfold b3j at h
   split at h
   ·unfold b7P at h
    split at h
    ·rw [kO, kO, kO] at h
     split at h
     ·split at h
      ·split at h
       ·rename_i cs _ _ _ _ _ _ _ _
        cases hn : a0W cs _ with
        | none => rw [hn] at h; cases h
        | some w => rw [hn] at h; have h : (oK w fun v => Rs.ok v H) = .th v H1 := h; rw [mU] at h; cases h
       ·cases h
      ·cases h
     ·cases h
    ·cases h
   ·unfold c1C at h
    split at h
    ·rw [kO] at h
     split at h
     ·rename_i cs _ _ _ _
      cases hn : a0W cs _ with
      | none => rw [hn] at h; cases h
      | some w => rw [hn] at h; have h : (oK w fun v => Rs.ok v H) = .th v H1 := h; rw [mU] at h; cases h
     ·cases h
    ·cases h
   ·cases h
 | cn n p =>
   have hh : b2u n (.t p) f H = .th v H1 := h
   unfold b2u at hh
   split at hh
   ·unfold b8P at hh
    split at hh
    ·rw [kO, kO, kO] at hh
     split at hh
     ·split at hh
      ·split at hh
       ·have key : ∀ {cs : List Value} {n : Nat} {pre : List Value}, ¬ (a1S cs n fun l => Rs.ok (.agg ⟨pre ++ l⟩) H) = .th v H1 := by
         intro cs
         induction cs with
         | nil => intro n pre h; cases n <;> cases h
         | cons c cs ih =>
           intro n pre h
           cases n with
           | zero => cases h
           | succ n =>
             have h : (a1S cs n fun l => Rs.ok (.agg ⟨pre ++ (c :: l)⟩) H) = .th v H1 := h
             have e : ∀ l : List Value, pre ++ (c :: l) = (pre ++ [c]) ++ l := by intro l; simp
             have h2 : (a1S cs n fun l => Rs.ok (.agg ⟨(pre ++ [c]) ++ l⟩) H) = .th v H1 := by
              rw [← h]; congr 1; funext l; rw [e l]
             exact ih h2
        exact key (pre := []) hh
       ·cases hh
      ·cases hh
     ·cases hh
    ·cases hh
   ·cases hh
theorem a7D {H H1 : Heap} {f : Fr} {l : List Value} (hf : FAg f l) {v : Value} : ∀ {rs : List ResultVar} {qs : List LRes} {K : List Value → Rs}, uR P rs qs → (b6e H f qs K).Is v H1 → ∃ vs, nG P l H rs = some vs ∧ (K vs).Is v H1
 | [], [], K, _, h => ⟨[], rfl, h⟩
 | [], _ :: _, _, h, _ => h.elim
 | _ :: _, [], _, h, _ => h.elim
 | r :: rs, q :: qs, K, hl, h => by
   have h : (Rs.rec (motive := fun _ => Rs) .no (fun v _ => b6e H f qs fun l => K (v :: l)) (fun _ _ => .no) (a3A H f q)).Is v H1 := h
   cases hq : a3A H f q with
   | no => rw [hq] at h; exact absurd h Rs.ar
   | th w H2 => exact absurd hq b8T
   | ok w H2 =>
     rw [hq] at h
     obtain ⟨e, h1, h2⟩ := b1f hf hl (.inl hq)
     obtain ⟨vs, h3, h4⟩ := a7D hf h2 h
     exact ⟨w :: vs, by simp [nG, h1, h3], h4⟩
theorem b6l {fn : Func} {H H1 : Heap} {f : Fr} {l : List Value} (hf : FAg f l) {qs : List LRes} (hl : uR P fn.results.toList qs) {v : Value} (h : (a7G qs f H).Is v H1) : H1 = H ∧ iC P fn l H = some v := by
 unfold a7G at h
 split at h
 ·rename_i q
  cases hr : fn.results.toList with
  | nil => rw [hr] at hl; exact hl.elim
  | cons r rs =>
    rw [hr] at hl
    obtain ⟨e, h1, h2⟩ := b1f hf hl h
    cases rs with
    | cons _ _ => exact h2.elim
    | nil => exact ⟨e, by simp [iC, hr, nG, h1]⟩
 ·rename_i hne
  obtain ⟨vs, h1, h2⟩ := a7D hf hl h
  obtain ⟨h3, h4⟩ := lF h2
  obtain ⟨rfl, rfl⟩ := Rs.aP h4
  refine ⟨rfl, ?_⟩
  have hlen : ∀ {rs : List ResultVar} {qs : List LRes}, uR P rs qs → rs.length = qs.length := by
   intro rs
   induction rs with
   | nil => intro qs h; cases qs with | nil => rfl | cons => exact h.elim
   | cons r rs ih => intro qs h; cases qs with | nil => exact h.elim | cons q qs => simp [ih h.2]
  have hvl : ∀ {rs : List ResultVar} {vs : List Value}, nG P l H1 rs = some vs → vs.length = rs.length := by
   intro rs
   induction rs with
   | nil => intro vs h; injection h with h; subst h; rfl
   | cons r rs ih =>
     intro vs h
     simp only [nG, db, dp] at h
     obtain ⟨w, _, ws, h1, h2⟩ := h
     subst h2
     simp [ih h1]
  have hn1 : vs.length ≠ 1 := by
   rw [hvl h1, hlen hl]
   intro h1
   match qs, h1 with
   | [q], _ => exact hne q rfl
  unfold iC
  rw [h1, da]
  rw [b0V] at h3
  have h3 : vs.all jQ = true := by rw [← h3]; congr 1
  split
  ·exact absurd rfl hn1
  ·rw [if_pos h3]
structure FuncOk (P : Program) (f : FuncId) (g : LFunc) : Prop where
 ex : ∃ fn c, P.funcs[f]? = some fn ∧ fn.body = some c ∧ (fn.name == "runtime.NumGoroutine") = false ∧ g.ps = (List.range fn.ntmps).map kS ∧ Low P fn.ntmps c g.body ∧ uR P fn.results.toList g.res
def TOk (P : Program) (T : LT) : Prop := ∀ f g, a1w (kS f) T = some g → FuncOk P f g
def EOk (P : Program) (E : List LEnv) (H : Heap) : Prop := ∀ en ∈ E, en.L < H.length ∧ ∀ r, iP H en.L = some (.loop r) →
 ∃ k, en.ps = (List.range k).map kS ∧ r.tmps.size = k ∧ en.pp = r.params.toList.map kS ∧ (∀ t ∈ r.params.toList, t < k) ∧ Low P k r.assign en.a ∧ Low P k r.body en.b
theorem EOk.ab {E : List LEnv} {H H' : Heap} (h : EOk P E H) (hk : LK H H') : EOk P E H' := fun en hen => by
 obtain ⟨h1, h2⟩ := h en hen
 refine ⟨dO h1 hk.1, fun r' hr' => ?_⟩
 obtain ⟨r, hr, ea, eb, ep, et⟩ := hk.2 en.L r' h1 hr'
 obtain ⟨k, a, b, c, d, e, f⟩ := h2 r hr
 exact ⟨k, a, by rw [et]; exact b, by rw [ep]; exact c, by rw [ep]; exact d, by rw [ea]; exact e, by rw [eb]; exact f⟩
def a4v (P : Program) (ih : qB) : Prop := ∀ (E : List LEnv) (C : LCode) (k : Nat) (c : Code) (f : Fr) (l : List Value) (H : Heap) (e : Ex) (f1 : Fr) (H1 : Heap), Low P k c C → FRel k f l → EOk P E H → ih E C f H = .ok e f1 H1 →
 ∃ l1, FRel k f1 l1 ∧ Sim P c l H e l1 H1 ∧ LK H H1 ∧ ∀ b, c = .loop b → ∃ n, Rounds P b n l H e l1 H1
theorem zK {α : Type} {no : α} : ∀ {l : List Value} {i m : Nat} {f : Fr} {K : Fr → α}, (pB no l ((List.range' i m).map kS) f K = no) ∨ (l.length ≤ m ∧ ∃ f', pB no l ((List.range' i m).map kS) f K = K f' ∧ ∀ t, nX (kS t) f' = if i ≤ t ∧ t < i + l.length then get l (t - i) else nX (kS t) f)
 | [], i, m, f, K => .inr ⟨eU _, f, rfl, fun t => by rw [if_neg (by simp only [ey]; omega)]⟩
 | v :: l, i, 0, f, K => .inl rfl
 | v :: l, i, m + 1, f, K => by
   have e : pB no (v :: l) ((List.range' i (m + 1)).map kS) f K = pV v (kS i) f fun f => pB no l ((List.range' (i + 1) m).map kS) f K := by
    rw [gC]; rfl
   rw [e, sV]
   rcases zK (l := l) (i := i + 1) (m := m) (f := b6d f i v) (K := K) with h | ⟨h1, f', h2, h3⟩
   ·exact .inl h
   ·refine .inr ⟨by simp; omega, f', h2, fun t => ?_⟩
    rw [h3 t, a3Y]
    by_cases ht : t = i
    ·subst ht
     rw [if_neg (by omega), if_pos rfl, if_pos (by simp), gF]; rfl
    ·rw [if_neg ht]
     by_cases h4 : i + 1 ≤ t ∧ t < i + 1 + l.length
     ·rw [if_pos h4, if_pos (by simp; omega)]
      rw [show t - i = (t - (i + 1)) + 1 by omega]; rfl
     ·rw [if_neg h4, if_neg (by simp; omega)]
theorem wH {α : Type} {no : α} {k : Nat} : ∀ {args : List Value} {ps : List Tmp} {f : Fr} {l : List Value} {K : Fr → α}, FRel k f l → (∀ t ∈ ps, t < k) → args.length = ps.length →
 ∃ f', pB no args (ps.map kS) f K = K f' ∧ FRel k f' ((ps.zip args).foldl (fun t (p, v) => t.set p v) l)
 | [], [], f, l, K, hf, _, _ => ⟨f, rfl, hf⟩
 | v :: args, p :: ps, f, l, K, hf, hp, he => by
   have e : pB no (v :: args) ((p :: ps).map kS) f K = pV v (kS p) f fun f => pB no args (ps.map kS) f K := rfl
   rw [e, sV]
   exact wH (hf.set (hp p (by simp)) v) (fun t ht => hp t (by simp [ht])) (by simpa using he)
 | [], _ :: _, _, _, _, _, _, he => by simp at he
 | _ :: _, [], _, _, _, _, _, he => by simp at he
theorem a0d (l : List Value) (n t : Nat) : get (l ++ List.replicate n undef) t = get l t := by
 rw [oE, oE]
 simp only [dg]
 by_cases h : t < l.length
 ·rw [eL h]
 ·rw [dZ (by omega), eu (l := l) (by omega), gW]
  split <;> rfl
theorem zY {T : LT} (hT : TOk P T) {ih : qB} (hih : a4v P ih) {E : List LEnv} {p : Pth} {f : FuncId} {args : List Value} {H H1 : Heap} {v : Value} (hE : EOk P E H) (hp : p = kS f) (h : (nZ T ih E p args H).Is v H1) :
 FnS P f args H (fun v' H' => v' = v ∧ H' = H1) ∧ LK H H1 := by
 unfold nZ at h
 split at h
 case h_2 => exact absurd h Rs.ar
 rename_i g hg
 subst hp
 obtain ⟨fn, c, hfn, hb, hn, hps, hlow, hres⟩ := (hT f g hg).ex
 rw [hps] at h
 rw [fP] at h
 rcases zK (no := Rs.no) (l := args) (i := 0) (m := fn.ntmps) (f := .e) (K := fun f => c2q g.res (ih E g.body f H)) with h1 | ⟨h1, f0, h2, h3⟩
 ·rw [h1] at h; exact absurd h Rs.ar
 ·rw [h2] at h
  have hf0 : FRel fn.ntmps f0 (args ++ List.replicate (fn.ntmps - args.length) undef) := by
   refine ⟨by simp; omega, fun t => ?_⟩
   rw [h3 t, a0d]
   by_cases ht : t < args.length
   ·rw [if_pos (by omega)]; rfl
   ·rw [if_neg (by omega), tT, oE, dg, eu (by omega)]; try rfl
  cases hr : ih E g.body f0 H with
  | no => rw [hr] at h; exact absurd h Rs.ar
  | ok e f1 H2 =>
    rw [hr] at h
    obtain ⟨l1, hf1, hs, hk, _⟩ := hih E g.body fn.ntmps c f0 _ H e f1 H2 hlow hf0 hE hr
    have key : (e = .normal ∨ e = .ret) → (a7G g.res f1 H2).Is v H1 → FnS P f args H (fun v' H' => v' = v ∧ H' = H1) ∧ LK H H1 := by
     intro he hv
     obtain ⟨rfl, hv⟩ := b6l hf1.2 hres hv
     exact ⟨⟨fn, c, e, l1, H1, v, hfn, hb, hn, hs, he, hv, rfl, rfl⟩, hk⟩
    cases e with
    | normal => exact key (.inl rfl) h
    | ret => exact key (.inr rfl) h
    | exit id => exact absurd h Rs.ar
theorem b3G {T : LT} (hT : TOk P T) {ih : qB} (hih : a4v P ih) {E : List LEnv} {p : Pth} {f : FuncId} {args : List Value} {H H1 : Heap} {v : Value} (hE : EOk P E H) (hp : p = kS f) (h : (b4A P T ih E p f args H).Is v H1) :
 (FnS P f args H (fun v' H' => v' = v ∧ H' = H1) ∨ qE P f args H = some (v, H1)) ∧ LK H H1 := by
 unfold b4A at h
 cases hg : a1w p T with
 | some g =>
   rw [hg] at h
   obtain ⟨a, b⟩ := zY (H1 := H1) (v := v) hT hih hE hp (by unfold nZ; rw [hg]; exact h)
   exact ⟨.inl a, b⟩
 | none =>
   rw [hg] at h
   have h : (c1O P f args H).Is v H1 := h
   unfold c1O at h
   split at h
   ·rename_i v2 H2 hx
    obtain ⟨rfl, rfl⟩ := Rs.aS h
    exact ⟨.inr hx, a5g hx⟩
   ·exact absurd h Rs.ar
theorem b0b {E : List LEnv} {L : Nat} {en : LEnv} (h : b5Q E L = some en) : en ∈ E ∧ en.L = L := by
 induction E with
 | nil => cases h
 | cons e E ih =>
   have h : nV (Nat.beq e.L L) (b5Q E L) (some e) = some en := h
   rw [kO] at h
   split at h
   ·rename_i hh
    injection h with h
    subst h
    exact ⟨by simp, dV hh⟩
   ·obtain ⟨h1, h2⟩ := ih h
    exact ⟨eB _ h1, h2⟩
theorem a6n (e : Ex) : c0b e = rN e := by cases e <;> rfl
theorem b2R {ih : qB} (hih : a4v P ih) {E : List LEnv} {L : Nat} {args : List Value} {H H1 : Heap} {v : Value} (hE : EOk P E H) (h : (a9n ih E L args H).Is v H1) : xU P L args H v H1 ∧ LK H H1 := by
 unfold a9n at h
 split at h
 case h_2 => exact absurd h Rs.ar
 rename_i en hen
 obtain ⟨hmem, rfl⟩ := b0b hen
 split at h
 case h_2 => exact absurd h Rs.ar
 rename_i p fn tmps ps a b d hg
 obtain ⟨hlen, h⟩ := lF h
 rw [yJ] at hlen
 have hlen : ps.size = args.length := by simpa only [decide_eq_true_eq] using hlen
 obtain ⟨k, hps, hsz, hpp, hpk, hla, hlb⟩ := (hE en hmem).2 _ hg
 have hsz : tmps.length = k := by simpa using hsz
 rw [hps, fP] at h
 rcases zK (no := Rs.no) (l := tmps) (i := 0) (m := k) (f := .e) (K := fun f => pB .no args en.pp f fun f => sQ ih E en (ih E en.a f H)) with h1 | ⟨h1, f0, h2, h3⟩
 ·rw [h1] at h; exact absurd h Rs.ar
 rw [h2] at h
 have hf0 : FRel k f0 tmps := by
  refine ⟨hsz, fun t => ?_⟩
  rw [h3 t]
  by_cases ht : t < tmps.length
  ·rw [if_pos (by omega)]; rfl
  ·rw [if_neg (by omega), tT, oE, dg, eu (by omega)]; try rfl
 rw [hpp] at h
 obtain ⟨f2, h4, hf2⟩ := wH (no := Rs.no) (args := args) (ps := ps.toList) (K := fun f => sQ ih E en (ih E en.a f H)) hf0 hpk (by simpa using hlen.symm)
 have h : (pB Rs.no args (List.map kS ps.toList) f0 fun f => sQ ih E en (ih E en.a f H)).Is v H1 := h
 rw [h4] at h
 cases hr1 : ih E en.a f2 H with
 | no => rw [hr1] at h; exact absurd h Rs.ar
 | ok e f3 H2 =>
   rw [hr1] at h
   obtain ⟨l3, hf3, hs1, hk1, _⟩ := hih E en.a k a f2 _ H e f3 H2 hla hf2 hE hr1
   cases e with
   | ret => exact absurd h Rs.ar
   | exit id => exact absurd h Rs.ar
   | normal =>
     have h : (zR ih E en f3 H2).Is v H1 := h
     unfold zR at h
     split at h
     case h_2 => exact absurd h Rs.ar
     rename_i p2 fn2 tmps2 ps2 a2 b2 d2 hg2
     rw [lV] at h
     obtain ⟨r0, hr0, ea, eb, ep, et⟩ := hk1.2 en.L _ (hE en hmem).1 hg2
     rw [hg] at hr0
     injection hr0 with hr0
     injection hr0 with hr0
     subst hr0
     have ea' : a2 = a := ea
     have eb' : b2 = b := eb
     have ep' : ps2 = ps := ep
     have et' : tmps2 = ⟨tmps⟩ := et
     clear ea eb ep et
     subst ea' eb' ep' et'
     have hk2 : LK H2 (hset H2 en.L (.loop ⟨.busy, p2, fn2, ⟨tmps⟩, ps2, a2, b2, d2⟩)) := .loop hg2 ⟨rfl, rfl, rfl, rfl⟩
     cases hr2 : ih E en.b f3 (hset H2 en.L (.loop ⟨.busy, p2, fn2, ⟨tmps⟩, ps2, a2, b2, d2⟩)) with
     | no => rw [hr2] at h; exact absurd h Rs.ar
     | ok e f4 H3 =>
       rw [hr2] at h
       obtain ⟨l4, _, hs2, hk3, _⟩ := hih E en.b k b2 f3 _ _ e f4 H3 hlb hf3 (hE.ab (hk1.trans hk2)) hr2
       have h : (a2E en.L e H3).Is v H1 := h
       unfold a2E at h
       split at h
       case h_2 => exact absurd h Rs.ar
       rename_i st3 p3 fn3 tmps3 ps3 a3 b3 d3 hg3
       have fin : ∀ r', H1 = hset H3 en.L (.loop r') → (r' = { (⟨st3, p3, fn3, tmps3, ps3, a3, b3, d3⟩ : Loop) with state := if (rN e).isNone then .ready else .done, pending := rN e }) → v = .bool (rN e).isNone → xU P en.L args H v H1 ∧ LK H H1 := by
        intro r' hH hr' hv
        refine ⟨?_, hk1.trans (hk2.trans (hk3.trans (by rw [hH]; exact .loop hg3 (by rw [hr']; exact ⟨rfl, rfl, rfl, rfl⟩))))⟩
        have hW := mS (P := P) (args := args) (K := fun v' H' => v' = v ∧ H' = H1) hg hlen rfl
         ⟨.normal, l3, H2, hs1, rfl, _, hg2, rfl, e, l4, H3, hs2, _, hg3, hv.symm, by rw [hH, hr']⟩
        obtain ⟨v', H', h1, rfl, rfl⟩ := hW
        exact h1
       split at h
       ·rename_i hj
        obtain ⟨rfl, rfl⟩ := Rs.aS h
        rw [a6n] at hj
        exact fin _ rfl (by rw [hj]; rfl) (by rw [hj]; rfl)
       ·rename_i c hj
        obtain ⟨rfl, rfl⟩ := Rs.aS h
        rw [a6n] at hj
        exact fin _ rfl (by rw [hj]; rfl) (by rw [hj]; rfl)
theorem a4b {T : LT} (hT : TOk P T) {ih : qB} (hih : a4v P ih) {E : List LEnv} {H0 : Heap} (hE : EOk P E H0) : CallsOk P (zM P T ih E) H0 where
 fn p f args H v H1 hk h hp := b3G hT hih (hE.ab hk) hp h
 rd L args H v H1 hk h := b2R hih (hE.ab hk) h
theorem c0V {α : Type} {f : Fr} {l : List Value} (hf : FAg f l) (i m : Nat) (K : List Value → α) : frL f ((List.range' i m).map kS) K = K ((List.range' i m).map (get l)) := by
 induction m generalizing i K with
 | zero => rfl
 | succ m ih =>
   have e : frL f ((List.range' i (m + 1)).map kS) K = oK (nX (kS i) f) fun v => frL f ((List.range' (i + 1) m).map kS) fun l => K (v :: l) := by
    rw [gC]; rfl
   rw [e, mU, ih, hf i, gC]; rfl
theorem b7c {α : Type} {k : Nat} {f : Fr} {l : List Value} (hf : FRel k f l) (K : List Value → α) : frL f ((List.range k).map kS) K = K l := by
 rw [fP, c0V hf.2, ← fP]
 congr 1
 apply gr
 intro i
 rw [eh]
 by_cases hi : i < k
 ·rw [List.getElem?_range hi, dP, oE, dg]
  have : i < l.length := by rw [hf.1]; exact hi
  simp [dx this]
 ·rw [eu (by simp; omega), eu (by rw [hf.1]; omega)]; rfl
theorem b1X {T : LT} (hT : TOk P T) {ih : qB} (hih : a4v P ih) {E : List LEnv} {k : Nat} {g : Operand} {ps : Array Tmp} {assign body : Code} {A B : LCode} (hg : iT g = true) (hps : ∀ t ∈ ps.toList, t < k) (ha : Low P k assign A) (hb : Low P k body B)
 {x1 x2 : Fr → Heap → Rc} {f : Fr} {l : List Value} {H : Heap} {e : Ex} {f1 : Fr} {H1 : Heap} (hf : FRel k f l) (hE : EOk P E H) (h : a8M T ih E (iW g) ((List.range k).map kS) (ps.toList.map kS) ps assign body A B x1 x2 f H = .ok e f1 H1) :
 f1 = f ∧ Sim P (.rangeFunc g ps assign body) l H e l H1 ∧ LK H H1 := by
 unfold a8M at h
 rw [jS hf.2] at h
 split at h
 case h_2 => cases h
 rename_i j xa xb hgv
 rw [jW, b7c hf, lV, jW] at h
 unfold b1i at h
 rw [lN] at h
 generalize hH0 : H.cons (.loop ⟨.ready, none, 0, ⟨l⟩, ps, assign, body, 0⟩) = H0 at h
 have hl0 : (⟨.ready, none, 0, ⟨l⟩, ps, assign, body, 0⟩ : Loop) = b0U l ps assign body := rfl
 have hE0 : EOk P (⟨H.length, (List.range k).map kS, ps.toList.map kS, A, B⟩ :: E) H0 := by
  intro en hen
  rcases eA.1 hen with rfl | hen
  ·refine ⟨by rw [← hH0, length_cons]; exact Nat.lt_succ_self _, fun r hr => ?_⟩
   rw [← hH0, iQ] at hr
   injection hr with hr
   injection hr with hr
   subst hr
   exact ⟨k, rfl, by simpa using hf.1, rfl, hps, ha, hb⟩
  ·exact (hE.ab (by rw [← hH0]; exact .cons _ _)) en hen
 have key : ∀ v H2, (nZ T ih (⟨H.length, (List.range k).map kS, ps.toList.map kS, A, B⟩ :: E) (kS j) (a5u xa (.func (.yield H.length) #[] #[] :: xb)) H0).Is v H2 → uB H.length f H2 = .ok e f1 H1 → f1 = f ∧ Sim P (.rangeFunc g ps assign body) l H e l H1 ∧ LK H H1 := by
  intro v H2 hc hr
  obtain ⟨hfn, hk⟩ := zY hT hih hE0 rfl hc
  have hargs : a5u xa (.func (.yield H.length) #[] #[] :: xb) = xa ++ [.func (.yield H.length) #[] #[]] ++ xb := by rw [zA]; simp
  rw [hargs, ← hH0, hl0] at hfn
  have fin : ∀ (r : Loop) (H3 : Heap), iP H2 H.length = some (.loop r) → r.state ≠ .busy → H3 = hset H2 H.length (.loop { r with state := .exhausted }) → (r.pending = none → e = .normal) → (∀ c, r.pending = some c → (c = .ret ∧ e = .ret) ∨ ∃ id, c = .exit id ∧ e = .exit id) → f1 = f → H1 = H3 →
   f1 = f ∧ Sim P (.rangeFunc g ps assign body) l H e l H1 ∧ LK H H1 := by
   intro r H3 hrl hnb hH3 hp0 hp1 he1 he2
   have hw : Wp P (.rangeFunc g ps assign body) l H (fun e' l' H' => e' = e ∧ l' = l ∧ H' = H3) := by
    refine Wp.range (first := xa) (captured := xb) hg (by rw [hgv]) (hfn.mono ?_)
    rintro v' H' ⟨rfl, rfl⟩
    refine ⟨r, hrl, hnb, fun hp => ⟨(hp0 hp).symm, rfl, hH3.symm⟩, fun c hc => ?_⟩
    rcases hp1 c hc with ⟨rfl, he⟩ | ⟨id, rfl, he⟩
    ·exact Wp.ret ⟨he.symm, rfl, hH3.symm⟩
    ·exact Wp.exit ⟨he.symm, rfl, hH3.symm⟩
   obtain ⟨e', l', H', hs, rfl, rfl, rfl⟩ := hw
   refine ⟨he1, by rw [he2]; exact hs, ?_⟩
   rw [he2, hH3]
   have h1 : LK H H0 := by rw [← hH0]; exact .cons _ _
   exact h1.trans (hk.trans (.loop hrl ⟨rfl, rfl, rfl, rfl⟩))
  unfold uB at hr
  split at hr
  ·rename_i hg2
   rw [lV] at hr
   injection hr with h1 h2 h3
   exact fin _ _ hg2 (by simp) rfl (fun _ => h1.symm) (fun c hc => by cases hc) h2.symm h3.symm
  ·rename_i hg2
   rw [lV] at hr
   injection hr with h1 h2 h3
   exact fin _ _ hg2 (by simp) rfl (fun _ => h1.symm) (fun c hc => by cases hc) h2.symm h3.symm
  ·rename_i hg2
   rw [lV] at hr
   injection hr with h1 h2 h3
   exact fin _ _ hg2 (by simp) rfl (fun hc => by cases hc) (fun c hc => by injection hc with hc; subst hc; exact .inl ⟨rfl, h1.symm⟩) h2.symm h3.symm
  ·rename_i hg2
   rw [lV] at hr
   injection hr with h1 h2 h3
   exact fin _ _ hg2 (by simp) rfl (fun hc => by cases hc) (fun c hc => by injection hc with hc; subst hc; exact .inr ⟨_, rfl, h1.symm⟩) h2.symm h3.symm
  ·cases hr
 cases hc : nZ T ih (⟨H.length, (List.range k).map kS, ps.toList.map kS, A, B⟩ :: E) (kS j) (a5u xa (.func (.yield H.length) #[] #[] :: xb)) H0 with
 | no => rw [hc] at h; cases h
 | ok v H2 => rw [hc] at h; exact key v H2 (.inl hc) h
 | th v H2 =>
   rw [hc] at h
   have h : nQ H2 (fun H => uB _ f H) = .ok e f1 H1 := h
   rw [lV] at h
   exact key v H2 (.inr hc) h
theorem c0R (jZ : P.follows .mixedOrders = true) {T : LT} (hT : TOk P T) : ∀ n, a4v P (exF P T n) := by
 intro n
 induction n with
 | zero => intro E C k c f l H e f1 H1 _ _ _ h; cases h
 | succ n ih =>
   intro E C k c f l H e f1 H1 hlow hf hE h
   have h : b1k P T (exF P T n) E C f H = .ok e f1 H1 := h
   have noloop : ∀ {c : Code}, (∀ b, c ≠ .loop b) → ∀ {l1 : List Value}, ∀ b, c = .loop b → ∃ n, Rounds P b n l H e l1 H1 := fun hne _ b hb => absurd hb (hne b)
   cases hlow with
   | bad => cases h
   | skip =>
     injection h with h1 h2 h3; subst h1 h2 h3
     exact ⟨l, hf, .skip l H, .refl H, noloop (by intro b h; cases h)⟩
   | label t =>
     injection h with h1 h2 h3; subst h1 h2 h3
     exact ⟨l, hf, .label t l H, .refl H, noloop (by intro b h; cases h)⟩
   | exit id =>
     injection h with h1 h2 h3; subst h1 h2 h3
     exact ⟨l, hf, .exit id l H, .refl H, noloop (by intro b h; cases h)⟩
   | ret =>
     injection h with h1 h2 h3; subst h1 h2 h3
     exact ⟨l, hf, .ret l H, .refl H, noloop (by intro b h; cases h)⟩
   | @reg id ops d lo hlo hd =>
     have h : c3a (xK P (zM P T (exF P T n) E) lo f H) = .ok e f1 H1 := h
     cases hr : xK P (zM P T (exF P T n) E) lo f H with
     | no => rw [hr] at h; cases h
     | ok f2 H2 =>
       rw [hr] at h
       injection h with h1 h2 h3; subst h1 h2 h3
       obtain ⟨l1, hf1, hops, hk⟩ := b8W (a4b hT ih hE) hlo (i := 0) rfl hf (.refl H) hr
       have hops : OpsR P ops (List.range ops.size) l H l1 H2 := by rw [fP]; simpa using hops
       refine ⟨l1, hf1, ?_, hk, noloop (by intro b h; cases h)⟩
       cases d with
       | false => exact .region hops
       | true => exact .bY jZ (hd rfl) hops
   | drw hlo ht hl =>
     obtain ⟨l1, rfl, hf1, hs, hk⟩ := b8l jZ (a4b hT ih hE) hlo ht hl hf h
     exact ⟨l1, hf1, hs, hk, noloop (by intro b h; cases h)⟩
   | @seq a b A B ha hb =>
     have h : b9i (exF P T n) E B (exF P T n E A f H) = .ok e f1 H1 := h
     cases hr : exF P T n E A f H with
     | no => rw [hr] at h; cases h
     | ok e2 f2 H2 =>
       rw [hr] at h
       obtain ⟨l2, hf2, hs, hk, _⟩ := ih E A k a f l H e2 f2 H2 ha hf hE hr
       cases e2 with
       | normal =>
         obtain ⟨l1, hf1, hs1, hk1, _⟩ := ih E B k b f2 l2 H2 e f1 H1 hb hf2 (hE.ab hk) h
         exact ⟨l1, hf1, .seq hs hs1, hk.trans hk1, noloop (by intro b h; cases h)⟩
       | ret =>
         injection h with h1 h2 h3; subst h1 h2 h3
         exact ⟨l2, hf2, .seq' hs (by intro h; cases h), hk, noloop (by intro b h; cases h)⟩
       | exit id =>
         injection h with h1 h2 h3; subst h1 h2 h3
         exact ⟨l2, hf2, .seq' hs (by intro h; cases h), hk, noloop (by intro b h; cases h)⟩
   | @cond c x y X Y hc hx hy =>
     have h : b5M (exF P T n) E (iW c) X Y (b1k P T (exF P T n) E X) (b1k P T (exF P T n) E Y) f H = .ok e f1 H1 := h
     unfold b5M at h
     rw [jS hf.2] at h
     split at h
     ·rename_i t ht
      cases t with
      | true =>
        obtain ⟨l1, hf1, hs, hk, _⟩ := ih E X k x f l H e f1 H1 hx hf hE h
        exact ⟨l1, hf1, .cond ht hc hs, hk, noloop (by intro b h; cases h)⟩
      | false =>
        obtain ⟨l1, hf1, hs, hk, _⟩ := ih E Y k y f l H e f1 H1 hy hf hE h
        exact ⟨l1, hf1, .cond ht hc hs, hk, noloop (by intro b h; cases h)⟩
     ·cases h
   | @block id b B hb =>
     have h : c3m id (exF P T n E B f H) = .ok e f1 H1 := h
     cases hr : exF P T n E B f H with
     | no => rw [hr] at h; cases h
     | ok e2 f2 H2 =>
       rw [hr] at h
       obtain ⟨l2, hf2, hs, hk, _⟩ := ih E B k b f l H e2 f2 H2 hb hf hE hr
       have hs' : Sim P (.block id b) l H (e2.out id) l2 H2 := .block hs
       cases e2 with
       | normal => injection h with h1 h2 h3; subst h1 h2 h3; exact ⟨l2, hf2, hs', hk, noloop (by intro b h; cases h)⟩
       | ret => injection h with h1 h2 h3; subst h1 h2 h3; exact ⟨l2, hf2, hs', hk, noloop (by intro b h; cases h)⟩
       | exit i =>
         have h : Rc.ok (Bool.rec (motive := fun _ => Ex) (.exit i) .normal (Nat.beq i id)) f2 H2 = .ok e f1 H1 := h
         injection h with h1 h2 h3; subst h2 h3
         have : (Ex.exit i).out id = e := by
          rw [← h1]
          by_cases hi : i = id
          ·subst hi; simp [Ex.out]
          ·have : Nat.beq i id = false := fX.2 fun e => hi (dV e)
           simp [Ex.out, hi, this]
         rw [this] at hs'
         exact ⟨l2, hf2, hs', hk, noloop (by intro b h; cases h)⟩
   | @loop b B hb =>
     have h : b9i (exF P T n) E (.loop B) (exF P T n E B f H) = .ok e f1 H1 := h
     cases hr : exF P T n E B f H with
     | no => rw [hr] at h; cases h
     | ok e2 f2 H2 =>
       rw [hr] at h
       obtain ⟨l2, hf2, hs, hk, _⟩ := ih E B k b f l H e2 f2 H2 hb hf hE hr
       have last : e2 ≠ .normal → e2 = e → f2 = f1 → H2 = H1 → ∃ l1, FRel k f1 l1 ∧ Sim P (.loop b) l H e l1 H1 ∧ LK H H1 ∧ ∀ b', Code.loop b = .loop b' → ∃ n, Rounds P b' n l H e l1 H1 := by
        intro hne h1 h2 h3
        subst h1 h2 h3
        have hr : Rounds P b 1 l H e2 l2 H2 := .last hs hne
        exact ⟨l2, hf2, .loop hr, hk, fun b' hb' => by injection hb' with hb'; subst hb'; exact ⟨1, hr⟩⟩
       cases e2 with
       | normal =>
         obtain ⟨l1, hf1, hs1, hk1, hro⟩ := ih E (.loop B) k (.loop b) f2 l2 H2 e f1 H1 (.loop hb) hf2 (hE.ab hk) h
         obtain ⟨m, hm⟩ := hro b rfl
         have hr : Rounds P b (m + 1) l H e l1 H1 := .more hs hm
         exact ⟨l1, hf1, .loop hr, hk.trans hk1, fun b' hb' => by injection hb' with hb'; subst hb'; exact ⟨_, hr⟩⟩
       | ret => injection h with h1 h2 h3; exact last (by intro h; cases h) h1 h2 h3
       | exit id => injection h with h1 h2 h3; exact last (by intro h; cases h) h1 h2 h3
   | range hg hps ha hb =>
     obtain ⟨rfl, hs, hk⟩ := b1X (x1 := fun _ _ => .no) (x2 := fun _ _ => .no) hT ih hg hps ha hb hf hE h
     exact ⟨l, hf, hs, hk, noloop (by intro b h; cases h)⟩
theorem zH {α : Type} (v : LFunc) (p : Pth) (f : LT) (K : LT → α) : rW v p f K = K (rW v p f fun f => f) := by
 induction p generalizing f α with
 | z => cases f <;> rfl
 | l p ih =>
   cases f with
   | e =>
     show rW v p .e (fun l => K (.n none l .e)) = K (rW v p .e fun l => .n none l .e)
     rw [ih, ih (K := fun l => LT.n none l .e)]
   | n w l r =>
     show rW v p l (fun l => K (.n w l r)) = K (rW v p l fun l => .n w l r)
     rw [ih, ih (K := fun l => LT.n w l r)]
 | r p ih =>
   cases f with
   | e =>
     show rW v p .e (fun l => K (.n none .e l)) = K (rW v p .e fun l => .n none .e l)
     rw [ih, ih (K := fun l => LT.n none .e l)]
   | n w l r =>
     show rW v p r (fun r => K (.n w l r)) = K (rW v p r fun r => .n w l r)
     rw [ih, ih (K := fun r => LT.n w l r)]
theorem wX (p : Pth) : a1w p .e = none := by cases p <;> rfl
theorem b2k (v : LFunc) (p q : Pth) (f : LT) {g : LFunc} (h : a1w q (rW v p f fun f => f) = some g) : (q = p ∧ g = v) ∨ a1w q f = some g := by
 induction p generalizing f q with
 | z =>
   cases q with
   | z => left; refine ⟨rfl, ?_⟩; cases f <;> (injection h with h; exact h.symm)
   | l q => right; cases f with
     | e => have h : a1w q .e = some g := h
            rw [wX] at h; cases h
     | n => exact h
   | r q => right; cases f with
     | e => have h : a1w q .e = some g := h
            rw [wX] at h; cases h
     | n => exact h
 | l p ih =>
   have h1 : ∀ f, rW v (.l p) f (fun f => f) = match f with | .e => .n none (rW v p .e fun f => f) .e | .n w l r => .n w (rW v p l fun f => f) r := fun f => by
    cases f with
    | e => exact zH v p .e fun l => LT.n none l .e
    | n w l r => exact zH v p l fun l => LT.n w l r
   rw [h1] at h
   cases q with
   | z => right; cases f with
     | e => exact h
     | n => exact h
   | r q => right; cases f with
     | e => have h : a1w q .e = some g := h
            rw [wX] at h; cases h
     | n => exact h
   | l q =>
     cases f with
     | e =>
       rcases ih q .e h with ⟨rfl, hq⟩ | h
       ·exact .inl ⟨rfl, hq⟩
       ·rw [wX] at h; cases h
     | n w l r =>
       rcases ih q l h with ⟨rfl, hq⟩ | h
       ·exact .inl ⟨rfl, hq⟩
       ·exact .inr h
 | r p ih =>
   have h1 : ∀ f, rW v (.r p) f (fun f => f) = match f with | .e => .n none .e (rW v p .e fun f => f) | .n w l r => .n w l (rW v p r fun f => f) := fun f => by
    cases f with
    | e => exact zH v p .e fun l => LT.n none .e l
    | n w l r => exact zH v p r fun r => LT.n w l r
   rw [h1] at h
   cases q with
   | z => right; cases f with
     | e => exact h
     | n => exact h
   | l q => right; cases f with
     | e => have h : a1w q .e = some g := h
            rw [wX] at h; cases h
     | n => exact h
   | r q =>
     cases f with
     | e =>
       rcases ih q .e h with ⟨rfl, hq⟩ | h
       ·exact .inl ⟨rfl, hq⟩
       ·rw [wX] at h; cases h
     | n w l r =>
       rcases ih q r h with ⟨rfl, hq⟩ | h
       ·exact .inl ⟨rfl, hq⟩
       ·exact .inr h
theorem b1Z {α : Type} (f : FuncId) (no : α) (K : LFunc → α) : (∃ g, FuncOk P f g ∧ a1D P f no K = K g) ∨ a1D P f no K = no := by
 unfold a1D
 split
 ·rename_i fn hfn
  split
  ·rename_i c hb
   rw [kO]
   split
   ·exact .inr rfl
   ·rename_i hn
    rcases b6n (P := P) fn.results.toList (fun res => b3v fn.ntmps fun ps => nA P fn.ntmps c fun b => K ⟨ps, b, res⟩) no with ⟨res, hres, h1⟩ | h1
    ·rw [h1, b0T]
     obtain ⟨C, hC, h2⟩ := b3i (P := P) fn.ntmps c (fun b => K ⟨(List.range fn.ntmps).map kS, b, res⟩)
     exact .inl ⟨⟨_, C, res⟩, ⟨fn, c, hfn, hb, by simpa using hn, rfl, hC, hres⟩, h2⟩
    ·exact .inr h1
  ·exact .inr rfl
 ·exact .inr rfl
theorem b4g {α : Type} (fs : List FuncId) (T : LT) (hT : TOk P T) (K : LT → α) : ∃ T', TOk P T' ∧ uS P fs T K = K T' := by
 induction fs generalizing T with
 | nil => exact ⟨T, hT, rfl⟩
 | cons f fs ih =>
   have e : uS P (f :: fs) T K = a1D P f (uS P fs T K) fun g => lP (kS f) fun p => rW g p T fun T => uS P fs T K := rfl
   rw [e]
   rcases b1Z (P := P) f (uS P fs T K) (fun g => lP (kS f) fun p => rW g p T fun T => uS P fs T K) with ⟨g, hg, h⟩ | h
   ·rw [h, lN, zH]
    refine ih _ fun f' g' h' => ?_
    rcases b2k g (kS f) (kS f') T h' with ⟨he, rfl⟩ | h'
    ·rw [b0A he]; exact hg
    ·exact hT f' g' h'
   ·rw [h]; exact ih T hT
end Go.Ds
namespace Go.Ds
open Go.Proofs Go.Proofs.Tryz
def t64 : List Nat := [0, 1, 56, 2, 57, 49, 28, 3, 61, 58, 42, 50, 38, 29, 17, 4, 62, 47, 59, 36, 45, 43, 51, 22, 53, 39, 33, 30, 24, 18, 12, 5, 63, 55, 48, 27, 60, 41, 37, 16, 46, 35, 44, 21, 52, 32, 23, 11, 54, 26, 40, 15, 34, 20, 31, 10, 25, 14, 19, 9, 13, 8, 7, 6]
def t32 : List Nat := [0, 1, 28, 2, 29, 14, 24, 3, 30, 22, 20, 15, 25, 17, 4, 8, 31, 27, 13, 23, 21, 19, 16, 7, 26, 12, 18, 6, 11, 5, 10, 9]
noncomputable def gH : Heap := ((((((Heap.nil.cons (.cells (t64.map fun (n : Nat) => Value.int .u8 (.ofNat n)) 5 false 0 1)).cons (.cells [] 3 false 0 1)).cons (.cells [] 310 false 0 1)).cons (.cells [] 310 false 0 1)).cons (.cells ([1, 10, 100, 1000, 10000, 100000, 1000000, 10000000, 100000000, 1000000000, 10000000000, 100000000000, 1000000000000, 10000000000000, 100000000000000, 1000000000000000, 10000000000000000, 100000000000000000, 1000000000000000000, 10000000000000000000].map fun (n : Nat) => Value.int .u64 (.ofNat n)) 28 false 0 1)).cons (.cells (t32.map fun (n : Nat) => Value.int .u8 (.ofNat n)) 5 false 0 1))
theorem c3o : prog.follows .mixedOrders = true := by kernel_rfl
def b1w : Nat → Nat → List UInt8 → List UInt8
 | 0, _, acc => acc
 | f + 1, n, acc => if n < 10 then (48 + n).toUInt8 :: acc else b1w f (n / 10) ((48 + n % 10).toUInt8 :: acc)
def oZ (n : Nat) : ByteArray := ⟨(b1w 100 n []).toArray⟩
theorem a5L {b : ByteArray} {n : Nat} (h : b.data.toList = b1w 100 n []) : b = oZ n := by
 cases b with | mk d => cases d with | mk l => simp only at h; subst h; rfl
def b0L (r : Rs) (n : Nat) : Bool := match r with
 | .ok (.string b) _ => decide (b.data.toList = b1w 100 n [])
 | .th (.string b) _ => decide (b.data.toList = b1w 100 n [])
 | _ => false
def b9t (v : Value) (n : Nat) : Bool := match v with
 | .tuple vs => match vs.toList with
   | [.string b, .int .i64 m] => decide (m = 0) && decide (b.data.toList = b1w 100 n [])
   | _ => false
 | _ => false
def b6p (r : Rs) (n : Nat) : Bool := match r with
 | .ok v _ => b9t v n
 | .th v _ => b9t v n
 | _ => false
def b5Z (r : Rs) (n : Int) : Bool := match r with
 | .ok (.int .i64 m) _ => decide (m = n)
 | .th (.int .i64 m) _ => decide (m = n)
 | _ => false
noncomputable def b9S (ps : List Nat) : Bool := uS prog [168, 150, 189, 206, 242, 256, 263, 264, 265, 266, 272, 273, 274, 275, 279] .e fun T => ps.all fun x => b0L (nZ T (exF prog T 4000) [] (kS 150) [.int .i64 x] gH) x
def fsP : List Nat := [168, 254, 238, 240, 186, 149, 189, 253, 268, 229, 230, 202, 203, 204, 205, 209, 267, 276, 235, 236, 237, 239, 241, 222, 243, 251, 252, 255, 247, 263, 264, 265, 266, 272, 273, 274, 275, 279]
noncomputable def tZ (ps : List Nat) : Bool := uS prog fsP .e fun T => ps.all fun x => b6p (nZ T (exF prog T 4000) [] (kS 149) [.string (oZ x), .int .i64 24] gH) (x ^ 24)
def fsM : List Nat := [168, 254, 238, 240, 186, 150, 151, 189, 206, 253, 268, 229, 230, 202, 203, 204, 205, 207, 209, 242, 267, 276, 235, 236, 237, 239, 241, 222, 243, 256, 251, 252, 255, 247, 263, 264, 265, 266, 272, 273, 274, 275, 279]
noncomputable def lZ (ps : List (Nat × Nat)) : Bool := uS prog fsM .e fun T => ps.all fun x => b0L (nZ T (exF prog T 4000) [] (kS 151) [.string (oZ x.1), .string (oZ x.2)] gH) (x.1 * x.2)
def sB (t : Nat × Nat) : List (Nat × Nat) := (t.1 ^ 24, 2) :: (List.range t.2).map fun k => (2 * t.1 ^ 24 * 4 ^ k, 4)
def a7M (t : Nat × Nat × Nat) : List (Nat × Nat) := (List.range (t.2.2 + 1)).map fun k => (t.1 ^ 24, 2 * t.2.1 ^ 24 * 4 ^ k)
def b3X (a b : Nat) : Int := if a < b then -1 else if b < a then 1 else 0
noncomputable def uU (ps : List (Nat × Nat)) : Bool := uS prog [152, 208, 209, 210, 222, 243, 244, 247, 257] .e fun T => ps.all fun x => b5Z (nZ T (exF prog T 4000) [] (kS 152) [.string (oZ x.1), .string (oZ x.2)] gH) (b3X x.1 x.2)
end Go.Ds
namespace Go.Ds
open Go.RowKit Go.Proofs
section
variable {P : Program} {ρ : Rho} {H : Heap} {w : World}
theorem a4e {name : String} {g : Nat} {k : IntKind} {zs : List Int} (hg : P.globalNamed name = some g) (ht : Lib.TabIs P w name k zs) : ∃ t fr, w.heap[g]? = some (.cells (zs.map fun z => Value.int k z).toArray t fr) := by
 unfold Lib.TabIs World.var? at ht
 rw [hg, da] at ht
 split at ht
 ·rename_i cs t fr hb
  obtain rfl := cZ ht
  exact ⟨t, fr, hb⟩
 ·cases ht
theorem InW.cN (h : InW P ρ H w) {name : String} {g : Nat} {k : IntKind} {zs : List Int} {ty : TypeId} (hg : P.globalNamed name = some g) (ht : Lib.TabIs P w name k zs) (hgH : g = H.length) (hty : iD P ty = some 1) :
 InW P (ρ.put H.length (zs.map fun z => Value.int k z).length ⟨g, 0, zs.length, 1⟩) (H.cons (.cells (zs.map fun z => Value.int k z) ty false 0 1)) w := by
 obtain ⟨t, fr, hb⟩ := a4e hg ht
 refine (h.row ⟨g, 0, zs.length, 1⟩ hb (ty := ty) hty (by simp) (zs.map fun z => Value.int k z) 1 (fun _ => ⟨hgH, rfl⟩) (by simp) fun i c hi _ hc => ⟨c, ?_, ?_⟩).1
 ·have : (⟨g, 0, zs.length, 1⟩ : Place).at i = i := by simp [Place.at]
  rw [this]
  simpa using hc
 ·rw [eh] at hc
  obtain ⟨z, _, rfl⟩ := dp.1 hc
  exact .c0 (.flat rfl)
end
theorem c3N : ∀ A b, iP gH A = some b → ∃ cs ty lo, b = .cells cs ty false lo 1 ∧ kH cs = true := by
 intro A b h
 unfold gH at h
 have hn : ∀ (H : Heap) (c : Blk), iP (H.cons c) A = some b → (A = H.length ∧ b = c) ∨ iP H A = some b := fun H c h => by
  by_cases he : A = H.length
  ·subst he; rw [iQ] at h; exact .inl ⟨rfl, (cZ h).symm⟩
  ·have hA : A < (H.cons c).length := jG h
   rw [length_cons] at hA
   rw [jP _ (by omega)] at h
   exact .inr h
 rcases hn _ _ h with ⟨_, rfl⟩ | h
 ·exact ⟨_, _, _, rfl, by kernel_rfl⟩
 rcases hn _ _ h with ⟨_, rfl⟩ | h
 ·exact ⟨_, _, _, rfl, by kernel_rfl⟩
 rcases hn _ _ h with ⟨_, rfl⟩ | h
 ·exact ⟨_, _, _, rfl, by kernel_rfl⟩
 rcases hn _ _ h with ⟨_, rfl⟩ | h
 ·exact ⟨_, _, _, rfl, by kernel_rfl⟩
 rcases hn _ _ h with ⟨_, rfl⟩ | h
 ·exact ⟨_, _, _, rfl, by kernel_rfl⟩
 rcases hn _ _ h with ⟨_, rfl⟩ | h
 ·exact ⟨_, _, _, rfl, by kernel_rfl⟩
 ·have : A < 0 := jG h
  omega
theorem ExtW.glob {ρ ρ' : Rho} {H' : Heap} (h : ExtW ρ gH ρ' H') : Glob gH H' := ⟨h.len, fun A hA => h.old A hA, c3N⟩
def p10 : List Int := [1, 10, 100, 1000, 10000, 100000, 1000000, 10000000, 100000000, 1000000000, 10000000000, 100000000000, 1000000000000, 10000000000000, 100000000000000, 1000000000000000, 10000000000000000, 100000000000000000, 1000000000000000000, 10000000000000000000]
theorem g64 : Tryz.prog.globalNamed "math/bits.deBruijn64tab" = some 0 := by kernel_rfl
theorem rE : Tryz.prog.globalNamed "internal/strconv.uint64pow10" = some 4 := by kernel_rfl
theorem g32 : Tryz.prog.globalNamed "math/bits.deBruijn32tab" = some 5 := by kernel_rfl
theorem b9k {w : World} (h64 : Lib.TabIs Tryz.prog w "math/bits.deBruijn64tab" .u8 (t64.map Int.ofNat)) (h10 : Lib.TabIs Tryz.prog w "internal/strconv.uint64pow10" .u64 p10)
 (h32 : Lib.TabIs Tryz.prog w "math/bits.deBruijn32tab" .u8 (t32.map Int.ofNat)) (h1001 : ∃ cs t fr, w.heap[1]? = some (.cells cs t fr)) (h1002 : ∃ cs t fr, w.heap[2]? = some (.cells cs t fr)) (h1003 : ∃ cs t fr, w.heap[3]? = some (.cells cs t fr)) : ∃ ρ, InW Tryz.prog ρ gH w := by
 have a0 := (InW.none (P := Tryz.prog) w).cN g64 h64 (ty := 5) rfl (by kernel_rfl)
 obtain ⟨cs1, t1, fr1, hb1⟩ := h1001
 have a1 := (a0.row ⟨1, 0, cs1.size, 1⟩ hb1 (ty := 3) (by kernel_rfl) rfl [] 1 (fun _ => ⟨rfl, rfl⟩) (by simp) (fun i c hi => by simp at hi)).1
 obtain ⟨cs2, t2, fr2, hb2⟩ := h1002
 have a2 := (a1.row ⟨2, 0, cs2.size, 1⟩ hb2 (ty := 310) (by kernel_rfl) rfl [] 1 (fun _ => ⟨rfl, rfl⟩) (by simp) (fun i c hi => by simp at hi)).1
 obtain ⟨cs3, t3, fr3, hb3⟩ := h1003
 have a3 := (a2.row ⟨3, 0, cs3.size, 1⟩ hb3 (ty := 310) (by kernel_rfl) rfl [] 1 (fun _ => ⟨rfl, rfl⟩) (by simp) (fun i c hi => by simp at hi)).1
 have a4 := a3.cN rE h10 (ty := 28) rfl (by kernel_rfl)
 have a5 := a4.cN g32 h32 (ty := 5) rfl (by kernel_rfl)
 exact ⟨_, a5⟩
end Go.Ds
namespace Go.Ds
noncomputable section
variable {P : Program} {H0 : Base} {H : Heap} {os : List Ob} {κ β : Type} [DecidableEq κ] {enc : κ → Value} {f : β → Value} {t : TypeId} {z : Value}
structure MapK (P : Program) (t : TypeId) {κ : Type} [DecidableEq κ] (enc : κ → Value) (z : Value) : Prop where
 ex : ∃ kt et, xM P t = some (kt, et) ∧ iX P et = some z ∧ jC z = true ∧ (∀ b k, xZ P b kt (enc k) = true) ∧
  (∀ k (es : List MapEntry) (ks : List κ), es.map (·.key) = ks.map enc → rQ P kt (enc k) es = some (ks.findIdx? fun x => decide (x = k))) ∧ ∀ k, Instr.sameBits 10000 (enc k) (enc k) = true
def kcs (enc : κ → Value) (f : β → Value) (kvs : List (κ × β)) : List Value := kvs.flatMap fun p => [enc p.1, f p.2]
def pM (kvs : List (κ × β)) (k : κ) : Option β := (kvs.find? fun p => decide (p.1 = k)).map (·.2)
def zL (kvs : List (κ × β)) (k : κ) (v : β) : List (κ × β) := match kvs.findIdx? (fun p => decide (p.1 = k)) with
 | some j => kvs.set j (k, v)
 | none => kvs ++ [(k, v)]
theorem a1k : ∀ (es : List MapEntry) (kvs : List (κ × β)), kcs enc f kvs = mcs es → es.map (·.key) = kvs.map (fun p => enc p.1) ∧ es.map (·.val) = kvs.map (fun p => f p.2)
 | [], [], _ => ⟨rfl, rfl⟩
 | [], p :: kvs, h => by simp [kcs, mcs] at h
 | e :: es, [], h => by simp [kcs, mcs] at h
 | e :: es, p :: kvs, h => by
   simp only [kcs, mcs, dK, List.cons_append, fW, fV] at h
   obtain ⟨h1, h2, h3⟩ := h
   obtain ⟨h4, h5⟩ := a1k es kvs h3
   simp only [ef]
   exact ⟨by rw [h4, h1], by rw [h5, h2]⟩
theorem a0b : ∀ (es : List MapEntry) (kvs : List (κ × β)), es.map (·.key) = kvs.map (fun p => enc p.1) → es.map (·.val) = kvs.map (fun p => f p.2) → kcs enc f kvs = mcs es
 | [], [], _, _ => rfl
 | [], p :: kvs, h, _ => by simp at h
 | e :: es, [], h, _ => by simp at h
 | e :: es, p :: kvs, h, h' => by
   simp only [ef, fV] at h h'
   have := a0b es kvs h.2 h'.2
   simp only [kcs, mcs, dK] at this ⊢
   rw [this, h.1, h'.1]
theorem St.bP (hS : St P H0 H os) (i : Nat) {A : Nat} {cs : List Value} (ho : os[i]? = some ⟨.map (some A), 0, cs⟩) : ∃ es ck ver, iP H A = some (.map es ck ver) ∧ cs = mcs es ∧ Stamps es ck := by
 have := hS.own _ (dT ho)
 unfold OwnAt at this
 rw [if_pos rfl] at this
 rcases this with ⟨_, _, _, _, _, _, h⟩ | ⟨A', es, ck, ver, h1, h2, h3, h4⟩
 ·cases h
 ·simp only [Value.map.injEq, dE] at h3
  subst h3
  exact ⟨es, ck, ver, h1, h2, h4⟩
theorem a4I (kvs : List (κ × β)) (k : κ) : (∃ j x, (kvs.map (·.1)).findIdx? (fun x => decide (x = k)) = some j ∧ kvs[j]? = some x ∧ kvs.find? (fun p => decide (p.1 = k)) = some x) ∨ ((kvs.map (·.1)).findIdx? (fun x => decide (x = k)) = none ∧ kvs.find? (fun p => decide (p.1 = k)) = none) := by
 induction kvs with
 | nil => exact .inr ⟨rfl, rfl⟩
 | cons p kvs ih =>
   by_cases h : p.1 = k
   ·exact .inl ⟨0, p, by simp [eZ, h], rfl, by simp [h]⟩
   ·rcases ih with ⟨j, x, h1, h2, h3⟩ | ⟨h1, h2⟩
    ·exact .inl ⟨j + 1, x, by simp [eZ, h, h1], by simpa using h2, by simp [h, h3]⟩
    ·exact .inr ⟨by simp [eZ, h, h1], by simp [h, h2]⟩
theorem St.cV (hS : St P H0 H os) (i : Nat) {A : Nat} {kvs : List (κ × β)} (ho : os[i]? = some ⟨.map (some A), 0, kcs enc f kvs⟩) (hk : MapK P t enc z) (hf : ∀ b, mI (f b) = true) (c : Bool) (k : κ) :
 pJ P H t (.map (some A)) (enc k) c = some (pairV c (((pM kvs k).map f).getD z) (pM kvs k).isSome) := by
 obtain ⟨kt, et, h1, h2, h3, h4, h5, h6⟩ := hk.ex
 obtain ⟨es, ck, ver, h7, h8, _⟩ := hS.bP i ho
 obtain ⟨h9, h10⟩ := a1k es kvs h8
 have hi := h5 k es (kvs.map (·.1)) (by rw [h9]; simp [gw])
 simp only [pJ, h1, da, a2O, h7, h4, if_true, hi, pM]
 rcases a4I kvs k with ⟨j, x, e1, e2, e3⟩ | ⟨e1, e3⟩
 ·have hj : es[j]?.map (·.val) = some (f x.2) := by
   rw [← eh, h10, eh, e2]; rfl
  cases he : es[j]? with
  | none => rw [he] at hj; simp at hj
  | some e =>
    rw [he] at hj
    simp only [dP, dE] at hj
    simp only [e1, he, da, hj, hf, if_true, e3, dP, eT, Option.isSome_some]
 ·simp only [e1, e3, Option.map_none, Option.getD_none, Option.isSome_none, h2, da, h3, if_true]
def a0H (P : Program) (H : Heap) (t : TypeId) (x k : Value) (c : Bool) (K : Value → Prop) (_k : Keep K := ⟨⟩) : Prop := ∃ v, pJ P H t x k c = some v ∧ K v
theorem a6U {t : TypeId} {x x' k k' : Value} {c : Bool} {K : Value → Prop} (h : x = x') (h2 : k = k') : a0H P H t x k c K = a0H P H t x' k' c K := by rw [h, h2]
attribute [congr] a6U
theorem a9M (d ty pos af g) (t : TypeId) (x k : Operand) (c : Bool) (l : List Value) (K : Value → Heap → Prop) :
 lU P ⟨d, .lookup t x k c, ty, pos, af, g⟩ l H K = jL x l fun x => jL k l fun k => a0H P H t x k c fun v => K v H := by
 have h2 : jY ((pJ P H t (ev l x) (ev l k) c).map fun v => (v, H)) K = ∃ v, pJ P H t (ev l x) (ev l k) c = some v ∧ K v H := by
  cases pJ P H t (ev l x) (ev l k) c <;> simp [jY]
 simp only [lU, opD, jL, Op.operands, a0H, h2]
 simp [and_assoc]
theorem St.bz (hS : St P H0 H os) (i : Nat) {A : Nat} {kvs : List (κ × β)} (ho : os[i]? = some ⟨.map (some A), 0, kcs enc f kvs⟩) (hk : MapK P t enc z) (hf : ∀ b, mI (f b) = true) {c : Bool} {k : κ} {K : Value → Prop}
 (h : K (pairV c (((pM kvs k).map f).getD z) (pM kvs k).isSome)) : a0H P H t (.map (some A)) (enc k) c K := ⟨_, hS.cV i ho hk hf c k, h⟩
def a5K (P : Program) (H : Heap) (t : TypeId) (K : Value → Heap → Prop) (_k : Keep K := ⟨⟩) : Prop := ∃ v H1, pN P H t none = some (v, H1) ∧ K v H1
theorem a6R (d ty pos af g) (t : TypeId) (l : List Value) (K : Value → Heap → Prop) : lU P ⟨d, .makeMap t none, ty, pos, af, g⟩ l H K = a5K P H t K := by
 simp only [lU, opD, Op.operands, a5K, mT]
 simp
theorem St.bQ (hS : St P H0 H os) (hk : MapK P t enc z) {K : Value → Heap → Prop} (h : ∀ A H1, St P H0 H1 (os ++ [⟨.map (some A), 0, []⟩]) → K (.map (some A)) H1) : a5K P H t K := by
 obtain ⟨kt, et, h1, _⟩ := hk.ex
 refine ⟨.map (some H.length), H.cons (.map [] 0 0), by simp [pN, h1], h _ _ (hS.add ?_ ?_ ?_ ?_)⟩
 ·unfold OwnAt
  rw [if_pos rfl]
  exact .inr ⟨_, [], 0, 0, iQ H _, rfl, rfl, .nil 0⟩
 ·simp [pI]
 ·exact fun B hB => jP _ hB
 ·intro B hB
  simp [kJ] at hB
  omega
def b6J (P : Program) (H : Heap) (t : TypeId) (m k v : Value) (K : Heap → Prop) (_k : Keep K := ⟨⟩) : Prop := ∃ H1, a0Y P H t m k v = some H1 ∧ K H1
theorem b0k {t : TypeId} {m m' k k' v v' : Value} {K : Heap → Prop} (h : m = m') (h2 : k = k') (h3 : v = v') : b6J P H t m k v K = b6J P H t m' k' v' K := by rw [h, h2, h3]
attribute [congr] b0k
theorem a3m (d ty pos af g) (t : TypeId) (m k v : Operand) (l : List Value) (K : Value → Heap → Prop) :
 lU P ⟨d, .mapUpdate t m k v, ty, pos, af, g⟩ l H K = jL m l fun m => jL k l fun k => jL v l fun v => b6J P H t m k v fun H1 => K undef H1 := by
 have h2 : jY ((a0Y P H t (ev l m) (ev l k) (ev l v)).map fun H => (undef, H)) K = ∃ H1, a0Y P H t (ev l m) (ev l k) (ev l v) = some H1 ∧ K undef H1 := by
  cases a0Y P H t (ev l m) (ev l k) (ev l v) <;> simp [jY]
 simp only [lU, opD, jL, Op.operands, b6J, h2]
 simp [and_assoc]
theorem a1l (kvs : List (κ × β)) (k : κ) (v : β) : zL kvs k v = match (kvs.map (·.1)).findIdx? (fun x => decide (x = k)) with | some j => kvs.set j (k, v) | none => kvs ++ [(k, v)] := by
 unfold zL
 rw [List.findIdx?_map]
 rfl
theorem St.ch (hS : St P H0 H os) (i : Nat) {A : Nat} {kvs : List (κ × β)} (ho : os[i]? = some ⟨.map (some A), 0, kcs enc f kvs⟩) (hk : MapK P t enc z) {k : κ} {v : β} {K : Heap → Prop}
 (h : ∀ H1, St P H0 H1 (os.set i ⟨.map (some A), 0, kcs enc f (zL kvs k v)⟩) → K H1) : b6J P H t (.map (some A)) (enc k) (f v) K := by
 obtain ⟨kt, et, h1, h2, h3, h4, h5, h6⟩ := hk.ex
 obtain ⟨es, ck, ver, h7, h8, hst⟩ := hS.bP i ho
 obtain ⟨h9, h10⟩ := a1k es kvs h8
 have hi := h5 k es (kvs.map (·.1)) (by rw [h9]; simp [gw])
 have fin : ∀ es' ck', mcs es' = kcs enc f (zL kvs k v) → Stamps es' ck' → St P H0 (hset H A (.map es' ck' (ver + 1))) (os.set i ⟨.map (some A), 0, kcs enc f (zL kvs k v)⟩) := by
  intro es' ck' he hst'
  refine hS.put i ho ?_ ?_ ?_ ?_
  ·unfold OwnAt
   rw [if_pos rfl]
   exact .inr ⟨A, es', ck', _, iR _ (jG h7), he.symm, rfl, hst'⟩
  ·rw [jA]; exact dm _
  ·intro B hB hne
   exact pQ fun hh => hne (by simp [kJ, hh])
  ·exact fun B hB => .inl hB
 rcases a4I kvs k with ⟨j, x, e1, e2, _⟩ | ⟨e1, _⟩
 ·have hj : es[j]?.map (·.key) = some (enc x.1) := by
   rw [← eh, h9, eh, e2]; rfl
  have hx : x.1 = k := by
   have := fU.1 e1
   obtain ⟨hlt, hd, _⟩ := this
   have hlt' : j < kvs.length := by simpa using hlt
   have : kvs[j] = x := by
    rw [dx hlt'] at e2
    exact cZ e2
   simp [this] at hd
   exact hd
  cases he : es[j]? with
  | none => rw [he] at hj; simp at hj
  | some e =>
    rw [he] at hj
    simp only [dP, dE] at hj
    refine ⟨hset H A (.map (es.set j { e with key := enc k, val := f v }) ck (ver + 1)), ?_, h _ (fin _ _ ?_ (hst.set he _ rfl))⟩
    ·have hsb : Instr.sameBits 10000 e.key (enc k) = true := by rw [hj, hx]; exact h6 k
     simp only [a0Y, h1, da, h7, h4, if_true, hi, e1, he, hsb]
    ·symm
     rw [a1l, e1]
     refine a0b _ _ ?_ ?_
     ·rw [fN, fN, h9]
     ·rw [fN, fN, h10]
 ·refine ⟨hset H A (.map (es ++ [{ key := enc k, val := f v, born := ck }]) (ck + 1) (ver + 1)), ?_, h _ (fin _ _ ?_ (hst.push _ rfl))⟩
  ·simp only [a0Y, h1, da, h7, h4, if_true, hi, e1]
  ·symm
   rw [a1l, e1]
   refine a0b _ _ ?_ ?_
   ·rw [dA, dA, h9]; rfl
   ·rw [dA, dA, h10]; rfl
def b3Q (P : Program) (H : Heap) (t : TypeId) (m k : Value) (K : Value → Heap → Prop) (_k : Keep K := ⟨⟩) : Prop := ∃ v H1, qT P H t m k = some (v, H1) ∧ K v H1
theorem a9v {t : TypeId} {m m' k k' : Value} {K : Value → Heap → Prop} (h : m = m') (h2 : k = k') : b3Q P H t m k K = b3Q P H t m' k' K := by rw [h, h2]
attribute [congr] a9v
def a3W (H : Heap) (m b v : Value) (K : Heap → Prop) (_k : Keep K := ⟨⟩) : Prop := ∃ H1, qO H m b v = some H1 ∧ K H1
theorem a6A {m m' b b' v v' : Value} {K : Heap → Prop} (h : m = m') (h2 : b = b') (h3 : v = v') : a3W H m b v K = a3W H m' b' v' K := by rw [h, h2, h3]
attribute [congr] a6A
theorem a5y (d ty pos af g) (t : TypeId) (m k : Operand) (l : List Value) (K : Value → Heap → Prop) :
 lU P ⟨d, .mapEntry t m k, ty, pos, af, g⟩ l H K = jL m l fun m => jL k l fun k => b3Q P H t m k K := by
 have h2 : jY (qT P H t (ev l m) (ev l k)) K = ∃ v H1, qT P H t (ev l m) (ev l k) = some (v, H1) ∧ K v H1 := mT ..
 simp only [lU, opD, jL, Op.operands, b3Q, h2]
 simp [and_assoc]
theorem a2z (d ty pos af g) (t : TypeId) (m b v : Operand) (l : List Value) (K : Value → Heap → Prop) :
 lU P ⟨d, .entryStore t m b v, ty, pos, af, g⟩ l H K = jL m l fun m => jL b l fun b => jL v l fun v => a3W H m b v fun H1 => K undef H1 := by
 have h2 : jY ((qO H (ev l m) (ev l b) (ev l v)).map fun H => (undef, H)) K = ∃ H1, qO H (ev l m) (ev l b) (ev l v) = some H1 ∧ K undef H1 := by
  cases qO H (ev l m) (ev l b) (ev l v) <;> simp [jY]
 simp only [lU, opD, jL, Op.operands, a3W, h2]
 simp [and_assoc]
theorem yW (kvs : List (κ × β)) (k k' : κ) (v : β) : pM (zL kvs k v) k' = if k' = k then some v else pM kvs k' := by
 unfold pM zL
 induction kvs with
 | nil =>
   by_cases h : k' = k
   ·simp [h]
   ·simp [h, eH h]
 | cons p kvs ih =>
   by_cases hp : p.1 = k
   ·simp only [eZ, hp, decide_true, if_true, fw, List.find?_cons]
    by_cases h : k' = k
    ·simp [h]
    ·simp [h, eH h]
   ·have hd : decide (p.1 = k) = false := by simp [hp]
    simp only [eZ, hd, dW, if_false]
    by_cases hq : p.1 = k'
    ·have hne : ¬ k' = k := fun e => hp (hq.trans e)
     cases hh : kvs.findIdx? (fun p => decide (p.1 = k)) with
     | none => simp [hq, hne]
     | some j => simp [hq, hne]
    ·cases hh : kvs.findIdx? (fun p => decide (p.1 = k)) with
     | none =>
       rw [hh] at ih
       simpa [hq, List.find?_cons] using ih
     | some j =>
       rw [hh] at ih
       simpa [hq, List.find?_cons] using ih
end
end Go.Ds
namespace Go.Ds
noncomputable section
variable {P : Program} {H : Heap}
theorem kL {α : Type} (P : Program) (x : α) : iN P (pure x) = some x := rfl
theorem jU {t : TypeId} {d : TypeDesc} (h : P.underlying t = some d) : iN P (underlying t) = some d := by
 unfold underlying
 rw [iL]
 have : iN P program = some P := rfl
 rw [this, da, h]
 rfl
def lH : Operand → Bool
 | .const _ => true
 | _ => false
def oP (c : Bool) (i : Nat) (v : Value) : Operand := if c then .const v else .tmp i
def kV (P : Program) (op : BinOp) (t t2 : TypeId) (cx cy : Bool) (x y : Value) : Option Value := (opD P ⟨none, .binOp op t (oP cx 0 x) (oP cy 1 y) t2, t, "", #[], none⟩ [x, y] .nil).map (·.1)
def lC (P : Program) (op : BinOp) (t t2 : TypeId) (cx cy : Bool) (x y : Value) (K : Value → Prop) (_k : Keep K := ⟨⟩) : Prop := match x, y with
 | .int k a, .int k' b => (match (if k = k' then mN op k a b else none) with | some v => K v | none => jV (kV P op t t2 cx cy (.int k a) (.int k' b)) K)
 | x, y => jV (kV P op t t2 cx cy x y) K
theorem a5U {op : BinOp} {t t2 : TypeId} {cx cy : Bool} {x x' y y' : Value} {K : Value → Prop} (h : x = x') (h2 : y = y') : lC P op t t2 cx cy x y K = lC P op t t2 cx cy x' y' K := by rw [h, h2]
attribute [congr] a5U
theorem b0i (x : Operand) (l m : List Value) : ev (ev l x :: m) (oP (lH x) 0 (ev l x)) = ev l x := by cases x <;> rfl
theorem a9t (x : Operand) (l m : List Value) (a : Value) : ev (a :: ev l x :: m) (oP (lH x) 1 (ev l x)) = ev l x := by cases x <;> rfl
theorem b4R (op : BinOp) (t : TypeId) (x y : Operand) (l : List Value) : eqGuard op t x y (ev l x) (ev l y) = eqGuard op t (oP (lH x) 0 (ev l x)) (oP (lH y) 1 (ev l y)) (ev l x) (ev l y) := by
 generalize hx : ev l x = vx
 generalize hy : ev l y = vy
 cases x <;> cases y <;> rfl
theorem b9p (d ty pos af g) (op : BinOp) (t : TypeId) (x y : Operand) (t2 : TypeId) (l : List Value) (H : Heap) :
 opD P ⟨d, .binOp op t x y t2, ty, pos, af, g⟩ l H = (kV P op t t2 (lH x) (lH y) (ev l x) (ev l y)).map fun v => (v, H) := by
 have hp : kQ P ⟨d, .binOp op t x y t2, ty, pos, af, g⟩ l H = _ := mV (P := P) ⟨d, .binOp op t x y t2, ty, pos, af, g⟩ ⟨none, .binOp op t (oP (lH x) 0 (ev l x)) (oP (lH y) 1 (ev l y)) t2, t, "", #[], none⟩ l [ev l x, ev l y] H
  (by simp only [Op.operands, ef, fY, b0i, a9t]) (by
    simp only [execOp]
    rw [b0i, a9t, ← b4R])
 simp only [opD, kV, hp, b0i, a9t]
 generalize kQ P _ _ _ = r
 generalize ev l x = vx
 generalize ev l y = vy
 split
 all_goals first
  | (split <;> first | rfl | (split <;> first | rfl | (cases r <;> rfl)) | (cases r <;> rfl))
  | (cases r <;> rfl)
theorem b6c (d ty pos af g) (op : BinOp) (t : TypeId) (x y : Operand) (t2 : TypeId) (l : List Value) (K : Value → Heap → Prop) :
 lU P ⟨d, .binOp op t x y t2, ty, pos, af, g⟩ l H K = jL x l fun x' => jL y l fun y' => lC P op t t2 (lH x) (lH y) x' y' fun v => K v H := by
 have h : jY (opD P ⟨d, .binOp op t x y t2, ty, pos, af, g⟩ l H) K = lC P op t t2 (lH x) (lH y) (ev l x) (ev l y) fun v => K v H := by
  have key : jY ((kV P op t t2 (lH x) (lH y) (ev l x) (ev l y)).map fun v => (v, H)) K = jV (kV P op t t2 (lH x) (lH y) (ev l x) (ev l y)) fun v => K v H := by
   cases kV P op t t2 (lH x) (lH y) (ev l x) (ev l y) <;> rfl
  rw [b9p, key]
  unfold lC
  split
  ·rename_i k a k' b hx hy
   split
   ·rename_i v hv
    split at hv
    ·rename_i hk
     subst hk
     have : kV P op t t2 (lH x) (lH y) (.int k a) (.int k b) = some v := by
      have h1 : ∀ m, ev ((.int k a : Value) :: m) (oP (lH x) 0 (.int k a)) = .int k a := fun m => by cases lH x <;> rfl
      have h2 : ∀ m c, ev (c :: (.int k b : Value) :: m) (oP (lH y) 1 (.int k b)) = .int k b := fun m c => by cases lH y <;> rfl
      cases op <;> simp only [mN] at hv <;> first | (cases hv; done) | (simp only [kV, opD, h1, h2, mN, if_true, hv]; rfl)
     rw [hx, hy, this]
     rfl
    ·cases hv
   ·rw [hx, hy]
  ·rfl
 simp only [lU, h, jL, Op.operands]
 simp [and_assoc]
theorem mA (op : BinOp) (t t2 : TypeId) (cx cy : Bool) (k : IntKind) (a b : Int) {v : Value} (K : Value → Prop) (h : mN op k a b = some v) : lC P op t t2 cx cy (.int k a) (.int k b) K = oL v K := by
 simp [lC, h, oL]
section
theorem b1o (t t2 : TypeId) (cx cy : Bool) (k : IntKind) (a b : Int) (K : Value → Prop) : lC P .add t t2 cx cy (.int k a) (.int k b) K = oL (.int k (k.wrap (a + b))) K := mA _ _ _ _ _ _ _ _ _ (by simp [mN, b0p, uI])
theorem b2n (t t2 : TypeId) (cx cy : Bool) (k : IntKind) (a b : Int) (K : Value → Prop) : lC P .sub t t2 cx cy (.int k a) (.int k b) K = oL (.int k (k.wrap (a - b))) K := mA _ _ _ _ _ _ _ _ _ (by simp [mN, b0z, uI])
theorem b2D (t t2 : TypeId) (cx cy : Bool) (k : IntKind) (a b : Int) (K : Value → Prop) : lC P .mul t t2 cx cy (.int k a) (.int k b) K = oL (.int k (k.wrap (a * b))) K := mA _ _ _ _ _ _ _ _ _ (by simp [mN, uI])
theorem b3h (t t2 : TypeId) (cx cy : Bool) (k : IntKind) (a b : Int) (K : Value → Prop) : lC P .eql t t2 cx cy (.int k a) (.int k b) K = oL (.bool (decide (a = b))) K := mA _ _ _ _ _ _ _ _ _ (by simp [mN, a1V]; rfl)
theorem b1C (t t2 : TypeId) (cx cy : Bool) (k : IntKind) (a b : Int) (K : Value → Prop) : lC P .neq t t2 cx cy (.int k a) (.int k b) K = oL (.bool (decide (¬ a = b))) K := mA _ _ _ _ _ _ _ _ _ (by simp [mN, a1V]; rfl)
theorem b2x (t t2 : TypeId) (cx cy : Bool) (k : IntKind) (a b : Int) (K : Value → Prop) : lC P .lss t t2 cx cy (.int k a) (.int k b) K = oL (.bool (decide (a < b))) K := mA _ _ _ _ _ _ _ _ _ (by simp [mN, a0k])
theorem b2a (t t2 : TypeId) (cx cy : Bool) (k : IntKind) (a b : Int) (K : Value → Prop) : lC P .leq t t2 cx cy (.int k a) (.int k b) K = oL (.bool (decide (a ≤ b))) K := mA _ _ _ _ _ _ _ _ _ (by simp [mN, a0k, ← Int.not_lt])
theorem b2c (t t2 : TypeId) (cx cy : Bool) (k : IntKind) (a b : Int) (K : Value → Prop) : lC P .gtr t t2 cx cy (.int k a) (.int k b) K = oL (.bool (decide (b < a))) K := mA _ _ _ _ _ _ _ _ _ (by simp [mN, a0k])
theorem b2v (t t2 : TypeId) (cx cy : Bool) (k : IntKind) (a b : Int) (K : Value → Prop) : lC P .geq t t2 cx cy (.int k a) (.int k b) K = oL (.bool (decide (b ≤ a))) K := mA _ _ _ _ _ _ _ _ _ (by simp [mN, a0k, ← Int.not_lt])
theorem b3f (t t2 : TypeId) (cx cy : Bool) (k : IntKind) (a b : Int) (K : Value → Prop) (hb : b ≠ 0) : lC P .rem t t2 cx cy (.int k a) (.int k b) K = oL (.int k (a.tmod b)) K := mA _ _ _ _ _ _ _ _ _ (by
 have : (b == 0) = false := by simp [hb]
 simp [mN, a1V, this])
theorem b2Z (t t2 : TypeId) (cx cy : Bool) (k : IntKind) (a b : Int) (K : Value → Prop) (hb : b ≠ 0) : lC P .quo t t2 cx cy (.int k a) (.int k b) K = oL (.int k (k.wrap (a.tdiv b))) K := mA _ _ _ _ _ _ _ _ _ (by
 have : (b == 0) = false := by simp [hb]
 simp [mN, a1V, uI, this])
end
theorem lQ {op : BinOp} {t t2 : TypeId} {cx cy : Bool} {x y v : Value} (hx : flat x = true) (hy : flat y = true) (hg : iN P (eqGuard op t (oP cx 0 x) (oP cy 1 y) x y) = some ())
 (hv : iN P (binOp op t x y) = some v) (hf : flat v = true) (hs : ∀ a n c, x ≠ .slice (some a) n c) (hp : ∀ a, x ≠ .pointer (some a)) (hi : ∀ k a b, x = .int k a → y = .int k b → mN op k a b = none) : kV P op t t2 cx cy x y = some v := by
 have h1 : ∀ m, ev (x :: m) (oP cx 0 x) = x := fun m => by cases cx <;> rfl
 have h2 : ∀ m c, ev (c :: y :: m) (oP cy 1 y) = y := fun m c => by cases cy <;> rfl
 have hpl : kQ P ⟨none, .binOp op t (oP cx 0 x) (oP cy 1 y) t2, t, "", #[], none⟩ [x, y] .nil = some (v, .nil) := by
  unfold kQ
  rw [if_pos (by simp [Op.operands, h1, h2, hx, hy])]
  have : execOp (ev [x, y]) ⟨none, .binOp op t (oP cx 0 x) (oP cy 1 y) t2, t, "", #[], none⟩ = (do let v ← (do eqGuard op t (oP cx 0 x) (oP cy 1 y) x y; binOp op t x y); pure (.value v)) := by
   simp only [execOp, h1, h2]
  rw [this, iL, iL, hg, da, hv, da, kL]
  simp only [hf, if_true]
 simp only [kV, opD, h1, h2, hpl]
 split
 ·exact absurd rfl (hs _ _ _)
 ·exact absurd rfl (hs _ _ _)
 ·rename_i k a k' b
  split
  ·rename_i hk
   subst hk
   rw [hi _ _ _ rfl rfl]
   rfl
  ·rfl
 ·exact absurd rfl (hp _)
 ·exact absurd rfl (hp _)
 ·exact absurd rfl (hp _)
 ·exact absurd rfl (hp _)
 ·rfl
theorem qJ {op : BinOp} {t : TypeId} {x y : Operand} {k k' : IntKind} {a b : Int} : iN P (eqGuard op t x y (.int k a) (.int k' b)) = some () := by
 unfold eqGuard
 split <;> rfl
section
theorem b4J (t t2 : TypeId) (cx cy : Bool) (a b : Int) {k k' : IntKind} (hb : 0 ≤ b) : kV P .shr t t2 cx cy (.int k a) (.int k' b) = some (.int k (a.fdiv (2 ^ (min b.toNat k.bits)))) :=
 lQ rfl rfl qJ (by simp only [binOp, Op.shift]; rw [if_neg (by omega)]; rfl) rfl (by simp) (by simp) (by intros; rfl)
theorem b6Q (t t2 : TypeId) (cx cy : Bool) (a b : Int) {k k' : IntKind} (hb : 0 ≤ b) : kV P .shl t t2 cx cy (.int k a) (.int k' b) = some (.int k (k.wrap (a * 2 ^ (min b.toNat k.bits)))) :=
 lQ rfl rfl qJ (by simp only [binOp, Op.shift]; rw [if_neg (by omega)]; rfl) rfl (by simp) (by simp) (by intros; rfl)
theorem b3J (t t2 : TypeId) (cx cy : Bool) (a b : Int) (k : IntKind) : kV P .and t t2 cx cy (.int k a) (.int k b) = some (.int k (k.wrap (BitVec.ofInt k.bits a &&& BitVec.ofInt k.bits b).toNat)) :=
 lQ rfl rfl qJ (by simp only [binOp]; rw [if_neg (by simp)]; rfl) rfl (by simp) (by simp) (by intros; rfl)
theorem b7i (t t2 : TypeId) (cx cy : Bool) (a b : Int) (k : IntKind) : kV P .or t t2 cx cy (.int k a) (.int k b) = some (.int k (k.wrap (BitVec.ofInt k.bits a ||| BitVec.ofInt k.bits b).toNat)) :=
 lQ rfl rfl qJ (by simp only [binOp]; rw [if_neg (by simp)]; rfl) rfl (by simp) (by simp) (by intros; rfl)
theorem b4G (t t2 : TypeId) (cx cy : Bool) (a b : Int) (k : IntKind) : kV P .xor t t2 cx cy (.int k a) (.int k b) = some (.int k (k.wrap (BitVec.ofInt k.bits a ^^^ BitVec.ofInt k.bits b).toNat)) :=
 lQ rfl rfl qJ (by simp only [binOp]; rw [if_neg (by simp)]; rfl) rfl (by simp) (by simp) (by intros; rfl)
theorem a6D (t t2 : TypeId) (cx cy : Bool) (a b : Int) (k : IntKind) : kV P .andNot t t2 cx cy (.int k a) (.int k b) = some (.int k (k.wrap (BitVec.ofInt k.bits a &&& ~~~ BitVec.ofInt k.bits b).toNat)) :=
 lQ rfl rfl qJ (by simp only [binOp]; rw [if_neg (by simp)]; rfl) rfl (by simp) (by simp) (by intros; rfl)
end
section
variable (a b : ByteArray)
theorem zP {op : BinOp} {t : TypeId} {x y : Operand} : iN P (eqGuard op t x y (.string a) (.string b)) = some () := by
 unfold eqGuard
 split <;> rfl
theorem a0U (h : a.data.toList = b.data.toList) : a = b := by
 cases a; cases b
 simp only [ByteArray.mk.injEq]
 exact Array.toList_inj.1 h
theorem a1v : (a.toList == b.toList) = decide (a = b) := by
 rw [ByteArray.toList_eq, ByteArray.toList_eq, eG, beq_iff_eq, decide_eq_true_iff]
 exact ⟨a0U a b, fun h => by rw [h]⟩
theorem a9K (t t2 : TypeId) (cx cy : Bool) (a b : ByteArray) : kV P .eql t t2 cx cy (.string a) (.string b) = some (.bool (decide (a = b))) :=
 lQ rfl rfl (zP a b) (by rw [← a1v]; rfl) rfl (by simp) (by simp) (by intro _ _ _ h; cases h)
theorem b0a (t t2 : TypeId) (cx cy : Bool) (a b : ByteArray) : kV P .neq t t2 cx cy (.string a) (.string b) = some (.bool (decide (¬ a = b))) :=
 lQ rfl rfl (zP a b) (by
  have : decide (¬ a = b) = !(a.toList == b.toList) := by rw [a1v]; simp
  rw [this]; rfl) rfl (by simp) (by simp) (by intro _ _ _ h; cases h)
theorem a7g (t t2 : TypeId) (cx cy : Bool) (a b : ByteArray) (h : a.size + b.size < 9223372036854775808) : kV P .add t t2 cx cy (.string a) (.string b) = some (.string (a ++ b)) :=
 lQ rfl rfl (zP a b) (by
  simp only [binOp, Op.stringOp]
  rw [if_neg]
  ·rfl
  ·have : IntKind.i64.max = 9223372036854775807 := by decide
   rw [this]; omega) rfl (by simp) (by simp) (by intro _ _ _ h; cases h)
end
theorem b5T {t : TypeId} (s : ByteArray) (ht : oQ P t = true) : a0u P H t (.string s) = some (.int .i64 s.size) := by
 unfold oQ at ht
 unfold a0u
 split at ht
 ·rename_i h; rw [h]; simp [xH, goInt]
 ·cases ht
def qQ (P : Program) (t : TypeId) (x i : Value) : Option Value := (opD P ⟨none, .index t (.const x) (.const i), t, "", #[], none⟩ [] .nil).map (·.1)
theorem b2o (d ty pos af g) (t : TypeId) (x i : Operand) (l : List Value) (K : Value → Heap → Prop) :
 lU P ⟨d, .index t x i, ty, pos, af, g⟩ l H K = jL x l fun x => jL i l fun i => jV (qQ P t x i) fun v => K v H := by
 have h : opD P ⟨d, .index t x i, ty, pos, af, g⟩ l H = (qQ P t (ev l x) (ev l i)).map fun v => (v, H) := by
  have hp := mV (P := P) ⟨d, .index t x i, ty, pos, af, g⟩ ⟨none, .index t (.const (ev l x)) (.const (ev l i)), t, "", #[], none⟩ l [] H rfl rfl
  simp only [opD, qQ]
  exact hp
 have h2 : jY ((qQ P t (ev l x) (ev l i)).map fun v => (v, H)) K = jV (qQ P t (ev l x) (ev l i)) fun v => K v H := by cases qQ P t (ev l x) (ev l i) <;> rfl
 simp only [lU, h, jL, Op.operands, h2]
 simp [and_assoc]
def oH (s : ByteArray) (i : Nat) : Nat := (s.data.toList.getD i 0).toNat
theorem a9b {t : TypeId} (s : ByteArray) (k : IntKind) (i : Int) (ht : oQ P t = true) (h0 : 0 ≤ i) (h1 : i < s.size) : qQ P t (.string s) (.int k i) = some (.int .u8 (oH s i.toNat)) := by
 have hu : P.underlying t = some .string := by
  unfold oQ at ht
  split at ht
  ·rename_i h; exact h
  ·cases ht
 have hr : iN P (Instr.index t (.string s) (.int k i)) = some (.int .u8 (oH s i.toNat)) := by
  unfold Instr.index
  rw [iL]
  have e1 : iN P (asIntOf (.int k i)) = some (k, i) := rfl
  rw [e1, da]
  simp only [iL, jU hu, da]
  rw [if_pos h0]
  have hlt : i.toNat < s.size := by omega
  have hb : s[i.toNat]? = some s[i.toNat] := by simp [getElem?_pos, hlt]
  simp only [hb]
  rw [kL]
  congr 3
  unfold oH
  rw [dg]
  have hl : i.toNat < s.data.toList.length := by simpa using hlt
  rw [dx hl]
  rfl
 have hpl : kQ P ⟨none, .index t (.const (.string s)) (.const (.int k i)), t, "", #[], none⟩ [] .nil = some (.int .u8 (oH s i.toNat), .nil) := by
  unfold kQ
  rw [if_pos (by rfl)]
  have : execOp (ev []) ⟨none, .index t (.const (.string s)) (.const (.int k i)), t, "", #[], none⟩ = (do let v ← Instr.index t (.string s) (.int k i); pure (.value v)) := rfl
  rw [this, iL, hr, da, kL]
  rfl
 simp only [qQ, opD, hpl]
 rfl
def a0X (P : Program) (t : TypeId) : Option IntKind := match P.underlying t with | some (.int k) => some k | _ => none
theorem a0f {t : TypeId} {k : IntKind} (h : a0X P t = some k) : P.underlying t = some (.int k) := by
 unfold a0X at h
 split at h
 ·rename_i h2; rw [h2]; injection h with h; rw [h]
 ·cases h
theorem b1T {s t : TypeId} {k k' : IntKind} (a : Int) (hs : a0X P s = some k) (ht : a0X P t = some k') : a2f P s t (.int k a) = some (.int k' (k'.wrap a)) := by
 have hr : iN P (convert s t (.int k a)) = some (.int k' (k'.wrap a)) := by
  unfold convert
  simp only [iL, jU (a0f hs), jU (a0f ht), da]
  rfl
 have hpl : kQ P ⟨none, .convert s t (.const (.int k a)), t, "", #[], none⟩ [] .nil = some (.int k' (k'.wrap a), .nil) := by
  unfold kQ
  rw [if_pos (by rfl)]
  have : execOp (ev []) ⟨none, .convert s t (.const (.int k a)), t, "", #[], none⟩ = (do let v ← convert s t (.int k a); pure (.value v)) := rfl
  rw [this, iL, hr, da, kL]
  rfl
 simp only [a2f, hpl]
 rfl
def a5E (P : Program) (d : Nat) (xs ys : Array Value) (fs : List Field) : Option Bool :=
 (iN P (forIn fs ((none, ()) : Option Bool × Unit) fun f _ =>
   if f.name ≠ "_" then do
    let a ← part f.type xs f.offset
    let b ← part f.type ys f.offset
    let c ← Op.equalIn d f.type a b
    if (!c) = true then pure (ForInStep.done (some false, ())) else pure (ForInStep.yield (none, ()))
   else pure (ForInStep.yield (none, ())))).bind fun x => iN P (match x.fst with | some r => pure r | none => pure true)
theorem a2Q {d : Nat} {xs ys : Array Value} (g : Field → Bool) : ∀ (fs : List Field), (∀ f ∈ fs, f.name ≠ "_" ∧ iN P (part f.type xs f.offset >>= fun x => part f.type ys f.offset >>= fun y => Op.equalIn d f.type x y) = some (g f)) →
 a5E P d xs ys fs = some (fs.all g)
 | [], _ => rfl
 | f :: fs, hg => by
   obtain ⟨h1, h2⟩ := hg f (dU ..)
   have ih := a2Q g fs fun f' h => hg f' (eB _ h)
   unfold a5E at ih ⊢
   rw [iL] at h2
   simp only [List.forIn_cons, h1, ne_eq, not_false_eq_true, if_true, iL]
   cases hx : iN P (part f.type xs f.offset) with
   | none => rw [hx] at h2; cases h2
   | some x =>
     rw [hx, da, iL] at h2
     cases hy : iN P (part f.type ys f.offset) with
     | none => rw [hy] at h2; cases h2
     | some y =>
       rw [hy, da] at h2
       simp only [da, h2]
       cases hgf : g f with
       | false =>
         simp only [Bool.not_false, if_true, kL, da, fC, hgf, fQ]
       | true =>
         simp only [Bool.not_true, dW, if_false, kL, da, fC, hgf, gO]
         exact ih
theorem b4S {d : Nat} {t : TypeId} {fs : List Field} {xs ys : Array Value} (hu : P.underlying t = some (.struct fs.toArray)) (hst : P.stoodInHeld t = false) (g : Field → Bool)
 (hg : ∀ f ∈ fs, f.name ≠ "_" ∧ iN P (part f.type xs f.offset >>= fun x => part f.type ys f.offset >>= fun y => Op.equalIn d f.type x y) = some (g f)) : iN P (Op.equalIn (d + 1) t (.agg xs) (.agg ys)) = some (fs.all g) := by
 rw [Op.equalIn, iL, jU hu, da]
 have hp : iN P program = some P := rfl
 simp only [iL, hp, da, hst, dW, if_false, List.forIn_toArray]
 refine Eq.trans ?_ (a2Q g fs hg)
 unfold a5E
 congr 1
 funext x
 cases x.fst <;> rfl
theorem a4x {op : BinOp} {t : TypeId} (ht : P.eqGuardType P.depth t = false) {x y : Operand} {a b : Array Value} : iN P (eqGuard op t x y (.agg a) (.agg b)) = some () := by
 have hp : iN P program = some P := rfl
 unfold eqGuard
 cases op <;> simp [iL, hp, ht, kL]
theorem b5P {t t2 : TypeId} {cx cy : Bool} {xs ys : List Value} (b : Bool) (ht : P.eqGuardType P.depth t = false) (hx : xs.all jB = true) (hy : ys.all jB = true) (h : iN P (Op.equalIn (9999 + 1) t (.agg xs.toArray) (.agg ys.toArray)) = some b) :
 kV P .eql t t2 cx cy (.agg xs.toArray) (.agg ys.toArray) = some (.bool b) :=
 lQ (by simp [flat, jC, kH, hx]) (by simp [flat, jC, kH, hy]) (a4x ht) (by
  have hmd : Op.maxDepth = 9999 + 1 := by decide
  simp only [binOp, iL, Op.equal]
  rw [hmd, h, da, kL]) rfl (by simp) (by simp) (by intro _ _ _ h; cases h)
theorem b3S {t t2 : TypeId} {cx cy : Bool} {xs ys : List Value} (b : Bool) (ht : P.eqGuardType P.depth t = false) (hx : xs.all jB = true) (hy : ys.all jB = true) (h : iN P (Op.equalIn (9999 + 1) t (.agg xs.toArray) (.agg ys.toArray)) = some b) :
 kV P .neq t t2 cx cy (.agg xs.toArray) (.agg ys.toArray) = some (.bool (!b)) :=
 lQ (by simp [flat, jC, kH, hx]) (by simp [flat, jC, kH, hy]) (a4x ht) (by
  have hmd : Op.maxDepth = 9999 + 1 := by decide
  simp only [binOp, iL, Op.equal]
  rw [hmd, h, da, kL]) rfl (by simp) (by simp) (by intro _ _ _ h; cases h)
end
end Go.Ds
namespace Go.Ds
noncomputable section
variable {P : Program} {H : Heap}
theorem a1x (a b : ByteArray) : (a == b) = decide (b = a) := by
 obtain ⟨x⟩ := a
 obtain ⟨y⟩ := b
 rw [eG, decide_eq_true_iff]
 constructor
 ·intro h
  have e : x = y := by simpa using (show (x == y) = true from h)
  rw [e]
 ·intro h
  cases h
  show (x == x) = true
  simp
theorem a3J (o : Option Nat) (i : Nat) : o.map (i + 1 + ·) = (o.map (· + 1)).map (i + ·) := by
 cases o with
 | none => rfl
 | some j => simp only [dP]; congr 1; omega
theorem a0D (k : ByteArray) : ∀ (es : List MapEntry) (ks : List ByteArray) (i : Nat), es.map (·.key) = ks.map Value.string →
 (Instr.findNow .string (.string k) (es.map wQ) i).map (·.map (·.1)) = some ((ks.findIdx? fun x => decide (x = k)).map (i + ·))
 | [], [], i, _ => rfl
 | [], _ :: _, _, h => by simp at h
 | _ :: _, [], _, h => by simp at h
 | e :: es, s :: ks, i, h => by
   simp only [ef, fV] at h
   have hs : Instr.sameNow .string (.string k) e.key = some (decide (s = k)) := by
    rw [h.1]
    show some (k == s) = _
    rw [a1x]
   simp only [ef, Instr.findNow, wQ, hs, eZ]
   by_cases hd : s = k
   ·simp [hd]
   ·simp only [hd, decide_false, dW, if_false]
    have := a0D k es ks (i + 1) h.2
    rw [a3J] at this
    exact this
theorem b0I {κ : Type} [DecidableEq κ] {enc : κ → Value} {kt : TypeId} (heq : ∀ a b, iN P (Op.equal kt (enc a) (enc b)) = some (decide (b = a))) (k : κ) : ∀ (es : List MapEntry) (ks : List κ) (i : Nat), es.map (·.key) = ks.map enc →
 (iN P (Instr.findAsking kt (enc k) (es.map wQ) i)).map (·.map (·.1)) = some ((ks.findIdx? fun x => decide (x = k)).map (i + ·))
 | [], [], i, _ => rfl
 | [], _ :: _, _, h => by simp at h
 | _ :: _, [], _, h => by simp at h
 | e :: es, s :: ks, i, h => by
   simp only [ef, fV] at h
   simp only [ef, Instr.findAsking, wQ, iL, eZ]
   rw [h.1, heq, da]
   by_cases hd : s = k
   ·simp [hd, kL]
   ·simp only [hd, decide_false, dW, if_false]
    have := b0I heq k es ks (i + 1) h.2
    rw [a3J] at this
    exact this
theorem MapK.str {t kt et : TypeId} {z : Value} (hm : xM P t = some (kt, et)) (hu : P.underlying kt = some .string) (hz : iX P et = some z) (hf : jC z = true) : MapK P t Value.string z where
 ex := by
  refine ⟨kt, et, hm, hz, hf, ?_, ?_, ?_⟩
  ·intro b k
   have : iN P (Instr.checkKey b 10000 kt (.string k)) = some () := by
    show iN P (Instr.checkKey b (9999 + 1) kt (.string k)) = some ()
    unfold Instr.checkKey
    rw [iL, jU hu, da]
    rfl
   simp only [xZ, this]
   rfl
  ·intro k es ks h
   have h1 := a0D k es ks 0 h
   unfold rQ Instr.findKey
   rw [iL, jU hu, da]
   cases hn : Instr.findNow .string (.string k) (es.map wQ) 0 with
   | none => rw [hn] at h1; cases h1
   | some r =>
     rw [hn] at h1
     simp only [kL]
     simpa using h1
  ·intro k
   show (k == k) = true
   rw [a1x]
   simp
theorem MapK.struct {κ : Type} [DecidableEq κ] {enc : κ → Value} {t kt et : TypeId} {z : Value} {fs : Array Field} (hm : xM P t = some (kt, et)) (hu : P.underlying kt = some (.struct fs)) (hz : iX P et = some z) (hf : jC z = true)
 (hk : ∀ b k, xZ P b kt (enc k) = true) (heq : ∀ a b, iN P (Op.equal kt (enc a) (enc b)) = some (decide (b = a))) (hsb : ∀ k, Instr.sameBits 10000 (enc k) (enc k) = true) : MapK P t enc z where
 ex := by
  refine ⟨kt, et, hm, hz, hf, hk, ?_, hsb⟩
  intro k es ks h
  have h1 := b0I heq k es ks 0 h
  unfold rQ Instr.findKey
  rw [iL, jU hu, da]
  have key : ∀ (l : List MapEntry), Instr.findNow (.struct fs) (enc k) l 0 = none ∨ l = [] := by
   intro l
   cases l with
   | nil => exact .inr rfl
   | cons e l => exact .inl rfl
  rcases key (es.map wQ) with hn | hn
  ·rw [hn]
   simpa using h1
  ·rw [hn]
   have : es = [] := by simpa using hn
   subst this
   have : ks = [] := by cases ks with | nil => rfl | cons a ks => simp at h
   subst this
   rfl
end
end Go.Ds
namespace Go.Ds
noncomputable section
variable {P : Program} {H : Heap}
def a2q (o : Option (Nat × TypeId)) (P : Program) (H : Heap) (t : TypeId) (z : Value) (K : Value → Heap → Prop) (_k : Keep K := ⟨⟩) : Prop := match o with
 | none => tU (jC z) (a5C P H t z K)
 | some _ => tU (jC z) (a8N P H t z K)
theorem a5w {o o' : Option (Nat × TypeId)} {t : TypeId} {z : Value} {K : Value → Heap → Prop} (h : o = o') : a2q o P H t z K = a2q o' P H t z K := by rw [h]
attribute [congr] a5w
theorem b4N {t : TypeId} (z : Value) (K : Value → Heap → Prop) : uF P H t (some z) K = a2q (jI P t) P H t z K := by
 cases h : jI P t with
 | none => exact a7u z K h
 | some n => exact a8P z K h
theorem a6r {t : TypeId} (z : Value) (K : Value → Heap → Prop) : a2q none P H t z K = tU (jC z) (a5C P H t z K) := rfl
theorem a7x {t : TypeId} (n : Nat × TypeId) (z : Value) (K : Value → Heap → Prop) : a2q (some n) P H t z K = tU (jC z) (a8N P H t z K) := rfl
theorem a7Z {t : TypeId} {k : IntKind} (h : a0X P t = some k) : lE P t = false := by
 simp [lE, a0f h]
def a3K (ks kt : Option IntKind) (P : Program) (s t : TypeId) (H : Heap) (k : IntKind) (a : Int) (K : Value → Heap → Prop) (_k : Keep K := ⟨⟩) : Prop := match ks, kt with
 | some k0, some k' => if k0 = k then K (.int k' (k'.wrap a)) H else tH P s t H (.int k a) K
 | _, _ => tH P s t H (.int k a) K
theorem a7c {ks ks' kt kt' : Option IntKind} {s t : TypeId} {k : IntKind} {a : Int} {K : Value → Heap → Prop} (h : ks = ks') (h2 : kt = kt') : a3K ks kt P s t H k a K = a3K ks' kt' P s t H k a K := by rw [h, h2]
attribute [congr] a7c
theorem b8A {s t : TypeId} (k : IntKind) (a : Int) (K : Value → Heap → Prop) : tH P s t H (.int k a) K = a3K (a0X P s) (a0X P t) P s t H k a K := by
 unfold a3K
 split
 ·rename_i k0 k' hs ht
  split
  ·rename_i hk
   subst hk
   rw [b2m k0 a K (a7Z ht), b1T a hs ht]
   rfl
  ·rfl
 ·rfl
theorem b2z {s t : TypeId} (k k' : IntKind) (a : Int) (K : Value → Heap → Prop) : a3K (some k) (some k') P s t H k a K = oL (.int k' (k'.wrap a)) fun v => K v H := by simp [a3K, oL]
def c0K (b : Bool) (P : Program) (H : Heap) (t : TypeId) (v : Value) : Option Value := match b with
 | true => (match v with | .string s => some (.int .i64 s.size) | _ => a0u P H t v)
 | false => a0u P H t v
theorem c2o (t : TypeId) (v : Value) : a8c none P H t v = c0K (oQ P t) P H t v := by
 unfold c0K
 split
 ·rename_i h
  split
  ·exact b5T _ h
  ·rfl
 ·rfl
theorem b6z (t : TypeId) (s : ByteArray) : c0K true P H t (.string s) = some (.int .i64 s.size) := rfl
def a5p (b : Bool) (P : Program) (t : TypeId) (x i : Value) : Option Value := match b, x, i with
 | true, .string s, .int k i => if 0 ≤ i ∧ i < s.size then some (.int .u8 (oH s i.toNat)) else qQ P t (.string s) (.int k i)
 | _, x, i => qQ P t x i
theorem b4u (t : TypeId) (x i : Value) : qQ P t x i = a5p (oQ P t) P t x i := by
 unfold a5p
 split
 ·rename_i h
  split
  ·rename_i h2; exact a9b _ _ _ h h2.1 h2.2
  ·rfl
 ·rfl
theorem a9X (t : TypeId) (s : ByteArray) (k : IntKind) (i : Int) (h0 : 0 ≤ i) (h1 : i < s.size) : a5p true P t (.string s) (.int k i) = some (.int .u8 (oH s i.toNat)) := by
 simp [a5p, h0, h1]
theorem OC : (∀ k n, oneCell (.int k n) = true) ∧ (∀ b, oneCell (.bool b) = true) ∧ (∀ s, oneCell (.string s) = true) ∧ (∀ a, oneCell (.pointer a) = true) ∧ (∀ a n c, oneCell (.slice a n c) = true) ∧ (∀ r, oneCell (.map r) = true) ∧ (∀ f a b, oneCell (.func f a b) = true) ∧ oneCell .nilFunc = true :=
 ⟨fun _ _ => rfl, fun _ => rfl, fun _ => rfl, fun _ => rfl, fun _ _ _ => rfl, fun _ => rfl, fun _ _ _ => rfl, rfl⟩
theorem c2G (o : Option Bool) : (o.map Value.bool).getD (.bool false) = .bool (o.getD false) := by cases o <;> rfl
theorem c3k (k : IntKind) (o : Option Int) : (o.map (Value.int k)).getD (.int k 0) = .int k (o.getD 0) := by cases o <;> rfl
theorem b8d (v : Value) (b : Bool) : pairV false v b = v := rfl
theorem b9h (v : Value) (b : Bool) : pairV true v b = .tuple #[v, .bool b] := rfl
theorem b6f (t : Tmp) : lH (.tmp t) = false := rfl
theorem a8O (v : Value) : lH (.const v) = true := rfl
theorem b5t (s : ByteArray) : flat (.string s) = true := rfl
theorem b2w (s : ByteArray) : jC (.string s) = true := rfl
theorem a9L (s : ByteArray) : jB (.string s) = true := rfl
theorem a6B (s : ByteArray) : jQ (.string s) = true := rfl
theorem b3N (k : IntKind) (n : Int) : nM (.int k n) = true := rfl
theorem b2i (b : Bool) : nM (.bool b) = true := rfl
theorem b4t (s : ByteArray) : nM (.string s) = true := rfl
theorem a0t {c b : Bool} {p q : Prop} (h1 : c = true → rS (.bool true) b p q) (h2 : c = false → rS (.bool false) b p q) : rS (.bool c) b p q := by
 cases c
 ·exact h2 rfl
 ·exact h1 rfl
theorem St.pick {H0 : Base} {os os' : List Ob} (hS : St P H0 H os) (idx : List Nat) (hn : idx.Nodup) (h : idx.map (os[·]?) = os'.map some) : St P H0 H os' := by
 have hmem : ∀ o ∈ os', o ∈ os := by
  intro o ho
  have : some o ∈ idx.map (os[·]?) := by rw [h]; exact eV ho
  obtain ⟨i, _, hi⟩ := dy.1 this
  exact dT hi
 refine ⟨hS.len, hS.old, fun o ho => hS.own o (hmem o ho), fun o ho => hS.new o (hmem o ho), ?_⟩
 have hpw := ec.1 hS.sep
 rw [ec]
 intro i j hi hj hij
 have hl : idx.length = os'.length := by simpa using congrArg List.length h
 have key : ∀ i (hi : i < os'.length), ∃ hk : idx[i]'(by omega) < os.length, os[idx[i]'(by omega)] = os'[i] := by
  intro i hi
  have h1 : (idx.map (os[·]?))[i]? = (os'.map some)[i]? := by rw [h]
  rw [eh, eh, dx (by omega), dx hi] at h1
  simp only [dP, dE] at h1
  exact dw.1 h1
 obtain ⟨h1, e1⟩ := key i hi
 obtain ⟨h2, e2⟩ := key j hj
 have hne : idx[i]'(by omega) ≠ idx[j]'(by omega) := by
  have := ec.1 hn i j (by omega) (by omega) hij
  exact this
 rcases fu hne with hh | hh
 ·have := hpw _ _ h1 h2 hh
  rw [e1, e2] at this
  exact this
 ·have := hpw _ _ h2 h1 hh
  rw [e1, e2] at this
  intro B hb hb'
  exact this B hb' hb
theorem St.frame {H1 : Heap} {H0 : Base} {ls rest ls' : List Ob} (hS : St P H0 H (ls ++ rest)) (h1 : St P ⟨H, pC ls⟩ H1 ls') : St P H0 H1 (ls' ++ rest) := by
 have hls : St P H0 H ls := hS.sub (fq ..)
 have h2 := hls.bE h1
 have hsep := fb.1 hS.sep
 have hkeep : ∀ o ∈ rest, ∀ B, kJ o.v = some B → iP H1 B = iP H B := by
  intro o ho B hB
  have hlt := (hS.own o (eN _ ho)).lt hB
  exact h1.old B hlt fun ⟨x, hx, hxb⟩ => hsep.2.2 x hx o ho B hxb hB
 refine ⟨h2.len, h2.old, ?_, ?_, ?_⟩
 ·intro o ho
  rcases dJ.1 ho with ho | ho
  ·exact h2.own o ho
  ·exact (hS.own o (eN _ ho)).ab (hkeep o ho)
 ·intro o ho B hB
  rcases dJ.1 ho with ho | ho
  ·exact h2.new o ho B hB
  ·exact hS.new o (eN _ ho) B hB
 ·rw [fb]
  refine ⟨h2.sep, hsep.2.1, ?_⟩
  intro x hx y hy B hb hb'
  rcases h1.new x hx B hb with hh | ⟨z, hz, hzb⟩
  ·have := (hS.own y (eN _ hy)).lt hb'
   have hh : H.length ≤ B := hh
   omega
  ·exact hsep.2.2 z hz y hy B hzb hb'
theorem b8t (t : TypeId) (k : IntKind) (n : Int) : unV P .neg t (.int k n) = some (.int k (k.wrap (0 - n))) := rfl
theorem b1s (ops : Array Oper) (d : Option Tmp) (op : Op) (ty : TypeId) (pos : String) (af : Array Edge) (j : Nat) (b : Bool) (l : List Value) (H' : Heap) (v : Value) :
 rdW P ops (some ⟨d, op, ty, pos, af, some (j, b)⟩) (some (l, H', v)) H = uM (yI ops j) l b (lU P ⟨d, op, ty, pos, af, some (j, b)⟩ l H fun v' _ => v' = v) True := by
 rw [← sK ops l d op ty pos af]
 unfold rdW
 split
 ·rename_i h1 h2
  cases h1; cases h2
  split
  ·rename_i h; simp [h]
  ·rename_i h; simp [h]
 ·rename_i h
  exact (h _ _ _ _ rfl rfl).elim
theorem b2A (t t2 : TypeId) (cx cy : Bool) (k : IntKind) (a b : Int) (K : Value → Prop) : lC P .and t t2 cx cy (.int k a) (.int k b) K = jV (kV P .and t t2 cx cy (.int k a) (.int k b)) K := by
 have h : (if k = k then mN .and k a b else none) = none := by split <;> rfl
 unfold lC; dsimp only
 rw [h]
theorem b6x (t t2 : TypeId) (cx cy : Bool) (k : IntKind) (a b : Int) (K : Value → Prop) : lC P .or t t2 cx cy (.int k a) (.int k b) K = jV (kV P .or t t2 cx cy (.int k a) (.int k b)) K := by
 have h : (if k = k then mN .or k a b else none) = none := by split <;> rfl
 unfold lC; dsimp only
 rw [h]
theorem b3m (t t2 : TypeId) (cx cy : Bool) (k : IntKind) (a b : Int) (K : Value → Prop) : lC P .xor t t2 cx cy (.int k a) (.int k b) K = jV (kV P .xor t t2 cx cy (.int k a) (.int k b)) K := by
 have h : (if k = k then mN .xor k a b else none) = none := by split <;> rfl
 unfold lC; dsimp only
 rw [h]
theorem a5s (t t2 : TypeId) (cx cy : Bool) (k : IntKind) (a b : Int) (K : Value → Prop) : lC P .andNot t t2 cx cy (.int k a) (.int k b) K = jV (kV P .andNot t t2 cx cy (.int k a) (.int k b)) K := by
 have h : (if k = k then mN .andNot k a b else none) = none := by split <;> rfl
 unfold lC; dsimp only
 rw [h]
theorem b1I (t t2 : TypeId) (cx cy : Bool) (k k' : IntKind) (a b : Int) (K : Value → Prop) : lC P .shl t t2 cx cy (.int k a) (.int k' b) K = jV (kV P .shl t t2 cx cy (.int k a) (.int k' b)) K := by
 have h : (if k = k' then mN .shl k a b else none) = none := by split <;> rfl
 unfold lC; dsimp only
 rw [h]
theorem b2B (t t2 : TypeId) (cx cy : Bool) (k k' : IntKind) (a b : Int) (K : Value → Prop) : lC P .shr t t2 cx cy (.int k a) (.int k' b) K = jV (kV P .shr t t2 cx cy (.int k a) (.int k' b)) K := by
 have h : (if k = k' then mN .shr k a b else none) = none := by split <;> rfl
 unfold lC; dsimp only
 rw [h]
theorem b1L (op : BinOp) (t t2 : TypeId) (cx cy : Bool) (a b : ByteArray) (K : Value → Prop) : lC P op t t2 cx cy (.string a) (.string b) K = jV (kV P op t t2 cx cy (.string a) (.string b)) K := rfl
theorem b3d (op : BinOp) (t t2 : TypeId) (cx cy : Bool) (a b : Array Value) (K : Value → Prop) : lC P op t t2 cx cy (.agg a) (.agg b) K = jV (kV P op t t2 cx cy (.agg a) (.agg b)) K := rfl
theorem b3s (op : BinOp) (t t2 : TypeId) (cx cy : Bool) (a b : Bool) (K : Value → Prop) : lC P op t t2 cx cy (.bool a) (.bool b) K = jV (kV P op t t2 cx cy (.bool a) (.bool b)) K := rfl
theorem b5g (n : Int) (h1 : -9223372036854775808 ≤ n) (h2 : n < 9223372036854775808) : IntKind.wrap .i64 n = n := by
 show (if (true && decide (n % 18446744073709551616 ≥ 9223372036854775808)) = true then n % 18446744073709551616 - 18446744073709551616 else n % 18446744073709551616) = n
 simp only [gO, decide_eq_true_eq]
 omega
theorem b8V (n : Int) (h1 : -128 ≤ n) (h2 : n < 128) : IntKind.wrap .i8 n = n := by
 show (if (true && decide (n % 256 ≥ 128)) = true then n % 256 - 256 else n % 256) = n
 simp only [gO, decide_eq_true_eq]
 omega
theorem qR (n : Int) (h1 : 0 ≤ n) (h2 : n < 18446744073709551616) : IntKind.wrap .u64 n = n := by
 show (if (false && decide (n % 18446744073709551616 ≥ 9223372036854775808)) = true then n % 18446744073709551616 - 18446744073709551616 else n % 18446744073709551616) = n
 simp only [fQ]
 rw [if_neg (by simp)]
 omega
theorem b3F (n : Int) (h1 : 0 ≤ n) (h2 : n < 4294967296) : IntKind.wrap .u32 n = n := by
 show (if (false && decide (n % 4294967296 ≥ 2147483648)) = true then n % 4294967296 - 4294967296 else n % 4294967296) = n
 simp only [fQ]
 rw [if_neg (by simp)]
 omega
theorem b6h (n : Int) (h1 : 0 ≤ n) (h2 : n < 65536) : IntKind.wrap .u16 n = n := by
 show (if (false && decide (n % 65536 ≥ 32768)) = true then n % 65536 - 65536 else n % 65536) = n
 simp only [fQ]
 rw [if_neg (by simp)]
 omega
theorem b7V (n : Int) (h1 : 0 ≤ n) (h2 : n < 256) : IntKind.wrap .u8 n = n := by
 show (if (false && decide (n % 256 ≥ 128)) = true then n % 256 - 256 else n % 256) = n
 simp only [fQ]
 rw [if_neg (by simp)]
 omega
end
end Go.Ds
namespace Go.Ds
noncomputable section
variable {P : Program}
def yE (P : Program) (t : TypeId) : List Field := match P.underlying t with | some (.struct fs) => fs.toList | _ => []
def zJ : Value → Value → Bool
 | .int _ a, .int _ b => a == b
 | .bool a, .bool b => a == b
 | .string a, .string b => decide (a = b)
 | _, _ => false
def okC (P : Program) (t : TypeId) (x y : Value) : Bool := match P.underlying t with
 | some (.int _) => (match x, y with | .int k _, .int k' _ => decide (k = k') | _, _ => false)
 | some .bool => (match x, y with | .bool _, .bool _ => true | _, _ => false)
 | some .string => (match x, y with | .string _, .string _ => true | _, _ => false)
 | _ => false
theorem eq1 {t : TypeId} {x y : Value} (d : Nat) (h : okC P t x y = true) : iN P (Op.equalIn (d + 1) t x y) = some (zJ x y) := by
 unfold okC at h
 split at h
 ·rename_i k0 hu
  split at h
  ·rename_i k a k' b
   have hk : k = k' := by simpa using h
   subst hk
   rw [Op.equalIn, iL, jU hu, da]
   simp only [if_true]
   rfl
  ·cases h
 ·rename_i hu
  split at h
  ·rw [Op.equalIn, iL, jU hu, da]; rfl
  ·cases h
 ·rename_i hu
  split at h
  ·rename_i a b
   rw [Op.equalIn, iL, jU hu, da]
   show some (a == b) = some (decide (a = b))
   rw [a1x]
   congr 1
   simp [eq_comm]
  ·cases h
 ·cases h
theorem c0t {t : TypeId} {x y v : Value} {cs : Array Value} {off : Nat} (h : okC P t x y = true) (hc : cs[off]? = some v) : iN P (part t cs off) = some v := by
 have ha : iN P (isAgg t) = some false := by
  unfold isAgg
  unfold okC at h
  split at h
  ·rename_i hu; rw [iL, jU hu, da]; rfl
  ·rename_i hu; rw [iL, jU hu, da]; rfl
  ·rename_i hu; rw [iL, jU hu, da]; rfl
  ·cases h
 unfold part
 rw [iL, ha, da]
 simp only [dW, if_false, hc]
 rfl
theorem a2x {t : TypeId} {xs ys : List Value} (d : Nat) (hu : P.underlying t = some (.struct (yE P t).toArray)) (hst : P.stoodInHeld t = false)
 (hf : ((yE P t).map fun f => (f.name != "_", f.offset)) = (List.range xs.length).map fun j => (true, j)) (hy : ys.length = xs.length)
 (hok : ((yE P t).all fun f => okC P f.type (xs.getD f.offset undef) (ys.getD f.offset undef)) = true) :
 iN P (Op.equalIn (d + 2) t (.agg xs.toArray) (.agg ys.toArray)) = some ((List.range xs.length).all fun j => zJ (xs.getD j undef) (ys.getD j undef)) := by
 rw [dz] at hok
 have hmem : ∀ f ∈ yE P t, (f.name != "_") = true ∧ f.offset < xs.length := fun f hf' => by
  have : (f.name != "_", f.offset) ∈ (List.range xs.length).map fun j => (true, j) := by rw [← hf]; exact eV hf'
  obtain ⟨j, hj, he⟩ := dy.1 this
  simp only [gM] at he
  exact ⟨he.1.symm, by rw [← he.2]; exact dB.1 hj⟩
 rw [b4S hu hst (fun f => zJ (xs.getD f.offset undef) (ys.getD f.offset undef)) ?_]
 ·congr 1
  have h1 : (yE P t).all (fun f => zJ (xs.getD f.offset undef) (ys.getD f.offset undef)) = ((yE P t).map fun f => (f.name != "_", f.offset)).all fun p => zJ (xs.getD p.2 undef) (ys.getD p.2 undef) := by
   rw [List.all_map]; rfl
  rw [h1, hf, List.all_map]
  rfl
 ·intro f hf'
  obtain ⟨h1, h2⟩ := hmem f hf'
  refine ⟨by simpa using h1, ?_⟩
  have hx : xs.toArray[f.offset]? = some (xs.getD f.offset undef) := by
   rw [fo, dg, dx h2]; rfl
  have hy' : ys.toArray[f.offset]? = some (ys.getD f.offset undef) := by
   rw [fo, dg, dx (by omega)]; rfl
  rw [iL, c0t (hok f hf') hx, da, iL, c0t (hok f hf') hy', da]
  exact eq1 d (hok f hf')
theorem uO {t t2 : TypeId} {cx cy : Bool} {xs ys : List Value} (hu : P.underlying t = some (.struct (yE P t).toArray)) (hst : P.stoodInHeld t = false) (hg : P.eqGuardType P.depth t = false)
 (hf : ((yE P t).map fun f => (f.name != "_", f.offset)) = (List.range xs.length).map fun j => (true, j)) (hy : ys.length = xs.length)
 (hok : ((yE P t).all fun f => okC P f.type (xs.getD f.offset undef) (ys.getD f.offset undef)) = true) (hx : xs.all jB = true) (hys : ys.all jB = true) :
 kV P .eql t t2 cx cy (.agg xs.toArray) (.agg ys.toArray) = some (.bool ((List.range xs.length).all fun j => zJ (xs.getD j undef) (ys.getD j undef))) ∧
 kV P .neq t t2 cx cy (.agg xs.toArray) (.agg ys.toArray) = some (.bool (!((List.range xs.length).all fun j => zJ (xs.getD j undef) (ys.getD j undef)))) :=
 ⟨b5P _ hg hx hys (a2x 9998 hu hst hf hy hok), b3S _ hg hx hys (a2x 9998 hu hst hf hy hok)⟩
theorem b4H {t : TypeId} {k : IntKind} (hu : P.underlying t = some (.struct (yE P t).toArray)) (hst : P.stoodInHeld t = false)
 (hf : ((yE P t).map fun f => (f.name != "_", f.offset)) = (List.range 2).map fun j => (true, j))
 (hok : ∀ a b c d : Int, ((yE P t).all fun f => okC P f.type ([Value.int k a, .int k b].getD f.offset undef) ([Value.int k c, .int k d].getD f.offset undef)) = true) (a b : Int × Int) :
 iN P (Op.equal t (.agg #[.int k a.1, .int k a.2]) (.agg #[.int k b.1, .int k b.2])) = some (decide (b = a)) := by
 have hmd : Op.maxDepth = 9998 + 2 := by decide
 unfold Op.equal
 rw [hmd, a2x (xs := [.int k a.1, .int k a.2]) (ys := [.int k b.1, .int k b.2]) 9998 hu hst hf rfl (hok _ _ _ _)]
 congr 1
 show ((a.1 == b.1) && ((a.2 == b.2) && true)) = _
 rw [eG]
 simp only [fD, dc, beq_iff_eq, decide_eq_true_eq, Prod.ext_iff]
 constructor
 ·rintro ⟨h1, h2⟩; exact ⟨h1.symm, h2.symm⟩
 ·rintro ⟨h1, h2⟩; exact ⟨h1.symm, h2.symm⟩
theorem b6O {k : IntKind} (a : Int × Int) : Instr.sameBits 10000 (.agg #[.int k a.1, .int k a.2]) (.agg #[.int k a.1, .int k a.2]) = true := by
 show ((2 : Nat) == 2 && ([(Value.int k a.1, Value.int k a.1), (Value.int k a.2, Value.int k a.2)]).all fun (x, y) => Instr.sameBits 9999 x y) = true
 have h : ∀ n, Instr.sameBits 9999 (.int k n) (.int k n) = true := fun n => by
  show (k == k && n == n) = true
  cases k <;> simp <;> rfl
 simp [h]
section
variable {H : Heap} {α : Type} {n : Nat} {cel : α → List Value} {v : Value} {xs : List α}
theorem Sl.aM (h : Sl n cel H v xs) (o : Oper) (l : List Value) (H' : Heap) (k : IntKind) (a : Int) (K : Value → Heap → Prop) (h0 : 0 < xs.length) (h1 : 0 ≤ a) (h2 : a ≤ xs.length) :
 nS P o l H' (some n) v none (some (.int k a)) K = oL (kT v n 0 a.toNat) fun v => K v H' := by
 obtain ⟨m, rfl⟩ : ∃ m, n = m + 1 := ⟨n - 1, by have := h.pos; omega⟩
 exact h.rd.aM (iK h.hc xs) o l H' k a K h0 h1 h2
theorem Sl.aL (h : Sl n cel H v xs) (o : Oper) (l : List Value) (H' : Heap) (k : IntKind) (a : Int) (K : Value → Heap → Prop) (h0 : 0 < xs.length) (h1 : 0 ≤ a) (h2 : a ≤ xs.length) :
 nS P o l H' (some n) v (some (.int k a)) none K = oL (kT v n a.toNat (xs.length - a).toNat) fun v => K v H' := by
 obtain ⟨m, rfl⟩ : ∃ m, n = m + 1 := ⟨n - 1, by have := h.pos; omega⟩
 rw [h.rd.aL (iK h.hc xs) o l H' k a K h0 h1 h2]
 congr 2
 omega
theorem Sl.sub (h : Sl n cel H v xs) (lo k : Nat) (hk : lo + k ≤ xs.length) (h0 : 0 < xs.length) : Sl n cel H (kT v n lo k) ((xs.drop lo).take k) := by
 refine ⟨?_, h.hc, h.pos⟩
 have hne : xs.flatMap cel ≠ [] := fun e => by
  have := iK h.hc xs
  rw [e, ey] at this
  have hp := gV h0 h.pos
  omega
 have := h.rd.sub lo k (by rw [iK h.hc, ← eY]; exact dQ _ hk) hne
 rw [tA h.hc, a2I h.hc] at this
 exact this
theorem Sl.cD (h : Sl n cel H v xs) (k : Nat) (hk : k ≤ xs.length) (h0 : 0 < xs.length) : Sl n cel H (kT v n 0 k) (xs.take k) := by
 simpa using h.sub 0 k (by omega) h0
theorem Sl.cE (h : Sl n cel H v xs) (lo : Nat) (hk : lo ≤ xs.length) (h0 : 0 < xs.length) : Sl n cel H (kT v n lo (xs.length - lo)) (xs.drop lo) := by
 have := h.sub lo (xs.length - lo) (by omega) h0
 rwa [List.take_of_length_le (by simp)] at this
end
def a8t (P : Program) (ts : Array TypeId) (ty : TypeId) (cx cy : Bool) (x y : Value) : Option Value := (kQ P ⟨none, .call { callee := .builtin .max, args := #[oP cx 0 x, oP cy 1 y], argTypes := ts }, ty, "", #[], none⟩ [x, y] .nil).map (·.1)
theorem b8m (d : Option Tmp) (ty : TypeId) (pos : String) (af : Array Edge) (g : Option (Nat × Bool)) (ts : Array TypeId) (x y : Operand) (l : List Value) (H : Heap) (K : Value → Heap → Prop) :
 lU P ⟨d, .call { callee := .builtin .max, args := #[x, y], argTypes := ts }, ty, pos, af, g⟩ l H K = jL x l fun x' => jL y l fun y' => jV (a8t P ts ty (lH x) (lH y) x' y') fun v => K v H := by
 have h : opD P ⟨d, .call { callee := .builtin .max, args := #[x, y], argTypes := ts }, ty, pos, af, g⟩ l H = (a8t P ts ty (lH x) (lH y) (ev l x) (ev l y)).map fun v => (v, H) :=
  mV (P := P) ⟨d, .call { callee := .builtin .max, args := #[x, y], argTypes := ts }, ty, pos, af, g⟩ ⟨none, .call { callee := .builtin .max, args := #[oP (lH x) 0 (ev l x), oP (lH y) 1 (ev l y)], argTypes := ts }, ty, "", #[], none⟩ l [ev l x, ev l y] H
   (by cases x <;> cases y <;> rfl) (by cases x <;> cases y <;> kernel_rfl)
 have h2 : jY ((a8t P ts ty (lH x) (lH y) (ev l x) (ev l y)).map fun v => (v, H)) K = jV (a8t P ts ty (lH x) (lH y) (ev l x) (ev l y)) fun v => K v H := by cases a8t P ts ty (lH x) (lH y) (ev l x) (ev l y) <;> rfl
 simp only [lU, h, jL, Op.operands, Call.operands, h2]
 simp [and_assoc]
theorem b4c (ts : Array TypeId) (ty : TypeId) (cx cy : Bool) (a b : Int) : a8t P ts ty cx cy (.int .i64 a) (.int .i64 b) = some (.int .i64 (max a b)) := by
 have h : a8t P ts ty cx cy (.int .i64 a) (.int .i64 b) = some (.int .i64 (if b > a then b else a)) := by cases cx <;> cases cy <;> kernel_rfl
 rw [h]
 congr 2
 split <;> omega
def a8T (P : Program) (ts : Array TypeId) (ty : TypeId) (cx cy : Bool) (x y : Value) : Option Value := (kQ P ⟨none, .call { callee := .builtin .min, args := #[oP cx 0 x, oP cy 1 y], argTypes := ts }, ty, "", #[], none⟩ [x, y] .nil).map (·.1)
theorem b7C (d : Option Tmp) (ty : TypeId) (pos : String) (af : Array Edge) (g : Option (Nat × Bool)) (ts : Array TypeId) (x y : Operand) (l : List Value) (H : Heap) (K : Value → Heap → Prop) :
 lU P ⟨d, .call { callee := .builtin .min, args := #[x, y], argTypes := ts }, ty, pos, af, g⟩ l H K = jL x l fun x' => jL y l fun y' => jV (a8T P ts ty (lH x) (lH y) x' y') fun v => K v H := by
 have h : opD P ⟨d, .call { callee := .builtin .min, args := #[x, y], argTypes := ts }, ty, pos, af, g⟩ l H = (a8T P ts ty (lH x) (lH y) (ev l x) (ev l y)).map fun v => (v, H) :=
  mV (P := P) ⟨d, .call { callee := .builtin .min, args := #[x, y], argTypes := ts }, ty, pos, af, g⟩ ⟨none, .call { callee := .builtin .min, args := #[oP (lH x) 0 (ev l x), oP (lH y) 1 (ev l y)], argTypes := ts }, ty, "", #[], none⟩ l [ev l x, ev l y] H
   (by cases x <;> cases y <;> rfl) (by cases x <;> cases y <;> kernel_rfl)
 have h2 : jY ((a8T P ts ty (lH x) (lH y) (ev l x) (ev l y)).map fun v => (v, H)) K = jV (a8T P ts ty (lH x) (lH y) (ev l x) (ev l y)) fun v => K v H := by cases a8T P ts ty (lH x) (lH y) (ev l x) (ev l y) <;> rfl
 simp only [lU, h, jL, Op.operands, Call.operands, h2]
 simp [and_assoc]
theorem b6S (ts : Array TypeId) (ty : TypeId) (cx cy : Bool) (a b : Int) : a8T P ts ty cx cy (.int .i64 a) (.int .i64 b) = some (.int .i64 (min a b)) := by
 have h : a8T P ts ty cx cy (.int .i64 a) (.int .i64 b) = some (.int .i64 (if b < a then b else a)) := by cases cx <;> cases cy <;> kernel_rfl
 rw [h]
 congr 2
 split <;> omega
section
variable {H : Heap}
def Var (H : Heap) (A n : Nat) (cs : List Value) : Prop := n = cs.length ∧ ∃ ty rw lo ver, iP H A = some (.cells cs ty rw lo ver) ∧ lo ≤ cs.length
theorem Var.ab {H' : Heap} {A n : Nat} {cs : List Value} (h : Var H A n cs) (hk : ∀ B, B < H.length → iP H' B = iP H B) : Var H' A n cs := by
 obtain ⟨h1, ty, rw, lo, ver, h2, h3⟩ := h
 exact ⟨h1, ty, rw, lo, ver, by rw [hk A (jG h2), h2], h3⟩
theorem Var.ld {A n : Nat} {cs : List Value} (h : Var H A n cs) (s : Option Nat) (off : Nat) : oJ (some false) s H (ptr A off n) = cs[off]? := by
 obtain ⟨rfl, ty, rw, lo, ver, h1, h2⟩ := h
 simp only [oJ, jF, h1]
 by_cases h : off < cs.length
 ·rw [if_pos (by simp; omega)]
  simp only [da]
  rw [dY (by omega), dH]
  simp
 ·rw [if_neg (by simp; omega), eu (by omega)]
  rfl
theorem Var.ag {A n : Nat} {cs : List Value} (h : Var H A n cs) (m off : Nat) : oJ (some true) (some m) H (ptr A off n) = if off + m ≤ cs.length then some (.agg ((cs.drop off).take m).toArray) else none := by
 obtain ⟨rfl, ty, rw, lo, ver, h1, h2⟩ := h
 simp only [oJ, jF, h1, da]
 by_cases h : off + m ≤ cs.length
 ·rw [if_pos (by simp; omega), if_pos h]
  rfl
 ·rw [if_neg (by simp; omega), if_neg h]
  rfl
theorem St.var {P : Program} {H0 : Base} {os : List Ob} (hS : St P H0 H os) (i : Nat) {A n : Nat} {cs : List Value} (ho : os[i]? = some ⟨ptr A 0 n, 0, cs⟩) : Var H A n cs := by
 obtain ⟨h1, ty, lo, ver, h2, h3⟩ := hS.cell i ho
 exact ⟨h1, ty, true, lo, ver, h2, h3⟩
theorem St.va {H0 : Heap} {os : List Ob} (hS : St P H0 H os) {A n : Nat} {cs : List Value} (h : Var H0 A n cs) : Var H A n cs := h.ab hS.ab
end
theorem sH {P : Program} (t t2 : TypeId) (cx cy : Bool) (u x : UInt8) : kV P .add t t2 cx cy (.string ⟨#[u]⟩) (.string ⟨#[x]⟩) = some (.string ⟨#[u, x]⟩) := by
 rw [a7g _ _ _ _ _ _ (by show 1 + 1 < 9223372036854775808; decide)]
 rfl
theorem vQ {P : Program} {H : Heap} {s t : TypeId} {v : Value} {n : Int} (h : RdAt H v 1 [.int .u8 n]) (hs : lE P s = true) (ht : oQ P t = true) (hbt : lE P t = false) (h0 : 0 ≤ n) (h1 : n < 256) (K : Value → Heap → Prop) :
 tH P s t H v K = K (.string ⟨#[UInt8.ofNat n.toNat]⟩) H := by
 obtain ⟨m, rfl⟩ : ∃ m : Nat, n = Int.ofNat m := ⟨n.toNat, by simp [fi h0]⟩
 have hm : m < 256 := by have : (m : Int) < 256 := h1; omega
 rcases h with ⟨_, h⟩ | ⟨A, i, e, row, ty, rw, lo, ver, k, g1, g2, g3, g4, g5, g6, rfl⟩
 ·cases h
 have hk : k = 1 := by simp at g6; omega
 subst hk
 have hc : jF H A i e 1 = some [.int .u8 (Int.ofNat m)] := by
  simp only [jF, g1]
  rw [if_pos (by simp at g4 ⊢; omega)]
  exact congrArg some g5
 have hb : nH [.int .u8 (Int.ofNat m)] = some ⟨#[UInt8.ofNat m]⟩ := by simp [nH, a1B, a1m, hm]
 have hd : opD P ⟨none, .convert s t (.const (.slice (some ⟨A, i, some e⟩) 1 1)), t, "", #[], none⟩ [] H = some (.string ⟨#[UInt8.ofNat m]⟩, H) := by
  have hf : flat (.slice (some ⟨A, i, some e⟩) 1 1) = false := rfl
  simp only [opD, ev, hf, hs, ht, hc, hb, fQ, dW, if_false, Bool.and_self, if_true, da, dP]
 unfold tH
 rw [hd]
 apply propext
 constructor
 ·rintro ⟨v, H1, h2, h3⟩
  injection (cZ h2) with e1 e2
  subst e1 e2
  exact h3
 ·intro h3
  exact ⟨_, _, rfl, h3⟩
theorem b0K {P : Program} {t : TypeId} {n : Nat} {elem : TypeId} {size : Nat} (ha : P.underlying t = some (.array n elem)) (hs : iD P elem = some size) (A i e : Nat) (k : IntKind) (j : Int) (h0 : 0 ≤ j) (h1 : j < n) :
 a1c (iY P t) P t (ptr A i e) (.int k j) = some (ptr A (i + j.toNat * size) e) := by
 have hn : iY P t = none := by simp [iY, iI, ha]
 rw [hn]
 simp only [a1c, a3k, ha, ptr, hs, da]
 rw [if_pos (by simp [h0, h1])]
end
end Go.Ds
namespace Go.Ds
section
variable {P : Program}
def c1D (inv : List Nat) (e : Edge) : Edge := { e with on := inv.getD e.on 0 }
def yK (inv : List Nat) (o : Oper) : Oper := { o with after := o.after.map (c1D inv), guard := o.guard.map fun g => (inv.getD g.1 0, g.2) }
def kD (π inv : List Nat) (ops : Array Oper) : Array Oper := (π.map fun i => yK inv (ops.getD i default)).toArray
def a8o (π inv : List Nat) (ops : Array Oper) : Bool :=
 decide (π.length = ops.size) && decide (inv.length = ops.size) && (List.range ops.size).all (fun i => decide (π.getD i 0 < ops.size) && decide (inv.getD i 0 < ops.size) && decide (inv.getD (π.getD i 0) 0 = i) && decide (π.getD (inv.getD i 0) 0 = i)) &&
 ops.toList.all fun o => o.after.toList.all (fun e => decide (e.on < ops.size)) && (match o.guard with | some g => decide (g.1 < ops.size) | none => true)
structure Perm (π inv : List Nat) (ops : Array Oper) : Prop where
 len : π.length = ops.size
 pi : ∀ i, i < ops.size → π.getD i 0 < ops.size
 iv : ∀ i, i < ops.size → inv.getD i 0 < ops.size
 ip : ∀ i, i < ops.size → inv.getD (π.getD i 0) 0 = i
 pv : ∀ i, i < ops.size → π.getD (inv.getD i 0) 0 = i
 edge : ∀ (i : Nat) (o : Oper), ops[i]? = some o → ∀ e ∈ o.after, e.on < ops.size
 guard : ∀ (i : Nat) (o : Oper) (g : Nat × Bool), ops[i]? = some o → o.guard = some g → g.1 < ops.size
theorem b8i {π inv : List Nat} {ops : Array Oper} (h : a8o π inv ops = true) : Perm π inv ops := by
 unfold a8o at h
 simp only [dc, decide_eq_true_eq, dz, dB] at h
 obtain ⟨⟨⟨h1, h2⟩, h3⟩, h4⟩ := h
 refine ⟨h1, fun i hi => (h3 i hi).1.1.1, fun i hi => (h3 i hi).1.1.2, fun i hi => (h3 i hi).1.2, fun i hi => (h3 i hi).2, fun i o ho e he => ?_, fun i o g ho hg => ?_⟩
 ·exact (h4 o (dT (i := i) (by simpa using ho))).1 e (by simpa using he)
 ·have := (h4 o (dT (i := i) (by simpa using ho))).2
  rw [hg] at this
  simpa using this
variable {π inv : List Nat} {ops : Array Oper}
theorem a8e (p : Nat) : (kD π inv ops)[p]? = (π[p]?).map fun i => yK inv (ops.getD i default) := by
 simp [kD]
theorem qX (D : Perm π inv ops) {p i : Nat} {o : Oper} (hp : p < ops.size) (hi : π.getD p 0 = i) (ho : ops[i]? = some o) : (kD π inv ops)[p]? = some (yK inv o) := by
 rw [a8e]
 have h1 : π[p]? = some i := by
  rw [dg] at hi
  rw [dx (by rw [D.len]; exact hp)] at hi ⊢
  simpa using hi
 rw [h1]
 simp only [dP]
 rw [ee, ho]
 rfl
theorem qG (D : Perm π inv ops) : (kD π inv ops).size = ops.size := by simp [kD, D.len]
theorem a4Y (D : Perm π inv ops) (tmps : Array Value) {j : Nat} (hj : j < ops.size) : yielded (kD π inv ops) tmps (inv.getD j 0) = yielded ops tmps j := by
 have ho : ops[j]? = some ops[j] := dj.2 ⟨hj, rfl⟩
 unfold yielded
 rw [qX D (D.iv j hj) (D.pv j hj) ho, ho]
 rfl
theorem a5W (D : Perm π inv ops) (tmps : Array Value) {i : Nat} {o : Oper} (ho : ops[i]? = some o) : Region.wanted (yK inv o) (yielded (kD π inv ops) tmps) = Region.wanted o (yielded ops tmps) := by
 unfold Region.wanted
 have e : (yK inv o).guard = o.guard.map fun g => (inv.getD g.1 0, g.2) := rfl
 rw [e]
 cases hg : o.guard with
 | none => rfl
 | some g =>
   simp only [dP]
   rw [a4Y D tmps (D.guard i o g ho hg)]
theorem b7F (ro : Option Nat) (ρ : Operand → Value) (o : Oper) : (yK inv o).semAt ro ρ = o.semAt ro ρ := by
 obtain ⟨dst, op, type, pos, after, guard⟩ := o
 rfl
theorem b1O (w : World) (ρ : Operand → Value) (o : Oper) : (yK inv o).about P w ρ = o.about P w ρ := by
 obtain ⟨dst, op, type, pos, after, guard⟩ := o
 rfl
theorem b4K (F : Fence) (n : Nat) (o : Oper) (a : Act) (next : Act → World → Prop) (Q : Exit → Act → World → Prop) (r : Result Next) : (yK inv o).uponIn F n P a next Q r = o.uponIn F n P a next Q r := by
 obtain ⟨dst, op, type, pos, after, guard⟩ := o
 cases r with
 | ok x w => cases x <;> rfl
 | halt x w => cases x <;> rfl
theorem b1v (D : Perm π inv ops) (F : Fence) (n : Nat) (Q : Exit → Act → World → Prop) {i : Nat} (hi : i < ops.size) (K : Act → World → Prop) (a : Act) (w : World) :
 wpOpIn F n P (kD π inv ops) Q (inv.getD i 0) K a w = wpOpIn F n P ops Q i K a w := by
 have ho : ops[i]? = some ops[i] := dj.2 ⟨hi, rfl⟩
 unfold wpOpIn
 rw [qX D (D.iv i hi) (D.pv i hi) ho, ho]
 simp only [a5W D a.tmps ho, Oper.wpIn, b1O, b4K, b7F]
 rfl
def c1p (inv : List Nat) (n : Nat) (listed listed' : Array Bool) : Prop := listed.size = n ∧ listed'.size = n ∧ ∀ i, i < n → listed.getD i false = listed'.getD (inv.getD i 0) false
theorem xC (D : Perm π inv ops) {listed listed' : Array Bool} (hc : c1p inv ops.size listed listed') {i : Nat} (hi : i < ops.size) :
 i ∈ Region.ready .any ops listed ↔ inv.getD i 0 ∈ Region.ready .any (kD π inv ops) listed' := by
 have ho : ops[i]? = some ops[i] := dj.2 ⟨hi, rfl⟩
 have ho' := qX D (D.iv i hi) (D.pv i hi) ho
 have hsz := qG D
 obtain ⟨c1, c2, c3⟩ := hc
 constructor
 ·intro h
  obtain ⟨o, h1, h2, h3⟩ := pE c1 h
  rw [ho] at h1
  obtain rfl := cZ h1
  refine a0c (by rw [hsz]; exact c2) ho' (by rw [← c3 i hi]; exact h2) ?_
  intro e he hb
  have he' : e ∈ (ops[i]).after.map (c1D inv) := he
  obtain ⟨e0, he0, rfl⟩ := Array.mem_map.1 he'
  have := h3 e0 he0 hb
  show listed'.getD (inv.getD e0.on 0) false = true
  rw [← c3 _ (D.edge i _ ho e0 he0)]
  exact this
 ·intro h
  obtain ⟨o, h1, h2, h3⟩ := pE (by rw [hsz]; exact c2) h
  rw [ho'] at h1
  obtain rfl := cZ h1
  refine a0c c1 ho (by rw [c3 i hi]; exact h2) ?_
  intro e he hb
  have := h3 (c1D inv e) (Array.mem_map.2 ⟨e, he, rfl⟩) hb
  rw [c3 _ (D.edge i _ ho e he)]
  exact this
theorem b5r (D : Perm π inv ops) (F : Fence) (k : Nat) {Q : Exit → Act → World → Prop} : ∀ (fuel : Nat) (listed listed' : Array Bool) (a : Act) (w : World), c1p inv ops.size listed listed' →
 wpAnyIn F k P .any (kD π inv ops) Q fuel listed' a w → wpAnyIn F k P .any ops Q fuel listed a w := by
 have hsz := qG D
 have nil1 : ∀ {listed listed' : Array Bool}, c1p inv ops.size listed listed' → (Region.ready .any ops listed = [] ↔ Region.ready .any (kD π inv ops) listed' = []) := by
  intro listed listed' hc
  constructor
  ·intro h
   cases hr : Region.ready .any (kD π inv ops) listed' with
   | nil => rfl
   | cons p r =>
     exfalso
     have hp : p ∈ Region.ready .any (kD π inv ops) listed' := by rw [hr]; exact dU ..
     obtain ⟨o, h1, _, _⟩ := pE (by rw [hsz]; exact hc.2.1) hp
     have hpn : p < ops.size := by rw [← hsz]; exact (dj.1 h1).1
     have := (xC D hc (D.pi p hpn)).2 (by rw [D.ip p hpn]; exact hp)
     rw [h] at this
     cases this
  ·intro h
   cases hr : Region.ready .any ops listed with
   | nil => rfl
   | cons i r =>
     exfalso
     have hi : i ∈ Region.ready .any ops listed := by rw [hr]; exact dU ..
     obtain ⟨o, h1, _, _⟩ := pE hc.1 hi
     have := (xC D hc (dj.1 h1).1).1 hi
     rw [h] at this
     cases this
 intro fuel
 induction fuel with
 | zero =>
   intro listed listed' a w hc h
   exact ⟨(nil1 hc).2 h.1, h.2⟩
 | succ fuel ih =>
   intro listed listed' a w hc h
   refine ⟨fun hn => h.1 ((nil1 hc).1 hn), fun i hi => ?_⟩
   obtain ⟨o, h1, _, _⟩ := pE hc.1 hi
   have hin := (dj.1 h1).1
   have h2 := h.2 _ ((xC D hc hin).1 hi)
   rw [b1v D F k Q hin] at h2
   refine wpOpIn_mono (fun a' w' h3 => ih _ _ a' w' ⟨by simpa using hc.1, by simpa using hc.2.1, fun j hj => ?_⟩ h3) h2
   have e1 := sX (listed := listed) (i := i) (by rw [hc.1]; exact hin) j
   have e2 := sX (listed := listed') (i := inv.getD i 0) (by rw [hc.2.1]; exact D.iv i hin) (inv.getD j 0)
   have e3 : (inv.getD j 0 = inv.getD i 0) ↔ j = i := ⟨fun h => by rw [← D.pv j hj, h, D.pv i hin], fun h => by rw [h]⟩
   rw [eG, e1, e2, e3, hc.2.2 j hj]
end
section
variable {P : Program} {H : Heap} {π inv : List Nat} {ops : Array Oper}
theorem Sim.cG (jZ : P.follows .mixedOrders = true) {id : Nat} (Dp : Perm π inv ops) {fl : Fl} (D : Draw P fl (kD π inv ops)) {T : Nat → List Value × Heap} {val : Nat → Value} (X : Text P (kD π inv ops) T val)
 (hread : ∀ i m o, (i, m) ∈ mK fl (kD π inv ops) → (kD π inv ops)[i]? = some o → Region.wanted o (iV (kD π inv ops) (T i).1) = true → ∃ H2, opD P o (T i).1 (T m).2 = some (val i, H2)) :
 Sim P (.region id ops true) (T 0).1 (T 0).2 .normal (T ops.size).1 (T ops.size).2 := by
 intro ro k B ρ w a hr hE hl hM hB
 have hsz := qG Dp
 have := a3z D X hread ro k B hr hE hM
 rw [hsz] at this
 exact wpIn_region_any jZ (b5r Dp (fe ro) k ops.size _ _ a _ ⟨by simp, by simp, fun i hi => by
  have := Dp.iv i hi
  simp only [ee, Array.getElem?_replicate, hi, this, if_true]⟩ this)
theorem a3j (D : Perm π inv ops) (l : List Value) {j : Nat} (hj : j < ops.size) : iV (kD π inv ops) l (inv.getD j 0) = iV ops l j := by
 have ho : ops[j]? = some ops[j] := dj.2 ⟨hj, rfl⟩
 unfold iV
 rw [qX D (D.iv j hj) (D.pv j hj) ho, ho]
 rfl
theorem xS (D : Perm π inv ops) (l : List Value) {i : Nat} {o : Oper} (ho : ops[i]? = some o) : Region.wanted (yK inv o) (iV (kD π inv ops) l) = Region.wanted o (iV ops l) := by
 unfold Region.wanted
 have e : (yK inv o).guard = o.guard.map fun g => (inv.getD g.1 0, g.2) := rfl
 rw [e]
 cases hg : o.guard with
 | none => rfl
 | some g =>
   simp only [dP]
   rw [a3j D l (D.guard i o g ho hg)]
theorem b0n (o : Oper) (l : List Value) (K : Value → Heap → Prop) : lU P (yK inv o) l H K = lU P o l H K := by
 obtain ⟨dst, op, type, pos, after, guard⟩ := o
 rfl
theorem a4r (D : Perm π inv ops) : ∀ (os : List Oper) (tr : List (List Value × Heap × Value)) (l : List Value) (H : Heap) (K : List (List Value × Heap × Value) → List Value → Heap → Prop), (∀ o ∈ os, ∃ i : Nat, ops[i]? = some o) →
 mL P (kD π inv ops) (os.map (yK inv)) tr l H K = mL P ops os tr l H K
 | [], _, _, _, _, _ => rfl
 | o :: os, tr, l, H, K, h => by
   obtain ⟨i, ho⟩ := h o (by simp)
   have ih := fun tr l H => a4r D os tr l H K fun o ho => h o (by simp [ho])
   rw [ef, mL, mL, xS D l ho]
   have e : (yK inv o).dst = o.dst := rfl
   simp only [b0n, e, ih]
def c2v (o : Option Oper) (os : List Oper) : List Oper := match o with | some o => o :: os | none => os
def sel (os : List Oper) : List Nat → List Oper
 | [] => []
 | i :: π => c2v os[i]? (sel os π)
theorem b7p (os : List Oper) : sel os [] = [] := rfl
theorem a6o (os : List Oper) (i : Nat) (π : List Nat) : sel os (i :: π) = c2v os[i]? (sel os π) := rfl
theorem a3O (o : Oper) (os : List Oper) : c2v (some o) os = o :: os := rfl
theorem b0g (os : List Oper) : ∀ (π : List Nat), (∀ i ∈ π, i < os.length) → sel os π = π.map fun i => os.toArray.getD i default
 | [], _ => rfl
 | i :: π, h => by
   have hi := h i (by simp)
   rw [a6o, b0g os π fun j hj => h j (by simp [hj]), dx hi, a3O, ef]
   congr 1
   simp [ee, hi]
def a0a (P : Program) (os : List Oper) (tr : List (List Value × Heap × Value)) (H1 : Heap) (π : List Nat) : List (Nat × Nat) → Prop
 | [] => True
 | (p, m) :: r => rdW P os.toArray (os[π.getD p 0]?) tr[p]? (trH tr[m]? H1) ∧ a0a P os tr H1 π r
theorem a8j (os : List Oper) (tr) (H1 : Heap) (π : List Nat) : a0a P os tr H1 π [] = True := rfl
theorem a7R (os : List Oper) (tr) (H1 : Heap) (π : List Nat) (p m : Nat) (r : List (Nat × Nat)) : a0a P os tr H1 π ((p, m) :: r) = (rdW P os.toArray (os[π.getD p 0]?) tr[p]? (trH tr[m]? H1) ∧ a0a P os tr H1 π r) := rfl
theorem a2u {os : List Oper} {tr} {H1 : Heap} {π : List Nat} : ∀ {tab : List (Nat × Nat)}, a0a P os tr H1 π tab → ∀ x ∈ tab, rdW P os.toArray (os[π.getD x.1 0]?) tr[x.1]? (trH tr[x.2]? H1)
 | [], _, x, hx => by cases hx
 | (i, m) :: r, h, x, hx => by
   rcases eA.1 hx with rfl | hx
   ·exact h.1
   ·exact a2u h.2 x hx
theorem Wp.cH (jZ : P.follows .mixedOrders = true) {id : Nat} {os : List Oper} {l : List Value} {Q : nJ} (π inv : List Nat) (fl : Fl) (tab : List (Nat × Nat)) (hp : a8o π inv os.toArray = true)
 (htab : a2h P fl (kD π inv os.toArray) = some tab) (hn : uJ (kD π inv os.toArray) tab = true)
 (h : mL P os.toArray (sel os π) [] l H fun tr l1 H1 => Q .normal l1 H1 ∧ a0a P os tr H1 π tab) : Wp P (.region id os.toArray true) l H Q := by
 have Dp := b8i hp
 obtain ⟨D, htb⟩ := a3b htab
 have hsz := qG Dp
 have hmem : ∀ i ∈ π, i < os.length := fun i hi => by
  obtain ⟨p, hpl, hpe⟩ := dR.1 hi
  have := Dp.pi p (by rw [← Dp.len]; exact hpl)
  rw [dg, dx hpl, eT, hpe] at this
  simpa using this
 have hsel : (sel os π).map (yK inv) = (kD π inv os.toArray).toList := by
  rw [b0g os π hmem]
  simp [kD]
 rw [← a4r Dp (sel os π) [] l H _ (fun o ho => by
  rw [b0g os π hmem, dy] at ho
  obtain ⟨i, hi, rfl⟩ := ho
  have := hmem i hi
  exact ⟨i, by simp [ee, this]⟩), hsel] at h
 obtain ⟨T, val, l', H', ext, h0, h1, h2, h3, h4, h5, h6⟩ := uE (kD π inv os.toArray).toList 0 rfl [] l H h
 have hlen : (kD π inv os.toArray).toList.length = os.toArray.size := by rw [fI, hsz]
 rw [hlen] at h1 h2 h3 h4
 have := Sim.cG jZ (id := id) Dp D (T := T) (val := val) ⟨fun k hk => by rw [hsz] at hk; simpa using h4 k hk⟩ fun i m o hm ho hw => by
  rw [← htb] at hm
  have hr := a2u h6 (i, m) hm
  have hi : i < os.toArray.size := by rw [← hsz]; exact (dj.1 ho).1
  have hpi := Dp.pi i hi
  have hoo : os.toArray[π.getD i 0]? = some (os.toArray[π.getD i 0]) := dj.2 ⟨hpi, rfl⟩
  have hat := qX (inv := inv) Dp hi rfl hoo
  rw [ho] at hat
  have hat := cZ hat
  have hoo' : os[π.getD i 0]? = some (os.toArray[π.getD i 0]) := by rw [← hoo]; simp
  simp only [fW] at hr
  rw [hoo', h3 i hi] at hr
  unfold rdW at hr
  rw [hat, xS Dp _ hoo] at hw
  have hr := hr hw
  have hno : xR o = true := by
   unfold uJ at hn
   have := dz.1 hn (i, m) hm
   simpa [ho] using this
  have hTm : trH ext[m]? H' = (T m).2 ∨ os.toArray.size < m := by
   unfold trH
   by_cases hm2 : m < os.toArray.size
   ·left; rw [h3 m hm2]
   ·by_cases hm3 : m = os.toArray.size
    ·left
     rw [eu (by omega), hm3, h1]
    ·right; omega
  rcases hTm with hTm | hTm
  ·rw [hTm, ← b0n (inv := inv), ← hat] at hr
   obtain ⟨v, H2, h7, h8⟩ := b0Q hno hr
   exact ⟨H2, by rw [h7, h8]⟩
  ·exfalso
   rw [htb] at hm
   have := a2b hm
   rw [hsz] at this
   omega
 rw [h0, h1] at this
 exact ⟨_, _, _, this, h5⟩
end
def RA :=
 And.intro @b8L <| And.intro @b5R <| And.intro @b8h <| And.intro @c2f <| And.intro @c0H <| And.intro @b3K <| And.intro @b7g <| And.intro @c2l <| And.intro @b7k <| And.intro @b8Z <| And.intro @b5h <| And.intro @a6x <| And.intro @b2g <| And.intro @b4B <| And.intro @b1m <| And.intro @a8G <| And.intro @a9i <| And.intro @a7y <| And.intro @b5o <| And.intro @a9G <| And.intro @b6I <| And.intro @b3Y <| And.intro @b3n <| And.intro @b2G <| And.intro @b9e <| And.intro @b2q <| And.intro @a1R <| And.intro @a3e <| And.intro @a9l <| And.intro @b4D <| And.intro @b1z <| And.intro @b9w <| And.intro @a3s <| And.intro @a3g <| And.intro @b6c <| And.intro @c0W <| And.intro @a7L <| And.intro @a7o <| And.intro @b3e <| And.intro @b5S <| And.intro @a5d <| And.intro @a8A <| And.intro @a8q <| And.intro @a9Z <| And.intro @a9M <| And.intro @a6R <| And.intro @a3m <| And.intro @a5y <| And.intro @a2z <| And.intro @b2o <| And.intro @b8m <| And.intro @b7C <| And.intro @b6k <| And.intro @a9z <| And.intro @b2S <| And.intro @b1W <| And.intro @a9o <| And.intro @a9D <| And.intro @a7K <| And.intro @a6l <| And.intro @b5u <| And.intro @b2e <| And.intro @a3q <| And.intro @a8R <| And.intro @a6y <| And.intro @a3n <| And.intro @a7a <| And.intro @b0d <| And.intro @a7l <| @b4l
def RB :=
 And.intro @b8q <| And.intro @a8I <| And.intro @a9J <| And.intro @b1J <| And.intro @a9O <| And.intro @a6N <| And.intro @a6c <| And.intro @b4N <| And.intro @a6r <| And.intro @a7x <| And.intro @b8A <| And.intro @b2z <| And.intro @a9V <| And.intro @b7u <| And.intro @b9y <| And.intro @b8n <| And.intro @b7x <| And.intro @a8Y <| And.intro @a6V <| And.intro @b8j <| And.intro @c2o <| And.intro @b6z <| And.intro @b4u <| And.intro @a9X <| And.intro @b8S <| And.intro @b8U <| And.intro @b6o <| And.intro @b1o <| And.intro @b2n <| And.intro @b2D <| And.intro @b3h <| And.intro @b1C <| And.intro @b2x <| And.intro @b2a <| And.intro @b2c <| And.intro @b2v <| And.intro @b3f <| And.intro @b2Z <| And.intro @b2A <| And.intro @b6x <| And.intro @b3m <| And.intro @a5s <| And.intro @b1I <| And.intro @b2B <| And.intro @b1L <| And.intro @b3d <| And.intro @b3s <| And.intro @b4J <| And.intro @b6Q <| And.intro @b3J <| And.intro @b7i <| And.intro @b4G <| And.intro @a6D <| And.intro @a9K <| And.intro @b0a <| And.intro @b8E <| And.intro @b5B <| And.intro @a6g <| And.intro @b4i <| And.intro @b4U <| And.intro @b2l <| And.intro @a8w <| And.intro @b5t <| And.intro @b2U <| And.intro @a8l <| And.intro @b2w <| And.intro @b4C <| And.intro @a9R <| And.intro @b3t <| And.intro @b2M <| And.intro @a9w <| And.intro @b3a <| And.intro @a8H <| And.intro @b7p <| And.intro @a6o <| And.intro @a3O <| And.intro @a8j <| And.intro @a7R <| And.intro @b7W <| And.intro @b6H <| And.intro @b1s <| And.intro @b5c <| And.intro @b3I <| And.intro @b3b <| And.intro @b4e <| And.intro @b1N <| And.intro @a4E <| And.intro @a9k <| And.intro @a7U <| And.intro @a9P <| And.intro @a9L <| And.intro @b4m <| And.intro @b3N <| And.intro @b2i <| And.intro @b4t <| And.intro @a6F <| And.intro @a5z <| And.intro @a7I <| And.intro @a7B <| And.intro @a6B <| And.intro @c2G <| And.intro @c3k <| And.intro @b8d <| And.intro @b9h <| And.intro @b4c <| And.intro @b6S <| And.intro @b6f <| And.intro @a8O <| And.intro @b8t <| And.intro @b5g <| And.intro @b8V <| And.intro @qR <| And.intro @b3F <| And.intro @b6h <| @b7V
theorem RT :
 (∀ {α : Type} (l : List α), [] ++ l = l) ∧
 (∀ {α : Type} (l : List α), l ++ [] = l) ∧
 (∀ {α : Type} {a : α} {l m : List α}, a :: l ++ m = a :: (l ++ m)) ∧
 (∀ (cs : List Value) (i : Nat) (v : Value) (vs : List Value), iZ cs i (v :: vs) = iZ (cs.set i v) (i + 1) vs) ∧
 (∀ (cs : List Value) (i : Nat), iZ cs i [] = cs) ∧
 (∀ {α : Type} {x : α} {xs : List α} {a : α}, (x :: xs).set 0 a = a :: xs) ∧
 (∀ {α : Type} {x : α} {xs : List α} {i : Nat} {a : α}, (x :: xs).set (i + 1) a = x :: xs.set i a) ∧
 (∀ (n : Nat), 0 + n = n) ∧
 (∀ (n : Nat), n * 1 = n) ∧
 (∀ (n : Nat), n + 0 = n) :=
 ⟨@List.nil_append, @List.append_nil, @List.cons_append, @lL, @pP, @List.set_cons_zero, @List.set_cons_succ, @Nat.zero_add, @Nat.mul_one, @Nat.add_zero⟩
end Go.Ds
