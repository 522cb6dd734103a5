/-
  A part of the proof of DemandLists.
-/
import Derived.Test.YtbdbnfhkdmhobaaGreatDoorVD
import Derived.Test.YtbdbnfhkdmhobaaGreatDoorVB
set_option linter.unusedVariables false
set_option linter.unusedSimpArgs false
set_option linter.defProp false
set_option linter.unusedSectionVars false
namespace Go.Ds
open Go.Proofs
variable {H : Heap}
set_option maxRecDepth 10000
set_option maxHeartbeats 1000000
theorem Wp.bO {P : Program} {c c' : Code} {l l' : List Value} {Q : nF} (hc : c' = c) (hl : l' = l) (h : SW P c l H Q) : Wp P c' l' H Q := by
 subst hc hl; exact h.wp
theorem Wp.cE {P : Program} {c : Code} {l : List Value} {Q : nF} (h : ∀ l', l' = l → Wp P c l' H Q) : Wp P c l H Q := h l rfl
theorem Wp.cm {P : Program} {t : Tmp} {ps : Array Tmp} {assign body : Code} {l : List Value} {Q : nF} {k : FuncId} {captured : List Value} (hg : get l t = .func (.func k) #[] captured.toArray)
 (h : ∀ r : Loop, r.state = .ready → r.pending = none → r.tmps = l.toArray → r.params = ps → r.assign = assign → r.body = body →
   FnS P k ([.func (.yield H.length) #[] #[]] ++ captured) (H.cons (.loop r)) (b5W P l H.length Q)) : Wp P (.rangeFunc (.tmp t) ps assign body) l H Q :=
 Wp.range (first := []) rfl hg (h (b1w l ps assign body) rfl rfl rfl rfl rfl rfl)
theorem Lp.left {P : Program} {B : Base} {L : Nat} {r : Loop} {ls rest : List Ob} (h : Lp P B L r H (ls ++ rest)) : Lp P B L r H ls := h.sub (List.sublist_append_left _ _)
theorem OwnAt.var {P : Program} {A n : Nat} {cs : List Value} (h : OwnAt P H ⟨ptr A 0 n, 0, cs⟩) : Var H A n cs := by
 unfold OwnAt at h
 rw [if_pos rfl] at h
 rcases h with ⟨A', ty, lo, ver, h1, h2, h3⟩ | ⟨A', es, ck, ver, _, _, h3, _⟩
 ·simp only [ptr, Value.pointer.injEq, dD, Addr.mk.injEq] at h3
  obtain ⟨rfl, _, hn⟩ := h3
  exact ⟨hn, ty, true, lo, ver, h1, h2⟩
 ·cases h3
theorem a7B {n i : Nat} (h : i < n) : ∃ t, List.range n = List.range i ++ i :: t := by
 refine ⟨(List.range n).drop (i + 1), ?_⟩
 have h1 : (List.range n).take i = List.range i := by rw [List.take_range, fR (by omega)]
 have h2 := fD (l := List.range n) (i := i) (by simpa using h)
 rw [List.getElem_range] at h2
 rw [← h1, ← h2, List.take_append_drop]
def b2H (o : Org) (i : Nat) : Nat := ((iB o.dvs i).hi - (iB o.dvs i).lo + 1).toNat
def kAt (o : Org) (i k : Nat) : Ct := ((i : Int), (iB o.dvs i).lo + (k : Int))
def a1m (o : Org) (i k : Nat) : List Ct := (List.range i).flatMap (zO o) ++ (List.range k).map (kAt o i)
theorem b3x (o : Org) (i k : Nat) : a1m o i (k + 1) = a1m o i k ++ [kAt o i k] := by
 unfold a1m
 rw [dX, dL, ek]
 rfl
theorem a3N (o : Org) (i : Nat) : a1m o i (b2H o i) = (List.range (i + 1)).flatMap (zO o) := by
 unfold a1m
 rw [dX, dB, dz, ew, dm]
 rfl
def b6y (x n : Nat) : List Nat := (List.range n).filter fun i => x.testBit i
theorem a7b (x n : Nat) : (b6y x n).length ≤ n := by
 unfold b6y
 refine dA (eh _ _) ?_
 simp
structure Pv where
 v : Value
 l : List Ct
 deriving Inhabited
def Pv.cells (p : Pv) : List Value := [p.v]
def Pv.Ix (H : Heap) (X : Nat → Prop) (p : Pv) : Prop := Slx 2 jL H X p.v p.l
theorem Pv.Ix.step {H' : Heap} {X Y : Nat → Prop} {p : Pv} (h : p.Ix H X) (hk : Kept H X H' Y) : p.Ix H' Y := Slx.step h hk
theorem Kept.and {H' : Heap} {X Y : Nat → Prop} (Q : Nat → Prop) (h : Kept H X H' Y) : Kept H (fun B => Q B ∧ X B) H' (fun B => Q B ∧ Y B) :=
 fun B hX hB => ⟨(h B hX.2 hB).1, hX.1, (h B hX.2 hB).2⟩
theorem Fn.tr {P : Program} {k : FuncId} {args : List Value} {R : Value → Heap → Prop} (h : Fn P k args H R) : Fn P k args H fun v H' => True ∧ R v H' := by
 simpa using h
theorem St.bU {P : Program} {H0 : Base} {os : List Ob} (hS : St P H0 H os) {t : TypeId} {size bytes : Nat} {K : Value → Heap → Prop} (ha : mY P t = some (size + 1, bytes)) (h : ∀ v H1, St P H0 H1 (os ++ [⟨v, size + 1, []⟩]) → K v H1) : sC P H t 0 [] K := by
 unfold mY at ha
 cases he : iJ P t with
 | none => rw [he] at ha; cases ha
 | some elem =>
 rw [he] at ha
 simp only [cW] at ha
 cases hsz2 : iE P elem with
 | none => rw [hsz2] at ha; cases ha
 | some sz =>
 rw [hsz2] at ha
 simp only [cW] at ha
 cases hby : nX P elem with
 | none => rw [hby] at ha; cases ha
 | some by' =>
 rw [hby] at ha
 simp only [cW] at ha
 cases hz2 : jA P elem with
 | none => rw [hz2] at ha; cases ha
 | some z =>
 rw [hz2] at ha
 simp only [cW] at ha
 split at ha
 case isFalse => cases ha
 simp only [dD, gM] at ha
 obtain ⟨rfl, rfl⟩ := ha
 refine ⟨.slice (some ⟨H.length, 0, some 0⟩) 0 (size + 1), rU H elem [], ?_, h _ _ (hS.add ?_ ?_ ?_ ?_)⟩
 ·unfold zL
  simp only [he, hsz2, hz2, cW]
  rw [if_pos (by simp)]
 ·rw [lH]
  unfold OwnAt
  rw [if_neg (eQ _)]
  exact .inr ⟨_, 0, elem, _, 0, [], 0, iN H _, by simp, rfl, by simp, by simp, hsz2⟩
 ·rw [lH]; simp [oQ]
 ·rw [lH]; exact fun B hB => jM _ hB
 ·intro B hB
  simp [kI] at hB
  omega
theorem c4r (i : Nat) (hi : i < 64) : IntKind.wrap .u64 (1 * 2 ^ min i (IntKind.bits .u64)) = ((2 ^ i : Nat) : Int) := by
 have e : IntKind.bits .u64 = 64 := rfl
 rw [e, fR (by omega), Int.one_mul]
 have h1 : ((2 ^ i : Nat) : Int) = 2 ^ i := by simp
 rw [← h1]
 have h2 : 2 ^ i ≤ 2 ^ 63 := fq (by decide) (by omega)
 have h5 : ((2 ^ i : Nat) : Int) ≤ ((2 ^ 63 : Nat) : Int) := Int.ofNat_le.2 h2
 exact nP _ (Int.natCast_nonneg _) (Int.lt_of_le_of_lt h5 (by decide))
theorem a9x {α : Type} [Inhabited α] {xs ys : List α} (hl : xs.length = ys.length) (h : ∀ j, j < xs.length → iB xs j = iB ys j) : xs = ys := by
 apply List.ext_getElem hl
 intro j h1 h2
 have := h j h1
 rwa [jU xs j h1, jU ys j h2] at this
def Pv.In (H : Heap) (p : Pv) : Prop := Sl 2 jL H p.v p.l
theorem c3p {o : Org} (hf : o.Fine) (rg : Reg) (c : Ct) : (ofF o rg c).length ≤ 1000000 := by
 unfold ofF
 split
 ·rename_i h
  have hc := (a0I h).2
  unfold lK uE
  refine dA (a7w _) ?_
  rw [lT]
  have hm : ∀ x ∈ [c], mG o x = true := by intro x hx; rw [dC.1 hx]; exact hc
  have h1 := sJ hf rg (kF o rg [c]) (mT hm)
  have h2 := tL hf (rg := rg) (l := [c]) (by simp)
  omega
 ·simp
end Go.Ds
