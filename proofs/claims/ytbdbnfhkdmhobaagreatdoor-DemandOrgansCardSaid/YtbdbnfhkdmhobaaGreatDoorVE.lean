/-
  A part of the proof of DemandOrgans.
-/
import Derived.Test.YtbdbnfhkdmhobaaGreatDoorVD
import Derived.Test.YtbdbnfhkdmhobaaGreatDoorVB
set_option linter.unusedVariables false
set_option linter.unusedSimpArgs false
set_option linter.defProp false
set_option linter.unusedSectionVars false
namespace Go.Ds
open Go.Proofs
variable {H : Heap}
set_option maxRecDepth 10000
set_option maxHeartbeats 1000000
theorem Wp.bR {P : Program} {c c' : Code} {l l' : List Value} {Q : mY} (hc : c' = c) (hl : l' = l) (h : SW P c l H Q) : Wp P c' l' H Q := by
 subst hc hl; exact h.wp
theorem Wp.cJ {P : Program} {c : Code} {l : List Value} {Q : mY} (h : ∀ l', l' = l → Wp P c l' H Q) : Wp P c l H Q := h l rfl
theorem Wp.cu {P : Program} {t : Tmp} {ps : Array Tmp} {assign body : Code} {l : List Value} {Q : mY} {k : FuncId} {captured : List Value} (hg : get l t = .func (.func k) #[] captured.toArray)
 (h : ∀ r : Loop, r.state = .ready → r.pending = none → r.tmps = l.toArray → r.params = ps → r.assign = assign → r.body = body →
   FnS P k ([.func (.yield H.length) #[] #[]] ++ captured) (H.cons (.loop r)) (b6m P l H.length Q)) : Wp P (.rangeFunc (.tmp t) ps assign body) l H Q :=
 Wp.range (first := []) rfl hg (h (b0r l ps assign body) rfl rfl rfl rfl rfl rfl)
theorem Lp.left {P : Program} {B : Base} {L : Nat} {r : Loop} {ls rest : List Ob} (h : Lp P B L r H (ls ++ rest)) : Lp P B L r H ls := h.sub (List.sublist_append_left _ _)
theorem OwnAt.var {P : Program} {A n : Nat} {cs : List Value} (h : OwnAt P H ⟨ptr A 0 n, 0, cs⟩) : Var H A n cs := by
 unfold OwnAt at h
 rw [if_pos rfl] at h
 rcases h with ⟨A', ty, lo, ver, h1, h2, h3⟩ | ⟨A', es, ck, ver, _, _, h3, _⟩
 ·simp only [ptr, Value.pointer.injEq, dF, Addr.mk.injEq] at h3
  obtain ⟨rfl, _, hn⟩ := h3
  exact ⟨hn, ty, true, lo, ver, h1, h2⟩
 ·cases h3
theorem a6L {n i : Nat} (h : i < n) : ∃ t, List.range n = List.range i ++ i :: t := by
 refine ⟨(List.range n).drop (i + 1), ?_⟩
 have h1 : (List.range n).take i = List.range i := by rw [List.take_range, fS (by omega)]
 have h2 := fB (l := List.range n) (i := i) (by simpa using h)
 rw [List.getElem_range] at h2
 rw [← h1, ← h2, List.take_append_drop]
def b2h (o : Org) (i : Nat) : Nat := ((iB o.dvs i).hi - (iB o.dvs i).lo + 1).toNat
def kAt (o : Org) (i k : Nat) : Ct := ((i : Int), (iB o.dvs i).lo + (k : Int))
def a0Q (o : Org) (i k : Nat) : List Ct := (List.range i).flatMap (yI o) ++ (List.range k).map (kAt o i)
theorem b3l (o : Org) (i k : Nat) : a0Q o i (k + 1) = a0Q o i k ++ [kAt o i k] := by
 unfold a0Q
 rw [ek, dT, eG]
 rfl
theorem a3z (o : Org) (i : Nat) : a0Q o i (b2h o i) = (List.range (i + 1)).flatMap (yI o) := by
 unfold a0Q
 rw [ek, dG, dL, fF, dB]
 rfl
def b4m (x n : Nat) : List Nat := (List.range n).filter fun i => x.testBit i
theorem a6S (x n : Nat) : (b4m x n).length ≤ n := by
 unfold b4m
 refine dD (ef _ _) ?_
 simp
structure Pv where
 v : Value
 l : List Ct
 deriving Inhabited
def Pv.cells (p : Pv) : List Value := [p.v]
def Pv.Ix (H : Heap) (X : Nat → Prop) (p : Pv) : Prop := Slx 2 kC H X p.v p.l
theorem Pv.Ix.step {H' : Heap} {X Y : Nat → Prop} {p : Pv} (h : p.Ix H X) (hk : Kept H X H' Y) : p.Ix H' Y := Slx.step h hk
theorem Kept.and {H' : Heap} {X Y : Nat → Prop} (Q : Nat → Prop) (h : Kept H X H' Y) : Kept H (fun B => Q B ∧ X B) H' (fun B => Q B ∧ Y B) :=
 fun B hX hB => ⟨(h B hX.2 hB).1, hX.1, (h B hX.2 hB).2⟩
theorem Fn.tr {P : Program} {k : FuncId} {args : List Value} {R : Value → Heap → Prop} (h : Fn P k args H R) : Fn P k args H fun v H' => True ∧ R v H' := by
 simpa using h
theorem St.aZ {P : Program} {H0 : Base} {os : List Ob} (hS : St P H0 H os) {t : TypeId} {size bytes : Nat} {K : Value → Heap → Prop} (ha : mZ P t = some (size + 1, bytes)) (h : ∀ v H1, St P H0 H1 (os ++ [⟨v, size + 1, []⟩]) → K v H1) : rY P H t 0 [] K := by
 unfold mZ at ha
 cases he : iF P t with
 | none => rw [he] at ha; cases ha
 | some elem =>
 rw [he] at ha
 simp only [cW] at ha
 cases hsz2 : iD P elem with
 | none => rw [hsz2] at ha; cases ha
 | some sz =>
 rw [hsz2] at ha
 simp only [cW] at ha
 cases hby : nK P elem with
 | none => rw [hby] at ha; cases ha
 | some by' =>
 rw [hby] at ha
 simp only [cW] at ha
 cases hz2 : jB P elem with
 | none => rw [hz2] at ha; cases ha
 | some z =>
 rw [hz2] at ha
 simp only [cW] at ha
 split at ha
 case isFalse => cases ha
 simp only [dF, gI] at ha
 obtain ⟨rfl, rfl⟩ := ha
 refine ⟨.slice (some ⟨H.length, 0, some 0⟩) 0 (size + 1), rJ H elem [], ?_, h _ _ (hS.add ?_ ?_ ?_ ?_)⟩
 ·unfold yG
  simp only [he, hsz2, hz2, cW]
  rw [if_pos (by simp)]
 ·rw [lF]
  unfold OwnAt
  rw [if_neg (eI _)]
  exact .inr ⟨_, 0, elem, _, 0, [], 0, iM H _, by simp, rfl, by simp, by simp, hsz2⟩
 ·rw [lF]; simp [pD]
 ·rw [lF]; exact fun B hB => jL _ hB
 ·intro B hB
  simp [kO] at hB
  omega
theorem c2L (i : Nat) (hi : i < 64) : IntKind.wrap .u64 (1 * 2 ^ min i (IntKind.bits .u64)) = ((2 ^ i : Nat) : Int) := by
 have e : IntKind.bits .u64 = 64 := rfl
 rw [e, fS (by omega), Int.one_mul]
 have h1 : ((2 ^ i : Nat) : Int) = 2 ^ i := by simp
 rw [← h1]
 have h2 : 2 ^ i ≤ 2 ^ 63 := fm (by decide) (by omega)
 have h5 : ((2 ^ i : Nat) : Int) ≤ ((2 ^ 63 : Nat) : Int) := Int.ofNat_le.2 h2
 exact pK _ (Int.natCast_nonneg _) (Int.lt_of_le_of_lt h5 (by decide))
theorem a8Z {α : Type} [Inhabited α] {xs ys : List α} (hl : xs.length = ys.length) (h : ∀ j, j < xs.length → iB xs j = iB ys j) : xs = ys := by
 apply List.ext_getElem hl
 intro j h1 h2
 have := h j h1
 rwa [kB xs j h1, kB ys j h2] at this
def Pv.In (H : Heap) (p : Pv) : Prop := Sl 2 kC H p.v p.l
theorem c0D {o : Org} (hf : o.Fine) (rg : Reg) (c : Ct) : (ofF o rg c).length ≤ 1000000 := by
 unfold ofF
 split
 ·rename_i h
  have hc := (zV h).2
  unfold lZ zU
  refine dD (b1i _) ?_
  rw [nI]
  have hm : ∀ x ∈ [c], pX o x = true := by intro x hx; rw [dz.1 hx]; exact hc
  have h1 := rS hf rg (pN o rg [c]) (pA hm)
  have h2 := vY hf (rg := rg) (l := [c]) (by simp)
  omega
 ·simp
end Go.Ds
