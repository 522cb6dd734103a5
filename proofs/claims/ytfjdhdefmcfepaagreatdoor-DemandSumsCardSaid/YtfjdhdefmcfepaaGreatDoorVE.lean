/-
  A part of the proof of DemandSums.
-/
import Derived.Test.YtfjdhdefmcfepaaGreatDoorVD
set_option linter.unusedVariables false
set_option linter.unusedSimpArgs false
set_option linter.defProp false
set_option linter.unusedSectionVars false
namespace Go.Ds
open Go.Proofs
variable {H : Heap}
set_option maxRecDepth 10000
set_option maxHeartbeats 1000000
structure Pv where
 v : Value
 l : List Ct
 deriving Inhabited
def Pv.cells (p : Pv) : List Value := [p.v]
def Pv.Ix (H : Heap) (X : Nat → Prop) (p : Pv) : Prop := Slx 2 jM H X p.v p.l
theorem Pv.Ix.step {H' : Heap} {X Y : Nat → Prop} {p : Pv} (h : p.Ix H X) (hk : Kept H X H' Y) : p.Ix H' Y := Slx.step h hk
theorem Kept.and {H' : Heap} {X Y : Nat → Prop} (Q : Nat → Prop) (h : Kept H X H' Y) : Kept H (fun B => Q B ∧ X B) H' (fun B => Q B ∧ Y B) :=
 fun B hX hB => ⟨(h B hX.2 hB).1, hX.1, (h B hX.2 hB).2⟩
theorem Fn.tr {P : Program} {k : FuncId} {args : List Value} {R : Value → Heap → Prop} (h : Fn P k args H R) : Fn P k args H fun v H' => True ∧ R v H' := by
 simpa using h
theorem St.bT {P : Program} {H0 : Base} {os : List Ob} (hS : St P H0 H os) {t : TypeId} {size bytes : Nat} {K : Value → Heap → Prop} (ha : nA P t = some (size + 1, bytes)) (h : ∀ v H1, St P H0 H1 (os ++ [⟨v, size + 1, []⟩]) → K v H1) : sD P H t 0 [] K := by
 unfold nA at ha
 cases he : iJ P t with
 | none => rw [he] at ha; cases ha
 | some elem =>
 rw [he] at ha
 simp only [cV] at ha
 cases hsz2 : iF P elem with
 | none => rw [hsz2] at ha; cases ha
 | some sz =>
 rw [hsz2] at ha
 simp only [cV] at ha
 cases hby : nQ P elem with
 | none => rw [hby] at ha; cases ha
 | some by' =>
 rw [hby] at ha
 simp only [cV] at ha
 cases hz2 : jA P elem with
 | none => rw [hz2] at ha; cases ha
 | some z =>
 rw [hz2] at ha
 simp only [cV] at ha
 split at ha
 case isFalse => cases ha
 simp only [dB, gJ] at ha
 obtain ⟨rfl, rfl⟩ := ha
 refine ⟨.slice (some ⟨H.length, 0, some 0⟩) 0 (size + 1), rQ H elem [], ?_, h _ _ (hS.add ?_ ?_ ?_ ?_)⟩
 ·unfold yG
  simp only [he, hsz2, hz2, cV]
  rw [if_pos (by simp)]
 ·rw [lH]
  unfold OwnAt
  rw [if_neg (eO _)]
  exact .inr ⟨_, 0, elem, _, 0, [], 0, iN H _, by simp, rfl, by simp, by simp, hsz2⟩
 ·rw [lH]; simp [pI]
 ·rw [lH]; exact fun B hB => jP _ hB
 ·intro B hB
  simp [kI] at hB
  omega
theorem c4j (i : Nat) (hi : i < 64) : IntKind.wrap .u64 (1 * 2 ^ min i (IntKind.bits .u64)) = ((2 ^ i : Nat) : Int) := by
 have e : IntKind.bits .u64 = 64 := rfl
 rw [e, fN (by omega), Int.one_mul]
 have h1 : ((2 ^ i : Nat) : Int) = 2 ^ i := by simp
 rw [← h1]
 have h2 : 2 ^ i ≤ 2 ^ 63 := fj (by decide) (by omega)
 have h5 : ((2 ^ i : Nat) : Int) ≤ ((2 ^ 63 : Nat) : Int) := Int.ofNat_le.2 h2
 exact oP _ (Int.natCast_nonneg _) (Int.lt_of_le_of_lt h5 (by decide))
theorem a8B {α : Type} [Inhabited α] {xs ys : List α} (hl : xs.length = ys.length) (h : ∀ j, j < xs.length → iB xs j = iB ys j) : xs = ys := by
 apply List.ext_getElem hl
 intro j h1 h2
 have := h j h1
 rwa [jV xs j h1, jV ys j h2] at this
def Pv.In (H : Heap) (p : Pv) : Prop := Sl 2 jM H p.v p.l
theorem c2y {o : Org} (hf : o.Fine) (rg : Reg) (c : Ct) : (ofF o rg c).length ≤ 1000000 := by
 unfold ofF
 split
 ·rename_i h
  have hc := (a0r h).2
  unfold jO wM
  refine dy (a6p _) ?_
  rw [lR]
  have hm : ∀ x ∈ [c], mN o x = true := by intro x hx; rw [dA.1 hx]; exact hc
  have h1 := rY hf rg (kG o rg [c]) (mC hm)
  have h2 := sQ hf (rg := rg) (l := [c]) (by simp)
  omega
 ·simp
end Go.Ds
