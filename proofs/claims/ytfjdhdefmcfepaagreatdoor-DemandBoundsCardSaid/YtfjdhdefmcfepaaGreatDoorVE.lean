/-
  A part of the proof of DemandBounds.
-/
import Derived.Test.YtfjdhdefmcfepaaGreatDoorVD
set_option linter.unusedVariables false
set_option linter.unusedSimpArgs false
set_option linter.defProp false
set_option linter.unusedSectionVars false
namespace Go.Ds
open Go.Proofs
variable {H : Heap}
set_option maxRecDepth 10000
set_option maxHeartbeats 1000000
theorem b0n {α : Type} [Inhabited α] {xs ys : List α} (hl : xs.length = ys.length) (h : ∀ j, j < xs.length → iB xs j = iB ys j) : xs = ys := by
 apply List.ext_getElem hl
 intro j h1 h2
 have := h j h1
 rwa [jK xs j h1, jK ys j h2] at this
def Pv.In (H : Heap) (p : Pv) : Prop := Sl 2 kD H p.v p.l
theorem c2o {o : Org} (hf : o.Fine) (rg : Reg) (c : Ct) : (ofF o rg c).length ≤ 1000000 := by
 unfold ofF
 split
 ·rename_i h
  have hc := (zB h).2
  unfold jE a0b
  refine dy (b0I _) ?_
  rw [nO]
  have hm : ∀ x ∈ [c], nA o x = true := by intro x hx; rw [du.1 hx]; exact hc
  have h1 := sF hf rg (oG o rg [c]) (mB hm)
  have h2 := wZ hf (rg := rg) (l := [c]) (by simp)
  omega
 ·simp
end Go.Ds
