/-
  Ds: from the model's world to a heap of ours, and back.
-/
import Derived.Test.YtoanhpaipfgnfaaDsZ
import Derived.Below
set_option linter.unusedVariables false
set_option linter.unusedSimpArgs false
namespace Go.Ds
open Go.RowKit
section
variable {P : Program} {H : Heap}

theorem CallOk.calls {ρ : Rho} {w : World} {f : FuncId} {args : List Value} {v : Value} {H' : Heap} (h : CallOk P f args H v H') {args' : Array Value} (hr : HRel P ρ H w) (ha : All2 (V ρ) args args'.toList) :
    Calls P f args' w fun e w' => ∃ ρ' v', e = .returned v' ∧ Post P ρ H w ρ' H' w' ∧ V ρ' v v' :=
  (h 0 ρ w args' hr ha).calls fun k => by intro d h; cases h

/-- Nothing of what came in may be written. -/
def Shut (ρ : Rho) (H : Heap) : Prop := ∀ b, ¬ Wr ρ H b

theorem Fn.calls {ρ : Rho} {w : World} {f : FuncId} {args : List Value} {b : Bool} (h : Fn P f args H fun v _ => v = .bool b) {args' : Array Value} (hr : HRel P ρ H w) (hs : Shut ρ H) (ha : All2 (V ρ) args args'.toList) :
    Calls P f args' w fun e w' => e = .returned (.bool b) ∧ Below w.heap.size w w' := by
  obtain ⟨_, v, H1, h1, rfl⟩ := h
  refine (h1.calls hr ha).mono ?_
  rintro e w' ⟨ρ', v', rfl, hp, hv⟩
  refine ⟨?_, hp.os, hp.tape, hp.output, hp.size, fun k hk => (hp.frame k hk (hs k)).1⟩
  rw [hv.eq_of_flat rfl]

theorem HRel.none (w : World) : HRel P (fun _ _ => Option.none) .nil w := .empty w
theorem Shut.none : Shut (fun _ _ => Option.none) .nil := fun b ⟨A, e, p, blk, h, _⟩ => by cases h

/-- One slice that came in, to be read. -/
theorem HRel.input {w : World} {b off len cap size : Nat} {cur : Array Value} {t' : TypeId} {fr : Nat × Nat} (hb : w.heap[b]? = some (.cells cur t' fr)) {ty : TypeId} (hty : sizeP P ty = some size) (hl : len ≤ cap) (hsz : cap = 0 ∨ off + cap * size ≤ cur.size)
    (cs : List Value) (hcs : cs.length = len * size) (hcell : ∀ i, i < cs.length → cur[off + i]? = cs[i]?) (hflat : ∀ c ∈ cs, scalar c = true) :
    ∃ (ρ : Rho) (H : Heap) (v : Value), HRel P ρ H w ∧ Shut ρ H ∧ V ρ v (.slice (some ⟨b, off, Option.none⟩) len cap) ∧ RdAt H v size cs := by
  let d : Int := if cap = 0 then 0 else off
  let p : Place := ⟨b, d, cur.size, size⟩
  have hg : hget (Heap.nil.cons (.cells cs ty false 0 0)) 0 = some (.cells cs ty false 0 0) := hget_cons_new Heap.nil _
  have hlen1 : (Heap.nil.cons (.cells cs ty false 0 0)).length = 1 := by rw [cons_eq]; rfl
  have hA : ∀ A blk, hget (Heap.nil.cons (.cells cs ty false 0 0)) A = some blk → A = 0 ∧ blk = .cells cs ty false 0 0 := by
    intro A blk h
    have : A < 1 := by rw [← hlen1]; exact hget_lt h
    obtain rfl : A = 0 := by omega
    rw [hg] at h
    exact ⟨rfl, (Option.some.inj h).symm⟩
  refine ⟨fun A e => if A = 0 ∧ e = cs.length then some p else Option.none, Heap.nil.cons (.cells cs ty false 0 0), .slice (some ⟨0, 0, some cs.length⟩) len size, ?_, ?_, ?_, ?_⟩
  · have hρ : ∀ A e q, (if A = 0 ∧ e = cs.length then some p else Option.none) = some q → A = 0 ∧ e = cs.length ∧ q = p := by
      intro A e q h
      split at h
      · rename_i hh; exact ⟨hh.1, hh.2, (Option.some.inj h).symm⟩
      · cases h
    refine ⟨?_, ?_, ?_, ?_, ?_, ?_, ?_⟩
    · intro A e q h
      obtain ⟨rfl, rfl, rfl⟩ := hρ _ _ _ h
      exact ⟨by rw [hlen1]; omega, blk_lt hb⟩
    · intro A cs' ty' rw' lo ver h
      obtain ⟨rfl, he⟩ := hA _ _ h
      cases he
      refine ⟨⟨p, by simp⟩, ?_⟩
      intro e q hq
      obtain ⟨_, rfl, rfl⟩ := hρ _ _ _ hq
      refine ⟨Nat.le_refl _, hty, ?_, cur, t', fr, hb, rfl, (fun h => by cases h), ?_⟩
      · show ((cs.length : Nat) : Int) + d ≤ cur.size
        rcases hsz with h0 | h0
        · have : len = 0 := by omega
          subst this
          simp only [d, if_pos h0]
          rw [hcs]; simp
        · simp only [d]
          split
          · rename_i hc
            have : len = 0 := by omega
            subst this
            rw [hcs]; simp
          · have : len * size ≤ cap * size := Nat.mul_le_mul_right _ hl
            omega
      · intro _ i c hi h0 hc
        have hcap : cap ≠ 0 := fun hc0 => by
          have : len = 0 := by omega
          subst this
          simp at hcs
          simp [hcs] at hi
        have hat : p.at i = off + i := by
          simp only [Place.at, p, d, if_neg hcap]
          omega
        refine ⟨c, by rw [hat, hcell i hi, hc], .of_scalar (hflat c (List.mem_of_getElem? hc))⟩
    · intro A es ck ver h
      have := (hA _ _ h).2; cases this
    · intro A r h
      have := (hA _ _ h).2; cases this
    · intro A e q blk h hblk
      rw [(hA _ _ hblk).2]; exact .inl rfl
    · intro A e q A2 e2 q2 blk h h2 _ hblk hw
      rw [(hA _ _ hblk).2] at hw; cases hw
    · intro A h
      rw [hlen1] at h
      obtain rfl : A = 0 := by omega
      rw [hg]; rfl
  · rintro b' ⟨A, e, q, blk, h, _, hblk, hw⟩
    rw [(hA _ _ hblk).2] at hw; cases hw
  · refine .v1 (.c1 (.c0 ?_))
    have h1 : (fun A e => if A = 0 ∧ e = cs.length then some p else Option.none : Rho) 0 cs.length = some p := by simp
    refine C0.slice (p := p) h1 ?_ ?_ hl ?_
    · show (0 : Int) ≤ ((0 : Nat) : Int) + d
      simp only [d]; split <;> omega
    · show 0 + len * size ≤ cs.length
      omega
    · rcases hsz with h0 | h0
      · exact .inr ⟨by omega, h0⟩
      · by_cases hc : cap = 0
        · exact .inr ⟨by omega, hc⟩
        · left
          have hat : p.at 0 = off := by simp only [Place.at, p, d, if_neg hc]; omega
          rw [hat]
          exact ⟨rfl, h0⟩
  · refine .inr ⟨0, 0, cs.length, cs, ty, false, 0, 0, len, hg, Nat.zero_le _, Nat.le_refl _, by omega, by simp, hcs, rfl⟩
end
end Go.Ds
