/-
  A described graph's links, as they come in.
-/
import Derived.Test.YtoanhpaipfgnfaaC
import Derived.Test.YtoanhpaipfgnfaaDsQ
import Derived.ProofKit
import Derived.Deep.SlicePairs
set_option linter.unusedVariables false
set_option linter.unusedSimpArgs false
namespace Go.Ds
open Go.Proofs Go.ChangeShapes Go.WideShapes Go.RowKit

def numN (v : Value) : Nat := match v with | .int _ n => n.toNat | _ => 0

theorem cell_at {w : World} {b off j : Nat} {v : Value} {cur : Array Value} {t : TypeId} {fr : Nat × Nat} (hb : w.heap[b]? = some (.cells cur t fr)) (h : w.cell? ((⟨b, off, none⟩ : Addr).add j) = some v) : cur[off + j]? = some v := by
  have e : (⟨b, off, none⟩ : Addr).add j = ⟨b, off + j, none⟩ := by
    unfold Addr.add
    split
    · rename_i h0; subst h0; rfl
    · rfl
  rw [e] at h
  simp only [World.cell?, hb] at h
  simpa using h

theorem u8_of {H : Type} {enc : TypeId × Value → H} {w : World} {base : Nat} {spare : Nat → Bool} {held : Bool} {n : Nat} {v : Value} {x : DataW H × List MemPlace} (h : DataW.trod enc Try.prog w base spare held n 5 [v] = some x) : v = U (numN v) ∧ numN v < 256 := by
  obtain ⟨m, hv, _, hw⟩ := DataW.trod_int Try.underlying5 h
  have hv : v = .int .u8 m := by simpa using hv
  subst hv
  have hm : 0 ≤ m ∧ m ≤ 255 := by simpa [Lit.wf, IntKind.min, IntKind.max, IntKind.signed, IntKind.bits] using hw
  simp only [numN]
  refine ⟨?_, by omega⟩
  rw [Int.toNat_of_nonneg hm.1]

theorem flat2_get {α : Type} (f g : α → Value) (xs : List α) (j : Nat) (hj : j < xs.length) (d : α) : (xs.flatMap fun x => [f x, g x])[j * 2]? = some (f (xs.getD j d)) ∧ (xs.flatMap fun x => [f x, g x])[j * 2 + 1]? = some (g (xs.getD j d)) := by
  have := Sl2.drop (f := f) (g := g) j hj d
  constructor
  · have h2 : ((xs.flatMap fun x => [f x, g x]).drop (j * 2))[0]? = some (f (xs.getD j d)) := by rw [this]; rfl
    rwa [List.getElem?_drop] at h2
  · have h2 : ((xs.flatMap fun x => [f x, g x]).drop (j * 2))[1]? = some (g (xs.getD j d)) := by rw [this]; rfl
    rwa [List.getElem?_drop] at h2

theorem ce60 : Try.prog.cellsOf 60 = 2 := by kernel_rfl
theorem ce5 : Try.prog.cellsOf 5 = 1 := by kernel_rfl
set_option maxRecDepth 100000 in
theorem links_in {H : Type} {enc : TypeId × Value → H} {W : World} {base b0 : Nat} {v0 : Value} {d0 : DataW H} {p0 : List MemPlace} (h0 : DataW.Trod enc Try.prog W base (fun _ => true) true 22 v0 d0 p0) (hval : Value.okWide Try.prog W .any b0 22 v0) :
    ∃ (ρ : Rho) (H : Heap) (v : Value) (ls : List (Nat × Nat)), HRel Try.prog ρ H W ∧ Shut ρ H ∧ V ρ v v0 ∧ Lk H v ls ∧ ∀ x ∈ ls, x.1 < 256 ∧ x.2 < 256 := by
  obtain ⟨a0, len, cap, rfl⟩ := okWide_slice Try.underlying22 hval
  obtain ⟨fuel, hf⟩ := h0
  rcases Go.Deep.open_slice_pairs Try.underlying22 Try.underlying60 ce60 rfl rfl ce5 ce5 hf with ⟨hcs, _⟩ | ⟨a, len', cap', m, n, V0, V1, D0, D1, P0, P1, hcs, _, hl, _, hmm, _, hcell⟩
  · simp [Value.cells] at hcs
    obtain ⟨rfl, rfl, rfl⟩ := hcs
    exact ⟨_, _, .slice none 0 0, [], .none W, .none, .of_flat rfl, .inl ⟨rfl, rfl⟩, by simp⟩
  · simp [Value.cells] at hcs
    obtain ⟨h1, h2, h3⟩ := hcs
    subst h1
    simp only [if_true] at hmm
    rw [← h2, ← h3] at hl
    rw [← h3] at hmm
    rw [hmm] at hcell
    clear h2 h3 hmm
    simp only [Value.okWide, Try.underlying22, Cell.okWide, Cell.ok] at hval
    obtain ⟨_, _, _, hspot, row, cells, hshape, _⟩ := hval
    obtain ⟨b, off, spot⟩ := a
    simp only at hspot hshape
    subst hspot
    unfold World.shape? at hshape
    split at hshape
    case h_2 => cases hshape
    rename_i cur t' fr hb
    have hc0 : ∀ i, i < cap → cur[off + i * 2]? = some (V0 i) := fun i hi => cell_at hb (hcell i hi).1
    have hc1 : ∀ i, i < cap → cur[off + (i * 2 + 1)]? = some (V1 i) := fun i hi => cell_at hb (hcell i hi).2.1
    have hu0 : ∀ i, i < cap → V0 i = U (numN (V0 i)) ∧ numN (V0 i) < 256 := fun i hi => u8_of (hcell i hi).2.2.1
    have hu1 : ∀ i, i < cap → V1 i = U (numN (V1 i)) ∧ numN (V1 i) < 256 := fun i hi => u8_of (hcell i hi).2.2.2
    let ls : List (Nat × Nat) := (List.range len).map fun i => (numN (V0 i), numN (V1 i))
    have hll : ls.length = len := by simp [ls]
    have hlg : ∀ i, i < len → ls.getD i (0, 0) = (numN (V0 i), numN (V1 i)) := fun i hi => by simp [ls, List.getD_eq_getElem?_getD, hi]
    have hsz : cap = 0 ∨ off + cap * 2 ≤ cur.size := by
      by_cases h0 : cap = 0
      · exact .inl h0
      · right
        have := (Array.getElem?_eq_some_iff.1 (hc1 (cap - 1) (by omega))).1
        omega
    obtain ⟨ρ, H', v, h1, h2, h3, h4⟩ := HRel.input (P := Try.prog) hb tS60 hl hsz (ls.flatMap fun e => [U e.1, U e.2]) (by rw [flat2_length, hll]) (by
      intro i hi
      rw [flat2_length, hll] at hi
      have hj : i / 2 < len := by omega
      have hg := flat2_get (fun e : Nat × Nat => U e.1) (fun e => U e.2) ls (i / 2) (by rw [hll]; exact hj) (0, 0)
      rw [hlg _ hj] at hg
      by_cases hp : i % 2 = 0
      · have e : i = i / 2 * 2 := by omega
        rw [e, hg.1, hc0 _ (by omega)]
        exact congrArg some (hu0 _ (by omega)).1
      · have e : i = i / 2 * 2 + 1 := by omega
        rw [e, hg.2, hc1 _ (by omega)]
        exact congrArg some (hu1 _ (by omega)).1) (by
      intro c hc
      obtain ⟨x, _, hx⟩ := List.mem_flatMap.1 hc
      simp only [List.mem_cons, List.not_mem_nil, or_false] at hx
      rcases hx with rfl | rfl <;> rfl)
    refine ⟨ρ, H', v, ls, h1, h2, h3, h4, ?_⟩
    intro x hx
    obtain ⟨i, hi, rfl⟩ := List.mem_map.1 hx
    have := List.mem_range.1 hi
    exact ⟨(hu0 i (by omega)).2, (hu1 i (by omega)).2⟩

theorem u8_in {w : Int} (h : (Lit.int .u8 w).wf = true) : ∃ n : Nat, n < 256 ∧ w = n := by
  have hm : 0 ≤ w ∧ w ≤ 255 := by simpa [Lit.wf, IntKind.min, IntKind.max, IntKind.signed, IntKind.bits] using h
  exact ⟨w.toNat, by omega, by omega⟩
end Go.Ds
