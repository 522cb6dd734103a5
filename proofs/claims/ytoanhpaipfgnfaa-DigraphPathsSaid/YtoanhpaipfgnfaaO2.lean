/-
  Two numbers in an array, as they come in.
-/
import Derived.Test.YtoanhpaipfgnfaaO
import Derived.OpenShut
set_option linter.unusedVariables false
set_option linter.unusedSimpArgs false
namespace Go.Ds
open Go.Proofs Go.ChangeShapes Go.WideShapes Go.RowKit

theorem ce23 : Try.prog.cellsOf 23 = 2 := by kernel_rfl

set_option maxRecDepth 100000 in
theorem pair_in {H : Type} {enc : TypeId × Value → H} {W : World} {base b0 : Nat} {v0 : Value} {d0 : DataW H} {p0 : List MemPlace} (h0 : DataW.Trod enc Try.prog W base (fun _ => true) true 23 v0 d0 p0) (hval : Value.okWide Try.prog W .any b0 23 v0) :
    ∃ c e : Nat, c < 256 ∧ e < 256 ∧ v0 = .agg #[U c, U e] := by
  simp only [Value.okWide, Try.underlying23] at hval
  obtain ⟨cs, rfl, hsz, _⟩ := hval
  rw [ce23] at hsz
  obtain ⟨fuel, hf⟩ := h0
  obtain ⟨xs, m, rfl, _, _, hxl, hx⟩ := DataW.trod_array Try.underlying23 hf
  obtain ⟨l⟩ := cs
  have hl : l.length = 2 := hsz
  match l, hl with
  | [x, y], _ =>
    have e0 := hx 0 (by omega)
    have e1 := hx 1 (by omega)
    rw [ce5] at e0 e1
    have k0 : DataW.trod enc Try.prog W base (fun _ => true) true m 5 [x] = xs[0]? := e0
    have k1 : DataW.trod enc Try.prog W base (fun _ => true) true m 5 [y] = xs[1]? := e1
    rw [List.getElem?_eq_getElem (by omega)] at k0 k1
    have u0 := u8_of k0
    have u1 := u8_of k1
    refine ⟨numN x, numN y, u0.2, u1.2, ?_⟩
    rw [← u0.1, ← u1.1]
end Go.Ds
