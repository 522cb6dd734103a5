/-
  Contracts: Repeat.
-/
import Derived.Test.YtoanhpaipfgnfaaC
set_option linter.unusedVariables false
set_option linter.unusedSimpArgs false
namespace Go.Ds
open Go.Proofs
variable {H : Heap}

theorem CallOk.closedA {P : Program} {f : FuncId} {args : List Value} (hargs : args.all flat = true) {v : Value} (hv : flat v = true) {H1 : Heap} (h : CallOk P f args .nil v H1) (H : Heap) : CallOk P f args H v H := by
  intro k ρ w args' hr ha
  have hall : ∀ (l m : List Value), l.all flat = true → All2 (V ρ) l m → All2 (V (fun _ _ => none)) l m := by
    intro l
    induction l with
    | nil => intro m _ h; cases m with | nil => trivial | cons _ _ => exact h.elim
    | cons a l ih =>
      intro m hl h
      cases m with
      | nil => exact h.elim
      | cons b m =>
        simp only [List.all_cons, Bool.and_eq_true] at hl
        have e : b = a := h.1.eq_of_flat hl.1
        subst e
        exact ⟨.of_flat hl.1, ih m hl.2 h.2⟩
  refine (h k (fun _ _ => none) w args' (.empty w) (hall _ _ hargs ha)).mono ?_
  rintro e w' ⟨ρ', v', rfl, hp, hv'⟩
  have hframe : ∀ b, b < w.heap.size → w'.heap[b]? = w.heap[b]? := fun b hb => (hp.frame b hb (by rintro ⟨A, e, p, blk, hq, _⟩; cases hq)).1
  refine ⟨ρ, v', rfl, ?_, ?_⟩
  · exact {
      le := .refl ρ
      rel := hr.other hp.size fun A e p hq => hframe _ (hr.dom _ _ _ hq).2
      len := Nat.le_refl _
      size := hp.size
      os := hp.os
      tape := hp.tape
      output := hp.output
      frame := fun b hb hw => ⟨hframe b hb, hw⟩
      loops := fun b r h => ⟨r, by rw [hframe b (blk_lt h), h]⟩
      img := fun _ _ h => h }
  · rw [hv'.eq_of_flat hv]
    exact .of_flat hv

noncomputable def mulRun (n : Nat) : Bool := match callF Try.prog (exD Try.prog 60) 56 [.int .u64 1, .int .u64 (Int.ofNat n)] .nil with
  | some (.tuple ⟨[.int .u64 (.ofNat a), .int .u64 (.ofNat b)]⟩, _) => Nat.beq a 0 && Nat.beq b n
  | _ => false
theorem mulRuns : (List.range 201).all mulRun = true := by kernel_rfl

theorem mul_ok (n : Nat) (hn : n ≤ 200) : Fn Try.prog 56 [.int .u64 1, .int .u64 n] H fun r H' => r = .tuple #[.int .u64 0, .int .u64 n] ∧ H' = H := by
  have h := List.all_eq_true.1 mulRuns n (List.mem_range.2 (by omega))
  unfold mulRun at h
  split at h
  · rename_i a b H1 hr
    rw [Bool.and_eq_true] at h
    obtain rfl := Nat.eq_of_beq_eq_true h.1
    obtain rfl := Nat.eq_of_beq_eq_true h.2
    refine ⟨⟨Try.f56, rfl, rfl, by kernel_rfl⟩, _, H, CallOk.closedA (by rfl) (by rfl) (CallOk.of_run hmix hr) H, rfl, rfl⟩
  · cases h

theorem wrap_fitU (n : Int) (h1 : 0 ≤ n) (h2 : n < 18446744073709551616) : IntKind.wrap .u64 n = n := by
  show (if (false && decide (n % 18446744073709551616 ≥ 9223372036854775808)) = true then n % 18446744073709551616 - 18446744073709551616 else n % 18446744073709551616) = n
  simp only [Bool.false_and]
  rw [if_neg (by simp)]
  omega
end Go.Ds
