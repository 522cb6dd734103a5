/-
  For every plan of a piece, every change and every number the law RegistrationChecks returns true, and its arguments read as before; the three tables of numbers that the library keeps are what the program's text lays. No other condition.
-/
import Derived.Test.YtnfcbhnjapmmcaaGreatDoorRows
import Derived.Test.YtnfcbhnjapmmcaaGreatDoorCards
import Derived.Test.YtnfcbhnjapmmcaaGreatDoorTie
import Derived.Test.YtnfcbhnjapmmcaaGreatDoorVJ
import Derived.Test.YtnfcbhnjapmmcaaGreatDoorVK
import Derived.Test.YtnfcbhnjapmmcaaGreatDoorVL
set_option linter.unusedVariables false
set_option linter.unusedSimpArgs false
set_option linter.defProp false
set_option linter.unusedSectionVars false
namespace Go.Proofs.YtnfcbhnjapmmcaaGreatDoor
open Go.ChangeShapes Go.WideShapes Go.ChangeAt Go.RowKit Go.Deep Go.Ds
set_option maxRecDepth 100000 in
theorem lifted (os : Os) (started : os.Started) (H : Type) (enc : TypeId × Value → H) :
 ReturnsInHanded {} Tryz.checked os 6 .any (fun w args => (Rows.registrationChecksSpec.pre enc Tryz.prog Tryz.f6 [] false w args ∧ laidMetH Tryz.prog laid3 w) ∧ sizedMet enc Tryz.prog Tryz.f6 (OpenSpec.ofChange Rows.registrationChecksSpec) false w args)
  (Rows.registrationChecksSpec.post enc Tryz.prog Tryz.f6 false true false false) := by
 refine a4p (C := Tryz.checked) (X := fun w _ => laidMetH Tryz.prog laid3 w) (fun _ _ _ hh h => h.of_heap hh) own started (by kernel_rfl) Tryz.func6
  (ChangeSpec.witness_shaped (enc := enc) (C := Tryz.checked) (os := os) (X := fun w _ => laidMetH Tryz.prog laid3 w) false (World.doorLaid Tryz.prog 400 os) #[.agg #[.slice none 0 0, .slice none 0 0, .slice none 0 0, .slice none 0 0, .slice none 0 0, .slice none 0 0], .agg #[.int .u8 0, .int .u8 0, .int .i8 0], .int .i64 0] 8 rfl (World.shaped_of_RefB (by kernel_rfl) (by kernel_rfl)) (by kernel_rfl) (by kernel_rfl) (by kernel_rfl) (door_met os _)) ?_
 rintro W args ds gs before hsh ⟨base, hval0⟩ hW hL
 have hval : ∀ (j : Nat) t v, Tryz.f6.params[j]? = some t → args[j]? = some v → Value.okWide Tryz.prog W .any base t v := hval0
 have hW' := hW
 obtain ⟨p, q, hA0, hV, rfl, _, _⟩ := hW
 have hA : DataW.TrodAll enc Tryz.prog W 0 (fun _ => true) true Tryz.f6.params.toList args.toList ds p := hA0
 rw [Tryz.params6] at hA hval
 obtain ⟨v0, v1, v2, d0, d1, d2, p0, p1, p2, rfl, rfl, rfl, h0, h1, h2⟩ := trodAll_three hA
 obtain ⟨rfl, rfl⟩ := trodVars_none hV
 obtain ⟨⟨ρ0, hI⟩, cs, t, fr, hb0⟩ := of_laid hL hsh
 obtain ⟨ρ_0, H_0, pl, hI_0, hE_0, hV_0, hp, hk⟩ := c4E hI hb0 h0 (hval 0 31 v0 rfl rfl)
 obtain ⟨sa, sb, sc, hsa, hsb, hsc1, hsc2, rfl⟩ := c4O h1 (hval 1 86 v1 rfl rfl)
 obtain ⟨t_2, rfl⟩ := c0p h2 (hval 2 3 v2 rfl rfl)
 simp only [List.append_nil] at hW'
 have hlt0 : ∀ x ∈ p0, x.block < W.heap.size := fun x hx => hW'.lt x (by simp [hx])
 have hargs0 : ∀ (W' : World), Below W.heap.size W W' → DataW.Trod enc Tryz.prog W' 0 (fun b => decide (b < W.heap.size)) true 31 v0 d0 p0 :=
  fun W' hn => Below.trod laidOut (by kernel_rfl) (of_decide_eq_true (by kernel_rfl)) h0 hn hlt0
 have hlt1 : ∀ x ∈ p1, x.block < W.heap.size := fun x hx => hW'.lt x (by simp [hx])
 have hargs1 : ∀ (W' : World), Below W.heap.size W W' → DataW.Trod enc Tryz.prog W' 0 (fun b => decide (b < W.heap.size)) true 86 _ d1 p1 :=
  fun W' hn => Below.trod laidOut (by kernel_rfl) (of_decide_eq_true (by kernel_rfl)) h1 hn hlt1
 have hlt2 : ∀ x ∈ p2, x.block < W.heap.size := fun x hx => hW'.lt x (by simp [hx])
 have hargs2 : ∀ (W' : World), Below W.heap.size W W' → DataW.Trod enc Tryz.prog W' 0 (fun b => decide (b < W.heap.size)) true 3 _ d2 p2 :=
  fun W' hn => Below.trod laidOut (by kernel_rfl) (of_decide_eq_true (by kernel_rfl)) h2 hn hlt2
 have hfn : Go.Ds.Fn Tryz.prog 6 [.agg #[pl.o.rv, pl.o.dv, pl.o.cv, pl.bv, pl.nv, pl.tv], .agg #[.int .u8 sa, .int .u8 sb, .int .i8 sc], I t_2] H_0 fun v _ => v = .bool true :=
  (b0L hE_0.glob pl hp hk sa sb sc hsa hsb hsc1 hsc2 t_2).mono fun _ _ h => h.1
 refine (hfn.calls hI_0.rel hI_0.shut (args' := #[v0, .agg #[.int .u8 sa, .int .u8 sb, .int .i8 sc], I t_2]) ⟨hV_0, .of_flat rfl, .of_flat rfl, trivial⟩).mono fun e' W' ⟨he', hn⟩ => ?_
 subst he'
 exact ⟨_, rfl, _, _, _, [], _, [], hW', trodAll_mk1 (shut_bool Tryz.underlying4 _), trodAll_mk3 (hargs0 _ hn) (hargs1 _ hn) (hargs2 _ hn), rfl, hn.frame _, fun h => by cases h⟩
theorem k_inPlace : (Rows.registrationChecksRow.inPlace == Tryz.pinned.checked.prog.inPlace 6) = true := by kernel_rfl
theorem k_unfollowed : (Rows.registrationChecksRow.unfollowed == Tryz.pinned.checked.prog.unfollowed 6) = true := by kernel_rfl
theorem k_recurses : (Rows.registrationChecksRow.recurses == Tryz.pinned.checked.prog.recurses 6) = true := by kernel_rfl
theorem k_named : (Rows.registrationChecksRow.named == Tryz.pinned.checked.prog.varsNamed 6) = true := by kernel_rfl
theorem k_joined : joinedFacts Tryz.pinned.checked.prog 6 Tryz.f6 Rows.registrationChecksSpec Rows.registrationChecksRow = true :=joined_of (by kernel_rfl) (by kernel_rfl) (by kernel_rfl) (by kernel_rfl) (by kernel_rfl) k_inPlace k_unfollowed k_recurses k_named (by kernel_rfl) (by kernel_rfl) (by kernel_rfl) (by kernel_rfl) (by kernel_rfl) (by kernel_rfl) (by kernel_rfl) (by kernel_rfl) (by kernel_rfl) rfl (by kernel_rfl) rfl rfl (by kernel_rfl) (by kernel_rfl) (by kernel_rfl) (by kernel_rfl)
theorem k_func : Tryz.pinned.checked.prog.funcNamed "bombarde/bombardelaw47.RegistrationChecks" = some 6 := by kernel_rfl
theorem k_wrap : Tryz.f6.isWrapper Tryz.pinned.checked.prog Rows.registrationChecksRow.wrapper Rows.registrationChecksRow.mainSum := by unfold Func.isWrapper;first| (rw [if_pos (by decide +kernel)];kernel_rfl)| (rw [if_neg (by decide +kernel)];exact ⟨rfl, rfl⟩)
theorem k_goes : false = Rows.registrationChecksRow.goesBy Tryz.pinned.checked.prog := by kernel_rfl
theorem k_stand : ([31, 86, 3].all λu => !Tryz.prog.wantsStandIn u) = true := by kernel_rfl
theorem k_text : Rows.registrationChecksRow.wfByText (OpenSpec.ofChange Rows.registrationChecksSpec) = true := by kernel_rfl
theorem registrationChecks_row : Rows.RegistrationChecksSaid :=OpenClaim.holds_of_wide 6 Tryz.f6 rfl rfl rfl rfl rfl rfl rfl ⟨rfl, rfl, rfl, rfl, rfl⟩ rfl rfl rfl rfl rfl k_func Tryz.func6 k_joined (of_decide_eq_true (by kernel_rfl)) k_wrap (λos started H enc _ => lifted os started H enc)
theorem registrationChecks_holds : Rows.RegistrationChecksCardSaid :=Claim7.holds_tied_plain_at .later [] [.data, .data, .data] true (true, "5653423c8ced916f34c321a308e1f2bfc39724f73feca934c2e3bd29c6876721") false registrationChecks_row (λ_ h => by cases h) k_text (λ_ h => by cases h) registrationChecks_row_tie rfl ⟨rfl, rfl⟩ j_main rfl (λf fn hf hfn => by obtain rfl : f = 6 := Option.some.inj (k_func.symm.trans hf) |>.symm;obtain rfl : fn = Tryz.f6 := (Option.some.inj (Tryz.func6.symm.trans hfn)).symm;exact ⟨j_looks, λj t ht => by rw [Tryz.params6] at ht;(have hm : t ∈ [31, 86, 3] := by simpa using Array.mem_of_getElem? ht);exact (show Tryz.prog.wantsStandIn t = false by simpa using List.all_eq_true.1 k_stand t hm)⟩) k_goes
end Go.Proofs.YtnfcbhnjapmmcaaGreatDoor
