/-
  For every plan of a piece and either choice the law RegistrationFree returns true, and its arguments read as before; the three tables of numbers that the library keeps are what the program's text lays. No other condition.
-/
import Derived.Test.YtnfcbhnjapmmcaaGreatDoorRows
import Derived.Test.YtnfcbhnjapmmcaaGreatDoorCards
import Derived.Test.YtnfcbhnjapmmcaaGreatDoorTie
import Derived.Test.YtnfcbhnjapmmcaaGreatDoorVJ
import Derived.Test.YtnfcbhnjapmmcaaGreatDoorVK
import Derived.Test.YtnfcbhnjapmmcaaGreatDoorVL
set_option linter.unusedVariables false
set_option linter.unusedSimpArgs false
set_option linter.defProp false
set_option linter.unusedSectionVars false
namespace Go.Proofs.YtnfcbhnjapmmcaaGreatDoor
open Go.ChangeShapes Go.WideShapes Go.ChangeAt Go.RowKit Go.Deep Go.Ds
set_option maxRecDepth 100000 in
theorem lifted (os : Os) (started : os.Started) (H : Type) (enc : TypeId × Value → H) :
 ReturnsInHanded {} Tryz.checked os 5 .any (fun w args => (Rows.registrationFreeSpec.pre enc Tryz.prog Tryz.f5 [] false w args ∧ laidMetH Tryz.prog laid3 w) ∧ sizedMet enc Tryz.prog Tryz.f5 (OpenSpec.ofChange Rows.registrationFreeSpec) false w args)
  (Rows.registrationFreeSpec.post enc Tryz.prog Tryz.f5 false true false false) := by
 refine a3J (C := Tryz.checked) (X := fun w _ => laidMetH Tryz.prog laid3 w) (fun _ _ _ hh h => h.of_heap hh) own started (by kernel_rfl) Tryz.func5
  (ChangeSpec.witness_shaped (enc := enc) (C := Tryz.checked) (os := os) (X := fun w _ => laidMetH Tryz.prog laid3 w) false (World.doorLaid Tryz.prog 400 os) #[.agg #[.slice none 0 0, .slice none 0 0, .slice none 0 0, .slice none 0 0, .slice none 0 0, .slice none 0 0], .bool false] 8 rfl (World.shaped_of_RefB (by kernel_rfl) (by kernel_rfl)) (by kernel_rfl) (by kernel_rfl) (by kernel_rfl) (door_met os _)) ?_
 rintro W args ds gs before hsh ⟨base, hval0⟩ hW hL
 have hval : ∀ (j : Nat) t v, Tryz.f5.params[j]? = some t → args[j]? = some v → Value.okWide Tryz.prog W .any base t v := hval0
 have hW' := hW
 obtain ⟨p, q, hA0, hV, rfl, _, _⟩ := hW
 have hA : DataW.TrodAll enc Tryz.prog W 0 (fun _ => true) true Tryz.f5.params.toList args.toList ds p := hA0
 rw [Tryz.params5] at hA hval
 obtain ⟨v0, v1, d0, d1, p0, p1, rfl, rfl, rfl, h0, h1⟩ := trodAll_two hA
 obtain ⟨rfl, rfl⟩ := trodVars_none hV
 obtain ⟨⟨ρ0, hI⟩, cs, t, fr, hb0⟩ := of_laid hL hsh
 obtain ⟨ρ_0, H_0, pl, hI_0, hE_0, hV_0, hp, hk⟩ := c3A hI hb0 h0 (hval 0 31 v0 rfl rfl)
 obtain ⟨t_1, rfl⟩ := b5f h1 (hval 1 4 v1 rfl rfl)
 simp only [List.append_nil] at hW'
 have hlt0 : ∀ x ∈ p0, x.block < W.heap.size := fun x hx => hW'.lt x (by simp [hx])
 have hargs0 : ∀ (W' : World), Below W.heap.size W W' → DataW.Trod enc Tryz.prog W' 0 (fun b => decide (b < W.heap.size)) true 31 v0 d0 p0 :=
  fun W' hn => Below.trod laidOut (by kernel_rfl) (of_decide_eq_true (by kernel_rfl)) h0 hn hlt0
 have hlt1 : ∀ x ∈ p1, x.block < W.heap.size := fun x hx => hW'.lt x (by simp [hx])
 have hargs1 : ∀ (W' : World), Below W.heap.size W W' → DataW.Trod enc Tryz.prog W' 0 (fun b => decide (b < W.heap.size)) true 4 _ d1 p1 :=
  fun W' hn => Below.trod laidOut (by kernel_rfl) (of_decide_eq_true (by kernel_rfl)) h1 hn hlt1
 have hfn : Go.Ds.Fn Tryz.prog 5 [.agg #[pl.o.rv, pl.o.dv, pl.o.cv, pl.bv, pl.nv, pl.tv], .bool t_1] H_0 fun v _ => v = .bool true :=
  (b1j hE_0.glob pl hp hk t_1).mono fun _ _ h => h.1
 refine (hfn.calls hI_0.rel hI_0.shut (args' := #[v0, .bool t_1]) ⟨hV_0, .of_flat rfl, trivial⟩).mono fun e' W' ⟨he', hn⟩ => ?_
 subst he'
 exact ⟨_, rfl, _, _, _, [], _, [], hW', trodAll_mk1 (shut_bool Tryz.underlying4 _), trodAll_mk2 (hargs0 _ hn) (hargs1 _ hn), rfl, hn.frame _, fun h => by cases h⟩
theorem k_inPlace : (Rows.registrationFreeRow.inPlace == Tryz.pinned.checked.prog.inPlace 5) = true := by kernel_rfl
theorem k_unfollowed : (Rows.registrationFreeRow.unfollowed == Tryz.pinned.checked.prog.unfollowed 5) = true := by kernel_rfl
theorem k_recurses : (Rows.registrationFreeRow.recurses == Tryz.pinned.checked.prog.recurses 5) = true := by kernel_rfl
theorem k_named : (Rows.registrationFreeRow.named == Tryz.pinned.checked.prog.varsNamed 5) = true := by kernel_rfl
theorem k_joined : joinedFacts Tryz.pinned.checked.prog 5 Tryz.f5 Rows.registrationFreeSpec Rows.registrationFreeRow = true :=joined_of (by kernel_rfl) (by kernel_rfl) (by kernel_rfl) (by kernel_rfl) (by kernel_rfl) k_inPlace k_unfollowed k_recurses k_named (by kernel_rfl) (by kernel_rfl) (by kernel_rfl) (by kernel_rfl) (by kernel_rfl) (by kernel_rfl) (by kernel_rfl) (by kernel_rfl) (by kernel_rfl) rfl (by kernel_rfl) rfl rfl (by kernel_rfl) (by kernel_rfl) (by kernel_rfl) (by kernel_rfl)
theorem k_func : Tryz.pinned.checked.prog.funcNamed "bombarde/bombardelaw47.RegistrationFree" = some 5 := by kernel_rfl
theorem k_wrap : Tryz.f5.isWrapper Tryz.pinned.checked.prog Rows.registrationFreeRow.wrapper Rows.registrationFreeRow.mainSum := by unfold Func.isWrapper;first| (rw [if_pos (by decide +kernel)];kernel_rfl)| (rw [if_neg (by decide +kernel)];exact ⟨rfl, rfl⟩)
theorem k_goes : false = Rows.registrationFreeRow.goesBy Tryz.pinned.checked.prog := by kernel_rfl
theorem k_stand : ([31, 4].all λu => !Tryz.prog.wantsStandIn u) = true := by kernel_rfl
theorem k_text : Rows.registrationFreeRow.wfByText (OpenSpec.ofChange Rows.registrationFreeSpec) = true := by kernel_rfl
theorem registrationFree_row : Rows.RegistrationFreeSaid :=OpenClaim.holds_of_wide 5 Tryz.f5 rfl rfl rfl rfl rfl rfl rfl ⟨rfl, rfl, rfl, rfl, rfl⟩ rfl rfl rfl rfl rfl k_func Tryz.func5 k_joined (of_decide_eq_true (by kernel_rfl)) k_wrap (λos started H enc _ => lifted os started H enc)
theorem registrationFree_holds : Rows.RegistrationFreeCardSaid :=Claim7.holds_tied_plain_at .later [] [.data, .data, .data] true (true, "5653423c8ced916f34c321a308e1f2bfc39724f73feca934c2e3bd29c6876721") false registrationFree_row (λ_ h => by cases h) k_text (λ_ h => by cases h) registrationFree_row_tie rfl ⟨rfl, rfl⟩ j_main rfl (λf fn hf hfn => by obtain rfl : f = 5 := Option.some.inj (k_func.symm.trans hf) |>.symm;obtain rfl : fn = Tryz.f5 := (Option.some.inj (Tryz.func5.symm.trans hfn)).symm;exact ⟨j_looks, λj t ht => by rw [Tryz.params5] at ht;(have hm : t ∈ [31, 4] := by simpa using Array.mem_of_getElem? ht);exact (show Tryz.prog.wantsStandIn t = false by simpa using List.all_eq_true.1 k_stand t hm)⟩) k_goes
end Go.Proofs.YtnfcbhnjapmmcaaGreatDoor
