/-
  For every plan of an organ, every number of eight bits and every second one the law SurveyClean returns true, and its arguments read as before; the three tables of numbers and the two errors that the library keeps are what the program's text lays. No other condition.
-/
import Derived.Test.YtbkobkpbkhbcgaaGreatDoorRows
import Derived.Test.YtbkobkpbkhbcgaaGreatDoorCards
import Derived.Test.YtbkobkpbkhbcgaaGreatDoorTie
import Derived.Test.YtbkobkpbkhbcgaaGreatDoorVJ
import Derived.Test.YtbkobkpbkhbcgaaGreatDoorVK
import Derived.Test.YtbkobkpbkhbcgaaGreatDoorVL
set_option linter.unusedVariables false
set_option linter.unusedSimpArgs false
set_option linter.defProp false
set_option linter.unusedSectionVars false
namespace Go.Proofs.YtbkobkpbkhbcgaaGreatDoor
open Go.ChangeShapes Go.WideShapes Go.ChangeAt Go.RowKit Go.Deep Go.Ds
set_option maxRecDepth 100000 in
theorem lifted (os : Os) (started : os.Started) (H : Type) (enc : TypeId × Value → H) :
 ReturnsInHanded {} Tryz.checked os 8 .any (fun w args => (Rows.surveyCleanSpec.pre enc Tryz.prog Tryz.f8 [] false w args ∧ laidMetH Tryz.prog a6P w) ∧ sizedMet enc Tryz.prog Tryz.f8 (OpenSpec.ofChange Rows.surveyCleanSpec) false w args)
  (Rows.surveyCleanSpec.post enc Tryz.prog Tryz.f8 false true false false) := by
 refine a4c (C := Tryz.checked) (X := fun w _ => laidMetH Tryz.prog a6P w) (fun _ _ _ hh h => h.of_heap hh) own started (by kernel_rfl) Tryz.func8
  (ChangeSpec.witness_shaped (enc := enc) (C := Tryz.checked) (os := os) (X := fun w _ => laidMetH Tryz.prog a6P w) false (World.doorLaid Tryz.prog 400 os) #[.agg #[.slice none 0 0, .slice none 0 0, .slice none 0 0], .int .u8 0, .int .u8 0] 8 rfl (World.shaped_of_RefB (by kernel_rfl) (by kernel_rfl)) (by kernel_rfl) (by kernel_rfl) (by kernel_rfl) (b3b os _)) ?_
 rintro W args ds gs before hsh ⟨base, hval0⟩ hW hL
 have hval : ∀ (j : Nat) t v, Tryz.f8.params[j]? = some t → args[j]? = some v → Value.okWide Tryz.prog W .any base t v := hval0
 have hW' := hW
 obtain ⟨p, q, hA0, hV, rfl, _, _⟩ := hW
 have hA : DataW.TrodAll enc Tryz.prog W 0 (fun _ => true) true Tryz.f8.params.toList args.toList ds p := hA0
 rw [Tryz.params8] at hA hval
 obtain ⟨v0, v1, v2, d0, d1, d2, p0, p1, p2, rfl, rfl, rfl, h0, h1, h2⟩ := trodAll_three hA
 obtain ⟨rfl, rfl⟩ := trodVars_none hV
 obtain ⟨⟨ρ0, hI⟩, cs, t, fr, hb0⟩ := b5B hL hsh
 obtain ⟨ρ_0, H_0, pl, hI_0, hE_0, hV_0, hp, hk⟩ := c0s hI hb0 h0 (hval 0 26 v0 rfl rfl)
 obtain ⟨n_1, hn_1, rfl⟩ := b7j h1 (hval 1 5 v1 rfl rfl)
 obtain ⟨n_2, hn_2, rfl⟩ := b7j h2 (hval 2 5 v2 rfl rfl)
 simp only [List.append_nil] at hW'
 have hlt0 : ∀ x ∈ p0, x.block < W.heap.size := fun x hx => hW'.lt x (by simp [hx])
 have hargs0 : ∀ (W' : World), Below W.heap.size W W' → DataW.Trod enc Tryz.prog W' 0 (fun b => decide (b < W.heap.size)) true 26 v0 d0 p0 :=
  fun W' hn => Below.trod laidOut (by kernel_rfl) (of_decide_eq_true (by kernel_rfl)) h0 hn hlt0
 have hlt1 : ∀ x ∈ p1, x.block < W.heap.size := fun x hx => hW'.lt x (by simp [hx])
 have hargs1 : ∀ (W' : World), Below W.heap.size W W' → DataW.Trod enc Tryz.prog W' 0 (fun b => decide (b < W.heap.size)) true 5 _ d1 p1 :=
  fun W' hn => Below.trod laidOut (by kernel_rfl) (of_decide_eq_true (by kernel_rfl)) h1 hn hlt1
 have hlt2 : ∀ x ∈ p2, x.block < W.heap.size := fun x hx => hW'.lt x (by simp [hx])
 have hargs2 : ∀ (W' : World), Below W.heap.size W W' → DataW.Trod enc Tryz.prog W' 0 (fun b => decide (b < W.heap.size)) true 5 _ d2 p2 :=
  fun W' hn => Below.trod laidOut (by kernel_rfl) (of_decide_eq_true (by kernel_rfl)) h2 hn hlt2
 have hfn : Go.Ds.Fn Tryz.prog 8 [.agg #[pl.rv, pl.dv, pl.cv], .int .u8 n_1, .int .u8 n_2] H_0 fun v _ => v = .bool true :=
  (a5I hE_0.glob pl hp hk n_1 n_2 hn_1 hn_2).mono fun _ _ h => h.1
 refine (hfn.calls hI_0.rel hI_0.shut (args' := #[v0, .int .u8 n_1, .int .u8 n_2]) ⟨hV_0, .of_flat rfl, .of_flat rfl, trivial⟩).mono fun e' W' ⟨he', hn⟩ => ?_
 subst he'
 exact ⟨_, rfl, _, _, _, [], _, [], hW', trodAll_mk1 (shut_bool Tryz.underlying4 _), trodAll_mk3 (hargs0 _ hn) (hargs1 _ hn) (hargs2 _ hn), rfl, hn.frame _, fun h => by cases h⟩
theorem k_inPlace : (Rows.surveyCleanRow.inPlace == Tryz.pinned.checked.prog.inPlace 8) = true := by kernel_rfl
theorem k_unfollowed : (Rows.surveyCleanRow.unfollowed == Tryz.pinned.checked.prog.unfollowed 8) = true := by kernel_rfl
theorem k_recurses : (Rows.surveyCleanRow.recurses == Tryz.pinned.checked.prog.recurses 8) = true := by kernel_rfl
theorem k_named : (Rows.surveyCleanRow.named == Tryz.pinned.checked.prog.varsNamed 8) = true := by kernel_rfl
theorem k_joined : joinedFacts Tryz.pinned.checked.prog 8 Tryz.f8 Rows.surveyCleanSpec Rows.surveyCleanRow = true :=joined_of (by kernel_rfl) (by kernel_rfl) (by kernel_rfl) (by kernel_rfl) (by kernel_rfl) k_inPlace k_unfollowed k_recurses k_named (by kernel_rfl) (by kernel_rfl) (by kernel_rfl) (by kernel_rfl) (by kernel_rfl) (by kernel_rfl) (by kernel_rfl) (by kernel_rfl) (by kernel_rfl) rfl (by kernel_rfl) rfl rfl (by kernel_rfl) (by kernel_rfl) (by kernel_rfl) (by kernel_rfl)
theorem k_func : Tryz.pinned.checked.prog.funcNamed "bombarde/bombardelaw21.SurveyClean" = some 8 := by kernel_rfl
theorem k_wrap : Tryz.f8.isWrapper Tryz.pinned.checked.prog Rows.surveyCleanRow.wrapper Rows.surveyCleanRow.mainSum := by unfold Func.isWrapper;first| (rw [if_pos (by decide +kernel)];kernel_rfl)| (rw [if_neg (by decide +kernel)];exact ⟨rfl, rfl⟩)
theorem k_goes : false = Rows.surveyCleanRow.goesBy Tryz.pinned.checked.prog := by kernel_rfl
theorem k_stand : ([26, 5, 5].all λu => !Tryz.prog.wantsStandIn u) = true := by kernel_rfl
theorem k_text : Rows.surveyCleanRow.wfByText (OpenSpec.ofChange Rows.surveyCleanSpec) = true := by kernel_rfl
theorem surveyClean_row : Rows.SurveyCleanSaid :=OpenClaim.holds_of_wide 8 Tryz.f8 rfl rfl rfl rfl rfl rfl rfl ⟨rfl, rfl, rfl, rfl, rfl⟩ rfl rfl rfl rfl rfl k_func Tryz.func8 k_joined (of_decide_eq_true (by kernel_rfl)) k_wrap (λos started H enc _ => lifted os started H enc)
theorem surveyClean_holds : Rows.SurveyCleanCardSaid :=Claim7.holds_tied_plain_at .later [] [.data, .data, .data, .sentinel, .sentinel] true (true, "304d4c6c740982719db4cbdedcba0bc9a77c5b8acb8fd0ee49fe5ea34d73fcc9") true surveyClean_row (λ_ h => by cases h) k_text (λ_ h => by cases h) surveyClean_row_tie rfl ⟨rfl, rfl⟩ j_main rfl (λf fn hf hfn => by obtain rfl : f = 8 := Option.some.inj (k_func.symm.trans hf) |>.symm;obtain rfl : fn = Tryz.f8 := (Option.some.inj (Tryz.func8.symm.trans hfn)).symm;exact ⟨j_looks, λj t ht => by rw [Tryz.params8] at ht;(have hm : t ∈ [26, 5, 5] := by simpa using Array.mem_of_getElem? ht);exact (show Tryz.prog.wantsStandIn t = false by simpa using List.all_eq_true.1 k_stand t hm)⟩) k_goes
end Go.Proofs.YtbkobkpbkhbcgaaGreatDoor
