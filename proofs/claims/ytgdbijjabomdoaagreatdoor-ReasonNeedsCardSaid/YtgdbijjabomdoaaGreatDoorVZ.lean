/-
  For every plan of an organ and all bits of a registration, of keys and of a pipe the law ReasonNeeds returns true, and its arguments read as before; the three tables of numbers that the library keeps are what the program's text lays. No other condition.
-/
import Derived.Test.YtgdbijjabomdoaaGreatDoorRows
import Derived.Test.YtgdbijjabomdoaaGreatDoorCards
import Derived.Test.YtgdbijjabomdoaaGreatDoorTie
import Derived.Test.YtgdbijjabomdoaaGreatDoorVJ
import Derived.Test.YtgdbijjabomdoaaGreatDoorVK
import Derived.Test.YtgdbijjabomdoaaGreatDoorVM
set_option linter.unusedVariables false
set_option linter.unusedSimpArgs false
set_option linter.defProp false
set_option linter.unusedSectionVars false
namespace Go.Proofs.YtgdbijjabomdoaaGreatDoor
open Go.ChangeShapes Go.WideShapes Go.ChangeAt Go.RowKit Go.Deep Go.Ds
set_option maxRecDepth 100000 in
theorem lifted (os : Os) (started : os.Started) (H : Type) (enc : TypeId × Value → H) :
 ReturnsInHanded {} Tryz.checked os 5 .any (fun w args => (Rows.reasonNeedsSpec.pre enc Tryz.prog Tryz.f5 [] false w args ∧ laidMetH Tryz.prog laid3 w) ∧ sizedMet enc Tryz.prog Tryz.f5 (OpenSpec.ofChange Rows.reasonNeedsSpec) false w args)
  (Rows.reasonNeedsSpec.post enc Tryz.prog Tryz.f5 false true false false) := by
 refine a5W (C := Tryz.checked) (X := fun w _ => laidMetH Tryz.prog laid3 w) (fun _ _ _ hh h => h.of_heap hh) own started (by kernel_rfl) Tryz.func5
  (ChangeSpec.witness_shaped (enc := enc) (C := Tryz.checked) (os := os) (X := fun w _ => laidMetH Tryz.prog laid3 w) false (World.doorLaid Tryz.prog 400 os) #[.agg #[.slice none 0 0, .slice none 0 0, .slice none 0 0], .agg #[.int .u8 0, .int .u8 0, .int .u8 0, .int .u8 0, .int .u8 0, .int .u16 0, .int .u16 0, .int .u16 0, .int .u8 0, .int .u8 0]] 8 rfl (World.shaped_of_RefB (by kernel_rfl) (by kernel_rfl)) (by kernel_rfl) (by kernel_rfl) (by kernel_rfl) (door_met os _)) ?_
 rintro W args ds gs before hsh ⟨base, hval0⟩ hW hL
 have hval : ∀ (j : Nat) t v, Tryz.f5.params[j]? = some t → args[j]? = some v → Value.okWide Tryz.prog W .any base t v := hval0
 have hW' := hW
 obtain ⟨p, q, hA0, hV, rfl, _, _⟩ := hW
 have hA : DataW.TrodAll enc Tryz.prog W 0 (fun _ => true) true Tryz.f5.params.toList args.toList ds p := hA0
 rw [Tryz.params5] at hA hval
 obtain ⟨v0, v1, d0, d1, p0, p1, rfl, rfl, rfl, h0, h1⟩ := trodAll_two hA
 obtain ⟨rfl, rfl⟩ := trodVars_none hV
 obtain ⟨⟨ρ0, hI⟩, cs, t, fr, hb0⟩ := of_laid hL hsh
 obtain ⟨ρ_0, H_0, pl, hI_0, hE_0, hV_0, hp, hk⟩ := c4a hI hb0 h0 (hval 0 26 v0 rfl rfl)
 obtain ⟨b, kb, br, bn, hb, hkb, hbr, hbn, rfl⟩ := c8G h1 (hval 1 81 v1 rfl rfl)
 simp only [List.append_nil] at hW'
 have hlt0 : ∀ x ∈ p0, x.block < W.heap.size := fun x hx => hW'.lt x (by simp [hx])
 have hargs0 : ∀ (W' : World), Below W.heap.size W W' → DataW.Trod enc Tryz.prog W' 0 (fun b => decide (b < W.heap.size)) true 26 v0 d0 p0 :=
  fun W' hn => Below.trod laidOut (by kernel_rfl) (of_decide_eq_true (by kernel_rfl)) h0 hn hlt0
 have hlt1 : ∀ x ∈ p1, x.block < W.heap.size := fun x hx => hW'.lt x (by simp [hx])
 have hargs1 : ∀ (W' : World), Below W.heap.size W W' → DataW.Trod enc Tryz.prog W' 0 (fun b => decide (b < W.heap.size)) true 81 _ d1 p1 :=
  fun W' hn => Below.trod laidOut (by kernel_rfl) (of_decide_eq_true (by kernel_rfl)) h1 hn hlt1
 have hfn : Go.Ds.Fn Tryz.prog 5 [.agg #[pl.rv, pl.dv, pl.cv], .agg #[.int .u8 (b 0), .int .u8 (b 1), .int .u8 (b 2), .int .u8 (b 3), .int .u8 (b 4), .int .u16 (kb 0), .int .u16 (kb 1), .int .u16 (kb 2), .int .u8 br, .int .u8 bn]] H_0 fun v _ => v = .bool true :=
  (a9w hE_0.glob pl hp hk b kb br bn hb hkb hbr hbn).mono fun _ _ h => h.1
 refine (hfn.calls hI_0.rel hI_0.shut (args' := #[v0, .agg #[.int .u8 (b 0), .int .u8 (b 1), .int .u8 (b 2), .int .u8 (b 3), .int .u8 (b 4), .int .u16 (kb 0), .int .u16 (kb 1), .int .u16 (kb 2), .int .u8 br, .int .u8 bn]]) ⟨hV_0, .of_flat rfl, trivial⟩).mono fun e' W' ⟨he', hn⟩ => ?_
 subst he'
 exact ⟨_, rfl, _, _, _, [], _, [], hW', trodAll_mk1 (shut_bool Tryz.underlying4 _), trodAll_mk2 (hargs0 _ hn) (hargs1 _ hn), rfl, hn.frame _, fun h => by cases h⟩
theorem k_inPlace : (Rows.reasonNeedsRow.inPlace == Tryz.pinned.checked.prog.inPlace 5) = true := by kernel_rfl
theorem k_unfollowed : (Rows.reasonNeedsRow.unfollowed == Tryz.pinned.checked.prog.unfollowed 5) = true := by kernel_rfl
theorem k_recurses : (Rows.reasonNeedsRow.recurses == Tryz.pinned.checked.prog.recurses 5) = true := by kernel_rfl
theorem k_named : (Rows.reasonNeedsRow.named == Tryz.pinned.checked.prog.varsNamed 5) = true := by kernel_rfl
theorem k_joined : joinedFacts Tryz.pinned.checked.prog 5 Tryz.f5 Rows.reasonNeedsSpec Rows.reasonNeedsRow = true :=joined_of (by kernel_rfl) (by kernel_rfl) (by kernel_rfl) (by kernel_rfl) (by kernel_rfl) k_inPlace k_unfollowed k_recurses k_named (by kernel_rfl) (by kernel_rfl) (by kernel_rfl) (by kernel_rfl) (by kernel_rfl) (by kernel_rfl) (by kernel_rfl) (by kernel_rfl) (by kernel_rfl) rfl (by kernel_rfl) rfl rfl (by kernel_rfl) (by kernel_rfl) (by kernel_rfl) (by kernel_rfl)
theorem k_func : Tryz.pinned.checked.prog.funcNamed "bombarde/bombardelaw26.ReasonNeeds" = some 5 := by kernel_rfl
theorem k_wrap : Tryz.f5.isWrapper Tryz.pinned.checked.prog Rows.reasonNeedsRow.wrapper Rows.reasonNeedsRow.mainSum := by unfold Func.isWrapper;first| (rw [if_pos (by decide +kernel)];kernel_rfl)| (rw [if_neg (by decide +kernel)];exact ⟨rfl, rfl⟩)
theorem k_goes : false = Rows.reasonNeedsRow.goesBy Tryz.pinned.checked.prog := by kernel_rfl
theorem k_stand : ([26, 81].all λu => !Tryz.prog.wantsStandIn u) = true := by kernel_rfl
theorem k_text : Rows.reasonNeedsRow.wfByText (OpenSpec.ofChange Rows.reasonNeedsSpec) = true := by kernel_rfl
theorem reasonNeeds_row : Rows.ReasonNeedsSaid :=OpenClaim.holds_of_wide 5 Tryz.f5 rfl rfl rfl rfl rfl rfl rfl ⟨rfl, rfl, rfl, rfl, rfl⟩ rfl rfl rfl rfl rfl k_func Tryz.func5 k_joined (of_decide_eq_true (by kernel_rfl)) k_wrap (λos started H enc _ => lifted os started H enc)
theorem reasonNeeds_holds : Rows.ReasonNeedsCardSaid :=Claim7.holds_tied_plain_at .later [] [.data, .data, .data] true (true, "1e00cb4c6297b52d0247911f25606f80dd882d55aa7a66923646fca06f70625e") false reasonNeeds_row (λ_ h => by cases h) k_text (λ_ h => by cases h) reasonNeeds_row_tie rfl ⟨rfl, rfl⟩ j_main rfl (λf fn hf hfn => by obtain rfl : f = 5 := Option.some.inj (k_func.symm.trans hf) |>.symm;obtain rfl : fn = Tryz.f5 := (Option.some.inj (Tryz.func5.symm.trans hfn)).symm;exact ⟨j_looks, λj t ht => by rw [Tryz.params5] at ht;(have hm : t ∈ [26, 81] := by simpa using Array.mem_of_getElem? ht);exact (show Tryz.prog.wantsStandIn t = false by simpa using List.all_eq_true.1 k_stand t hm)⟩) k_goes
end Go.Proofs.YtgdbijjabomdoaaGreatDoor
