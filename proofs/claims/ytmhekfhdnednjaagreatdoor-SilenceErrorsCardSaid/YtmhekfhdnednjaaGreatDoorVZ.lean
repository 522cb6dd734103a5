/-
  For every plan of an organ, every registration and all sets of notes the law SilenceErrors returns true, and its arguments read as before; the three tables of numbers that the library keeps are what the program's text lays. No other condition.
-/
import Derived.Test.YtmhekfhdnednjaaGreatDoorRows
import Derived.Test.YtmhekfhdnednjaaGreatDoorCards
import Derived.Test.YtmhekfhdnednjaaGreatDoorTie
import Derived.Test.YtmhekfhdnednjaaGreatDoorVK
import Derived.Test.YtmhekfhdnednjaaGreatDoorVL
set_option linter.unusedVariables false
set_option linter.unusedSimpArgs false
set_option linter.defProp false
set_option linter.unusedSectionVars false
namespace Go.Proofs.YtmhekfhdnednjaaGreatDoor
open Go.ChangeShapes Go.WideShapes Go.ChangeAt Go.RowKit Go.Deep Go.Ds
set_option maxRecDepth 100000 in
theorem lifted (os : Os) (started : os.Started) (H : Type) (enc : TypeId × Value → H) :
 ReturnsInHanded {} Tryz.checked os 6 .any (fun w args => (Rows.silenceErrorsSpec.pre enc Tryz.prog Tryz.f6 [] false w args ∧ laidMetH Tryz.prog laid3 w) ∧ sizedMet enc Tryz.prog Tryz.f6 (OpenSpec.ofChange Rows.silenceErrorsSpec) false w args)
  (Rows.silenceErrorsSpec.post enc Tryz.prog Tryz.f6 false true false false) := by
 refine a2x (C := Tryz.checked) (X := fun w _ => laidMetH Tryz.prog laid3 w) (fun _ _ _ hh h => h.of_heap hh) own started (by kernel_rfl) Tryz.func6
  (ChangeSpec.witness_shaped (enc := enc) (C := Tryz.checked) (os := os) (X := fun w _ => laidMetH Tryz.prog laid3 w) false (World.doorLaid Tryz.prog 400 os) #[.agg #[.slice none 0 0, .slice none 0 0, .slice none 0 0], .agg #[.slice none 0 0, .int .u64 0, .int .u64 0], .slice none 0 0] 8 rfl (World.shaped_of_RefB (by kernel_rfl) (by kernel_rfl)) (by kernel_rfl) (by kernel_rfl) (by kernel_rfl) (door_met os _)) ?_
 rintro W args ds gs before hsh ⟨base, hval0⟩ hW hL
 have hval : ∀ (j : Nat) t v, Tryz.f6.params[j]? = some t → args[j]? = some v → Value.okWide Tryz.prog W .any base t v := hval0
 have hW' := hW
 obtain ⟨p, q, hA0, hV, rfl, _, _⟩ := hW
 have hA : DataW.TrodAll enc Tryz.prog W 0 (fun _ => true) true Tryz.f6.params.toList args.toList ds p := hA0
 rw [Tryz.params6] at hA hval
 obtain ⟨v0, v1, v2, d0, d1, d2, p0, p1, p2, rfl, rfl, rfl, h0, h1, h2⟩ := trodAll_three hA
 obtain ⟨rfl, rfl⟩ := trodVars_none hV
 obtain ⟨⟨ρ0, hI⟩, cs, t, fr, hb0⟩ := of_laid hL hsh
 obtain ⟨ρ_0, H_0, pl, hI_0, hE_0, hV_0, hp, hk⟩ := b8i hI hb0 h0 (hval 0 26 v0 rfl rfl)
 obtain ⟨ρ_1, H_1, sv1, rg1, hI_1, hE_1, hV_1, hrg1⟩ := b7M hI_0 hb0 h1 (hval 1 30 v1 rfl rfl)
 have hEt_1 := hE_0.trans hE_1
 have hp := hp.ext hE_1
 have hV_0 := hV_0.mono hE_1.le
 obtain ⟨ρ_2, H_2, kv2, ks2, hI_2, hE_2, hV_2, hki2⟩ := b5Y Tryz.underlying32 hI_1 hb0 h2 (hval 2 32 v2 rfl rfl)
 have hEt_2 := hEt_1.trans hE_2
 have hp := hp.ext hE_2
 have hV_0 := hV_0.mono hE_2.le
 have hrg1 := hrg1.ext hE_2
 have hV_1 := hV_1.mono hE_2.le
 simp only [List.append_nil] at hW'
 have hlt0 : ∀ x ∈ p0, x.block < W.heap.size := fun x hx => hW'.lt x (by simp [hx])
 have hargs0 : ∀ (W' : World), Below W.heap.size W W' → DataW.Trod enc Tryz.prog W' 0 (fun b => decide (b < W.heap.size)) true 26 v0 d0 p0 :=
  fun W' hn => Below.trod laidOut (by kernel_rfl) (of_decide_eq_true (by kernel_rfl)) h0 hn hlt0
 have hlt1 : ∀ x ∈ p1, x.block < W.heap.size := fun x hx => hW'.lt x (by simp [hx])
 have hargs1 : ∀ (W' : World), Below W.heap.size W W' → DataW.Trod enc Tryz.prog W' 0 (fun b => decide (b < W.heap.size)) true 30 v1 d1 p1 :=
  fun W' hn => Below.trod laidOut (by kernel_rfl) (of_decide_eq_true (by kernel_rfl)) h1 hn hlt1
 have hlt2 : ∀ x ∈ p2, x.block < W.heap.size := fun x hx => hW'.lt x (by simp [hx])
 have hargs2 : ∀ (W' : World), Below W.heap.size W W' → DataW.Trod enc Tryz.prog W' 0 (fun b => decide (b < W.heap.size)) true 32 v2 d2 p2 :=
  fun W' hn => Below.trod laidOut (by kernel_rfl) (of_decide_eq_true (by kernel_rfl)) h2 hn hlt2
 have hfn : Go.Ds.Fn Tryz.prog 6 [.agg #[pl.rv, pl.dv, pl.cv], .agg #[sv1, .int .u64 rg1.cpl, .int .u64 rg1.off], kv2] H_2 fun v _ => v = .bool true :=
  (a2y hEt_2.glob (fun _ => a7R) pl hp hk sv1 rg1 hrg1 kv2 ks2 hki2).mono fun _ _ h => h.1
 refine (hfn.calls hI_2.rel hI_2.shut (args' := #[v0, v1, v2]) ⟨hV_0, hV_1, hV_2, trivial⟩).mono fun e' W' ⟨he', hn⟩ => ?_
 subst he'
 exact ⟨_, rfl, _, _, _, [], _, [], hW', trodAll_mk1 (shut_bool Tryz.underlying4 _), trodAll_mk3 (hargs0 _ hn) (hargs1 _ hn) (hargs2 _ hn), rfl, hn.frame _, fun h => by cases h⟩
theorem k_inPlace : (Rows.silenceErrorsRow.inPlace == Tryz.pinned.checked.prog.inPlace 6) = true := by kernel_rfl
theorem k_unfollowed : (Rows.silenceErrorsRow.unfollowed == Tryz.pinned.checked.prog.unfollowed 6) = true := by kernel_rfl
theorem k_recurses : (Rows.silenceErrorsRow.recurses == Tryz.pinned.checked.prog.recurses 6) = true := by kernel_rfl
theorem k_named : (Rows.silenceErrorsRow.named == Tryz.pinned.checked.prog.varsNamed 6) = true := by kernel_rfl
theorem k_joined : joinedFacts Tryz.pinned.checked.prog 6 Tryz.f6 Rows.silenceErrorsSpec Rows.silenceErrorsRow = true :=
 joined_of (by kernel_rfl) (by kernel_rfl) (by kernel_rfl) (by kernel_rfl) (by kernel_rfl) k_inPlace k_unfollowed k_recurses k_named (by kernel_rfl) (by kernel_rfl) (by kernel_rfl) (by kernel_rfl) (by kernel_rfl) (by kernel_rfl) (by kernel_rfl) (by kernel_rfl) (by kernel_rfl) rfl (by kernel_rfl) rfl rfl (by kernel_rfl) (by kernel_rfl) (by kernel_rfl) (by kernel_rfl)
theorem k_func : Tryz.pinned.checked.prog.funcNamed "bombarde/bombardelaw27.SilenceErrors" = some 6 := by kernel_rfl
theorem k_wrap : Tryz.f6.isWrapper Tryz.pinned.checked.prog Rows.silenceErrorsRow.wrapper Rows.silenceErrorsRow.mainSum := by
 unfold Func.isWrapper
 first
  | (rw [if_pos (by decide +kernel)]; kernel_rfl)
  | (rw [if_neg (by decide +kernel)]; exact ⟨rfl, rfl⟩)
theorem k_goes : false = Rows.silenceErrorsRow.goesBy Tryz.pinned.checked.prog := by kernel_rfl
theorem k_stand : ([26, 30, 32].all fun u => !Tryz.prog.wantsStandIn u) = true := by kernel_rfl
theorem k_text : Rows.silenceErrorsRow.wfByText (OpenSpec.ofChange Rows.silenceErrorsSpec) = true := by kernel_rfl
theorem silenceErrors_row : Rows.SilenceErrorsSaid :=
 OpenClaim.holds_of_wide 6 Tryz.f6 rfl rfl rfl rfl rfl rfl rfl ⟨rfl, rfl, rfl, rfl, rfl⟩ rfl rfl rfl rfl rfl k_func Tryz.func6 k_joined
  (of_decide_eq_true (by kernel_rfl)) k_wrap (fun os started H enc _ => lifted os started H enc)
theorem silenceErrors_holds : Rows.SilenceErrorsCardSaid :=
 Claim7.holds_tied_plain_at .later [] [.data, .data, .data] true (true, "08984982688134c8f29be1d7aaea7e29dc30945751bc74652f10e94408c0193e") true
  silenceErrors_row (fun _ h => by cases h) k_text (fun _ h => by cases h) silenceErrors_row_tie rfl ⟨rfl, rfl⟩ j_main rfl
  (fun f fn hf hfn => by
    obtain rfl : f = 6 := Option.some.inj (k_func.symm.trans hf) |>.symm
    obtain rfl : fn = Tryz.f6 := (Option.some.inj (Tryz.func6.symm.trans hfn)).symm
    exact ⟨j_looks, fun j t ht => by
     rw [Tryz.params6] at ht
     have hm : t ∈ [26, 30, 32] := by simpa using Array.mem_of_getElem? ht
     exact (show Tryz.prog.wantsStandIn t = false by simpa using List.all_eq_true.1 k_stand t hm)⟩)
  k_goes
end Go.Proofs.YtmhekfhdnednjaaGreatDoor
