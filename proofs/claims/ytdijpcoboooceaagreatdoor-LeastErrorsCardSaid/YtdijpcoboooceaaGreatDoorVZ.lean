/-
  For every plan of an organ, every change with a registration and every list of keys the law LeastErrors returns true, and its arguments read as before; the three tables of numbers that the library keeps are what the program's text lays. No other condition.
-/
import Derived.Test.YtdijpcoboooceaaGreatDoorRows
import Derived.Test.YtdijpcoboooceaaGreatDoorCards
import Derived.Test.YtdijpcoboooceaaGreatDoorTie
import Derived.Test.YtdijpcoboooceaaGreatDoorVJ
import Derived.Test.YtdijpcoboooceaaGreatDoorVK
import Derived.Test.YtdijpcoboooceaaGreatDoorVL
set_option linter.unusedVariables false
set_option linter.unusedSimpArgs false
set_option linter.defProp false
set_option linter.unusedSectionVars false
namespace Go.Proofs.YtdijpcoboooceaaGreatDoor
open Go.ChangeShapes Go.WideShapes Go.ChangeAt Go.RowKit Go.Deep Go.Ds
set_option maxRecDepth 100000 in
theorem lifted (os : Os) (started : os.Started) (H : Type) (enc : TypeId × Value → H) :
 ReturnsInHanded {} Tryz.checked os 9 .any (fun w args => (Rows.leastErrorsSpec.pre enc Tryz.prog Tryz.f9 [] false w args ∧ laidMetH Tryz.prog laid3 w) ∧ sizedMet enc Tryz.prog Tryz.f9 (OpenSpec.ofChange Rows.leastErrorsSpec) false w args)
  (Rows.leastErrorsSpec.post enc Tryz.prog Tryz.f9 false true false false) := by
 refine a6b (C := Tryz.checked) (X := fun w _ => laidMetH Tryz.prog laid3 w) (fun _ _ _ hh h => h.of_heap hh) own started (by kernel_rfl) Tryz.func9
  (ChangeSpec.witness_shaped (enc := enc) (C := Tryz.checked) (os := os) (X := fun w _ => laidMetH Tryz.prog laid3 w) false (World.doorLaid Tryz.prog 400 os) #[.agg #[.slice none 0 0, .slice none 0 0, .slice none 0 0], .agg #[.int .u8 0, .int .u8 0, .slice none 0 0, .int .u64 0, .int .u64 0], .slice none 0 0] 8 rfl (World.shaped_of_RefB (by kernel_rfl) (by kernel_rfl)) (by kernel_rfl) (by kernel_rfl) (by kernel_rfl) (door_met os _)) ?_
 rintro W args ds gs before hsh ⟨base, hval0⟩ hW hL
 have hval : ∀ (j : Nat) t v, Tryz.f9.params[j]? = some t → args[j]? = some v → Value.okWide Tryz.prog W .any base t v := hval0
 have hW' := hW
 obtain ⟨p, q, hA0, hV, rfl, _, _⟩ := hW
 have hA : DataW.TrodAll enc Tryz.prog W 0 (fun _ => true) true Tryz.f9.params.toList args.toList ds p := hA0
 rw [Tryz.params9] at hA hval
 obtain ⟨v0, v1, v2, d0, d1, d2, p0, p1, p2, rfl, rfl, rfl, h0, h1, h2⟩ := trodAll_three hA
 obtain ⟨rfl, rfl⟩ := trodVars_none hV
 obtain ⟨⟨ρ0, hI⟩, cs, t, fr, hb0⟩ := of_laid hL hsh
 obtain ⟨ρ_0, H_0, pl, hI_0, hE_0, hV_0, hp, hk⟩ := c7a hI hb0 h0 (hval 0 26 v0 rfl rfl)
 obtain ⟨ρ_1, H_1, sa, sb, sv1, rg1, hI_1, hE_1, hV_1, hsa, hsb, hrg1⟩ := c8O hI_0 hb0 h1 (hval 1 98 v1 rfl rfl)
 have hEt_1 := hE_0.trans hE_1
 have hp := hp.ext hE_1
 have hV_0 := hV_0.mono hE_1.le
 obtain ⟨ρ_2, H_2, lv, ls, hI_2, hE_2, hV_2, hls⟩ := c9C hI_1 hb0 h2 (hval 2 50 v2 rfl rfl)
 have hEt_2 := hEt_1.trans hE_2
 have hp := hp.ext hE_2
 have hV_0 := hV_0.mono hE_2.le
 have hrg1 := hrg1.ext hE_2
 have hV_1 := hV_1.mono hE_2.le
 simp only [List.append_nil] at hW'
 have hlt0 : ∀ x ∈ p0, x.block < W.heap.size := fun x hx => hW'.lt x (by simp [hx])
 have hargs0 : ∀ (W' : World), Below W.heap.size W W' → DataW.Trod enc Tryz.prog W' 0 (fun b => decide (b < W.heap.size)) true 26 v0 d0 p0 :=
  fun W' hn => Below.trod laidOut (by kernel_rfl) (of_decide_eq_true (by kernel_rfl)) h0 hn hlt0
 have hlt1 : ∀ x ∈ p1, x.block < W.heap.size := fun x hx => hW'.lt x (by simp [hx])
 have hargs1 : ∀ (W' : World), Below W.heap.size W W' → DataW.Trod enc Tryz.prog W' 0 (fun b => decide (b < W.heap.size)) true 98 v1 d1 p1 :=
  fun W' hn => Below.trod laidOut (by kernel_rfl) (of_decide_eq_true (by kernel_rfl)) h1 hn hlt1
 have hlt2 : ∀ x ∈ p2, x.block < W.heap.size := fun x hx => hW'.lt x (by simp [hx])
 have hargs2 : ∀ (W' : World), Below W.heap.size W W' → DataW.Trod enc Tryz.prog W' 0 (fun b => decide (b < W.heap.size)) true 50 v2 d2 p2 :=
  fun W' hn => Below.trod laidOut (by kernel_rfl) (of_decide_eq_true (by kernel_rfl)) h2 hn hlt2
 have hfn : Go.Ds.Fn Tryz.prog 9 [.agg #[pl.rv, pl.dv, pl.cv], .agg #[.int .u8 sa, .int .u8 sb, sv1, .int .u64 rg1.cpl, .int .u64 rg1.off], lv] H_2 fun v _ => v = .bool true :=
  (a4g hEt_2.glob pl hp hk sa sb hsa hsb sv1 rg1 hrg1 lv ls hls).mono fun _ _ h => h.1
 refine (hfn.calls hI_2.rel hI_2.shut (args' := #[v0, v1, v2]) ⟨hV_0, hV_1, hV_2, trivial⟩).mono fun e' W' ⟨he', hn⟩ => ?_
 subst he'
 exact ⟨_, rfl, _, _, _, [], _, [], hW', trodAll_mk1 (shut_bool Tryz.underlying4 _), trodAll_mk3 (hargs0 _ hn) (hargs1 _ hn) (hargs2 _ hn), rfl, hn.frame _, fun h => by cases h⟩
theorem k_inPlace : (Rows.leastErrorsRow.inPlace == Tryz.pinned.checked.prog.inPlace 9) = true := by kernel_rfl
theorem k_unfollowed : (Rows.leastErrorsRow.unfollowed == Tryz.pinned.checked.prog.unfollowed 9) = true := by kernel_rfl
theorem k_recurses : (Rows.leastErrorsRow.recurses == Tryz.pinned.checked.prog.recurses 9) = true := by kernel_rfl
theorem k_named : (Rows.leastErrorsRow.named == Tryz.pinned.checked.prog.varsNamed 9) = true := by kernel_rfl
theorem k_joined : joinedFacts Tryz.pinned.checked.prog 9 Tryz.f9 Rows.leastErrorsSpec Rows.leastErrorsRow = true :=joined_of (by kernel_rfl) (by kernel_rfl) (by kernel_rfl) (by kernel_rfl) (by kernel_rfl) k_inPlace k_unfollowed k_recurses k_named (by kernel_rfl) (by kernel_rfl) (by kernel_rfl) (by kernel_rfl) (by kernel_rfl) (by kernel_rfl) (by kernel_rfl) (by kernel_rfl) (by kernel_rfl) rfl (by kernel_rfl) rfl rfl (by kernel_rfl) (by kernel_rfl) (by kernel_rfl) (by kernel_rfl)
theorem k_func : Tryz.pinned.checked.prog.funcNamed "bombarde/bombardelaw30.LeastErrors" = some 9 := by kernel_rfl
theorem k_wrap : Tryz.f9.isWrapper Tryz.pinned.checked.prog Rows.leastErrorsRow.wrapper Rows.leastErrorsRow.mainSum := by unfold Func.isWrapper;first| (rw [if_pos (by decide +kernel)];kernel_rfl)| (rw [if_neg (by decide +kernel)];exact ⟨rfl, rfl⟩)
theorem k_goes : false = Rows.leastErrorsRow.goesBy Tryz.pinned.checked.prog := by kernel_rfl
theorem k_stand : ([26, 98, 50].all λu => !Tryz.prog.wantsStandIn u) = true := by kernel_rfl
theorem k_text : Rows.leastErrorsRow.wfByText (OpenSpec.ofChange Rows.leastErrorsSpec) = true := by kernel_rfl
theorem leastErrors_row : Rows.LeastErrorsSaid :=OpenClaim.holds_of_wide 9 Tryz.f9 rfl rfl rfl rfl rfl rfl rfl ⟨rfl, rfl, rfl, rfl, rfl⟩ rfl rfl rfl rfl rfl k_func Tryz.func9 k_joined (of_decide_eq_true (by kernel_rfl)) k_wrap (λos started H enc _ => lifted os started H enc)
theorem leastErrors_holds : Rows.LeastErrorsCardSaid :=Claim7.holds_tied_plain_at .later [] [.data, .data, .data] true (true, "8e0dc204cc4553e9d02e297ebf2b69412e363504b98707e598d0787df8fdd8cd") false leastErrors_row (λ_ h => by cases h) k_text (λ_ h => by cases h) leastErrors_row_tie rfl ⟨rfl, rfl⟩ j_main rfl (λf fn hf hfn => by obtain rfl : f = 9 := Option.some.inj (k_func.symm.trans hf) |>.symm;obtain rfl : fn = Tryz.f9 := (Option.some.inj (Tryz.func9.symm.trans hfn)).symm;exact ⟨j_looks, λj t ht => by rw [Tryz.params9] at ht;(have hm : t ∈ [26, 98, 50] := by simpa using Array.mem_of_getElem? ht);exact (show Tryz.prog.wantsStandIn t = false by simpa using List.all_eq_true.1 k_stand t hm)⟩) k_goes
end Go.Proofs.YtdijpcoboooceaaGreatDoor
