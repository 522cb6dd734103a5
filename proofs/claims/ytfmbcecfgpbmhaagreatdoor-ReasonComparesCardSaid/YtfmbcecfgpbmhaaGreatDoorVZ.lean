/-
  For every reason and every second reason the law ReasonCompares returns true, and its arguments read as before; the three tables of numbers that the library keeps are what the program's text lays. No other condition.
-/
import Derived.Test.YtfmbcecfgpbmhaaGreatDoorRows
import Derived.Test.YtfmbcecfgpbmhaaGreatDoorCards
import Derived.Test.YtfmbcecfgpbmhaaGreatDoorTie
import Derived.Test.YtfmbcecfgpbmhaaGreatDoorVJ
import Derived.Test.YtfmbcecfgpbmhaaGreatDoorVK
import Derived.Test.YtfmbcecfgpbmhaaGreatDoorVL
set_option linter.unusedVariables false
set_option linter.unusedSimpArgs false
set_option linter.defProp false
set_option linter.unusedSectionVars false
namespace Go.Proofs.YtfmbcecfgpbmhaaGreatDoor
open Go.ChangeShapes Go.WideShapes Go.ChangeAt Go.RowKit Go.Deep Go.Ds
set_option maxRecDepth 100000 in
theorem lifted (os : Os) (started : os.Started) (H : Type) (enc : TypeId × Value → H) :
 ReturnsInHanded {} Tryz.checked os 3 .any (fun w args => (Rows.reasonComparesSpec.pre enc Tryz.prog Tryz.f3 [] false w args ∧ laidMetH Tryz.prog laid3 w) ∧ sizedMet enc Tryz.prog Tryz.f3 (OpenSpec.ofChange Rows.reasonComparesSpec) false w args)
  (Rows.reasonComparesSpec.post enc Tryz.prog Tryz.f3 false true false false) := by
 refine a2Q (C := Tryz.checked) (X := fun w _ => laidMetH Tryz.prog laid3 w) (fun _ _ _ hh h => h.of_heap hh) own started (by kernel_rfl) Tryz.func3
  (ChangeSpec.witness_shaped (enc := enc) (C := Tryz.checked) (os := os) (X := fun w _ => laidMetH Tryz.prog laid3 w) false (World.doorLaid Tryz.prog 400 os) #[.agg #[.int .i64 0, .int .i64 0, .slice none 0 0, .int .i64 0, .int .i64 0, .int .i64 0], .agg #[.int .i64 0, .int .i64 0, .slice none 0 0, .int .i64 0, .int .i64 0, .int .i64 0]] 8 rfl (World.shaped_of_RefB (by kernel_rfl) (by kernel_rfl)) (by kernel_rfl) (by kernel_rfl) (by kernel_rfl) (door_met os _)) ?_
 rintro W args ds gs before hsh ⟨base, hval0⟩ hW hL
 have hval : ∀ (j : Nat) t v, Tryz.f3.params[j]? = some t → args[j]? = some v → Value.okWide Tryz.prog W .any base t v := hval0
 have hW' := hW
 obtain ⟨p, q, hA0, hV, rfl, _, _⟩ := hW
 have hA : DataW.TrodAll enc Tryz.prog W 0 (fun _ => true) true Tryz.f3.params.toList args.toList ds p := hA0
 rw [Tryz.params3] at hA hval
 obtain ⟨v0, v1, d0, d1, p0, p1, rfl, rfl, rfl, h0, h1⟩ := trodAll_two hA
 obtain ⟨rfl, rfl⟩ := trodVars_none hV
 obtain ⟨⟨ρ0, hI⟩, cs, t, fr, hb0⟩ := of_laid hL hsh
 obtain ⟨ρ_0, H_0, ra, hI_0, hE_0, hV_0, hra⟩ := b4y hI hb0 h0 (hval 0 26 v0 rfl rfl)
 obtain ⟨ρ_1, H_1, rb, hI_1, hE_1, hV_1, hrb⟩ := b4y hI_0 hb0 h1 (hval 1 26 v1 rfl rfl)
 have hEt_1 := hE_0.trans hE_1
 have hra := hra.ext hE_1
 have hV_0 := hV_0.mono hE_1.le
 simp only [List.append_nil] at hW'
 have hlt0 : ∀ x ∈ p0, x.block < W.heap.size := fun x hx => hW'.lt x (by simp [hx])
 have hargs0 : ∀ (W' : World), Below W.heap.size W W' → DataW.Trod enc Tryz.prog W' 0 (fun b => decide (b < W.heap.size)) true 26 v0 d0 p0 :=
  fun W' hn => Below.trod laidOut (by kernel_rfl) (of_decide_eq_true (by kernel_rfl)) h0 hn hlt0
 have hlt1 : ∀ x ∈ p1, x.block < W.heap.size := fun x hx => hW'.lt x (by simp [hx])
 have hargs1 : ∀ (W' : World), Below W.heap.size W W' → DataW.Trod enc Tryz.prog W' 0 (fun b => decide (b < W.heap.size)) true 26 v1 d1 p1 :=
  fun W' hn => Below.trod laidOut (by kernel_rfl) (of_decide_eq_true (by kernel_rfl)) h1 hn hlt1
 have hfn : Go.Ds.Fn Tryz.prog 3 [ra.v, rb.v] H_1 fun v _ => v = .bool true :=
  (a2i hEt_1.glob ra hra rb hrb).mono fun _ _ h => h.1
 refine (hfn.calls hI_1.rel hI_1.shut (args' := #[v0, v1]) ⟨hV_0, hV_1, trivial⟩).mono fun e' W' ⟨he', hn⟩ => ?_
 subst he'
 exact ⟨_, rfl, _, _, _, [], _, [], hW', trodAll_mk1 (shut_bool Tryz.underlying4 _), trodAll_mk2 (hargs0 _ hn) (hargs1 _ hn), rfl, hn.frame _, fun h => by cases h⟩
theorem k_inPlace : (Rows.reasonComparesRow.inPlace == Tryz.pinned.checked.prog.inPlace 3) = true := by kernel_rfl
theorem k_unfollowed : (Rows.reasonComparesRow.unfollowed == Tryz.pinned.checked.prog.unfollowed 3) = true := by kernel_rfl
theorem k_recurses : (Rows.reasonComparesRow.recurses == Tryz.pinned.checked.prog.recurses 3) = true := by kernel_rfl
theorem k_named : (Rows.reasonComparesRow.named == Tryz.pinned.checked.prog.varsNamed 3) = true := by kernel_rfl
theorem k_joined : joinedFacts Tryz.pinned.checked.prog 3 Tryz.f3 Rows.reasonComparesSpec Rows.reasonComparesRow = true :=
 joined_of (by kernel_rfl) (by kernel_rfl) (by kernel_rfl) (by kernel_rfl) (by kernel_rfl) k_inPlace k_unfollowed k_recurses k_named (by kernel_rfl) (by kernel_rfl) (by kernel_rfl) (by kernel_rfl) (by kernel_rfl) (by kernel_rfl) (by kernel_rfl) (by kernel_rfl) (by kernel_rfl) rfl (by kernel_rfl) rfl rfl (by kernel_rfl) (by kernel_rfl) (by kernel_rfl) (by kernel_rfl)
theorem k_func : Tryz.pinned.checked.prog.funcNamed "bombarde/bombardelaw26.ReasonCompares" = some 3 := by kernel_rfl
theorem k_wrap : Tryz.f3.isWrapper Tryz.pinned.checked.prog Rows.reasonComparesRow.wrapper Rows.reasonComparesRow.mainSum := by
 unfold Func.isWrapper
 first
  | (rw [if_pos (by decide +kernel)]; kernel_rfl)
  | (rw [if_neg (by decide +kernel)]; exact ⟨rfl, rfl⟩)
theorem k_goes : false = Rows.reasonComparesRow.goesBy Tryz.pinned.checked.prog := by kernel_rfl
theorem k_stand : ([26, 26].all fun u => !Tryz.prog.wantsStandIn u) = true := by kernel_rfl
theorem k_text : Rows.reasonComparesRow.wfByText (OpenSpec.ofChange Rows.reasonComparesSpec) = true := by kernel_rfl
theorem reasonCompares_row : Rows.ReasonComparesSaid :=
 OpenClaim.holds_of_wide 3 Tryz.f3 rfl rfl rfl rfl rfl rfl rfl ⟨rfl, rfl, rfl, rfl, rfl⟩ rfl rfl rfl rfl rfl k_func Tryz.func3 k_joined
  (of_decide_eq_true (by kernel_rfl)) k_wrap (fun os started H enc _ => lifted os started H enc)
theorem reasonCompares_holds : Rows.ReasonComparesCardSaid :=
 Claim7.holds_tied_plain_at .later [] [.data, .data, .data] true (true, "b7b2cb5ce3439dd9538759dc14646f5ba6b659488a75437fa880a5de16808cba") false
  reasonCompares_row (fun _ h => by cases h) k_text (fun _ h => by cases h) reasonCompares_row_tie rfl ⟨rfl, rfl⟩ j_main rfl
  (fun f fn hf hfn => by
    obtain rfl : f = 3 := Option.some.inj (k_func.symm.trans hf) |>.symm
    obtain rfl : fn = Tryz.f3 := (Option.some.inj (Tryz.func3.symm.trans hfn)).symm
    exact ⟨j_looks, fun j t ht => by
     rw [Tryz.params3] at ht
     have hm : t ∈ [26, 26] := by simpa using Array.mem_of_getElem? ht
     exact (show Tryz.prog.wantsStandIn t = false by simpa using List.all_eq_true.1 k_stand t hm)⟩)
  k_goes
end Go.Proofs.YtfmbcecfgpbmhaaGreatDoor
