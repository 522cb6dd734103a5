/-
  For every plan of an organ, all bits of a registration and every control the law SilenceControls returns true, and its arguments read as before; the three tables of numbers that the library keeps are what the program's text lays. No other condition.
-/
import Derived.Test.YtabfngimnibecaaGreatDoorRows
import Derived.Test.YtabfngimnibecaaGreatDoorCards
import Derived.Test.YtabfngimnibecaaGreatDoorTie
import Derived.Test.YtabfngimnibecaaGreatDoorVK
import Derived.Test.YtabfngimnibecaaGreatDoorVL
set_option linter.unusedVariables false
set_option linter.unusedSimpArgs false
set_option linter.defProp false
set_option linter.unusedSectionVars false
namespace Go.Proofs.YtabfngimnibecaaGreatDoor
open Go.ChangeShapes Go.WideShapes Go.ChangeAt Go.RowKit Go.Deep Go.Ds
set_option maxRecDepth 100000 in
theorem lifted (os : Os) (started : os.Started) (H : Type) (enc : TypeId × Value → H) :
 ReturnsInHanded {} Tryz.checked os 10 .any (fun w args => (Rows.silenceControlsSpec.pre enc Tryz.prog Tryz.f10 [] false w args ∧ laidMetH Tryz.prog laid3 w) ∧ sizedMet enc Tryz.prog Tryz.f10 (OpenSpec.ofChange Rows.silenceControlsSpec) false w args)
  (Rows.silenceControlsSpec.post enc Tryz.prog Tryz.f10 false true false false) := by
 refine a1U (C := Tryz.checked) (X := fun w _ => laidMetH Tryz.prog laid3 w) (fun _ _ _ hh h => h.of_heap hh) own started (by kernel_rfl) Tryz.func10
  (ChangeSpec.witness_shaped (enc := enc) (C := Tryz.checked) (os := os) (X := fun w _ => laidMetH Tryz.prog laid3 w) false (World.doorLaid Tryz.prog 400 os) #[.agg #[.slice none 0 0, .slice none 0 0, .slice none 0 0], .agg #[.int .u8 0, .int .u8 0, .int .u8 0, .int .u8 0, .int .u8 0], .agg #[.int .i64 0, .int .i64 0, .int .i64 0]] 8 rfl (World.shaped_of_RefB (by kernel_rfl) (by kernel_rfl)) (by kernel_rfl) (by kernel_rfl) (by kernel_rfl) (door_met os _)) ?_
 rintro W args ds gs before hsh ⟨base, hval0⟩ hW hL
 have hval : ∀ (j : Nat) t v, Tryz.f10.params[j]? = some t → args[j]? = some v → Value.okWide Tryz.prog W .any base t v := hval0
 have hW' := hW
 obtain ⟨p, q, hA0, hV, rfl, _, _⟩ := hW
 have hA : DataW.TrodAll enc Tryz.prog W 0 (fun _ => true) true Tryz.f10.params.toList args.toList ds p := hA0
 rw [Tryz.params10] at hA hval
 obtain ⟨v0, v1, v2, d0, d1, d2, p0, p1, p2, rfl, rfl, rfl, h0, h1, h2⟩ := trodAll_three hA
 obtain ⟨rfl, rfl⟩ := trodVars_none hV
 obtain ⟨⟨ρ0, hI⟩, cs, t, fr, hb0⟩ := of_laid hL hsh
 obtain ⟨ρ, H', pl, hI2, hE, hV2, hp, hk⟩ := b6T hI hb0 h0 (hval 0 34 v0 rfl rfl)
 obtain ⟨b, hb, rfl⟩ := b8K h1 (hval 1 87 v1 rfl rfl)
 obtain ⟨c, rfl⟩ := b9b h2 (hval 2 101 v2 rfl rfl)
 simp only [List.append_nil] at hW'
 have hlt0 : ∀ x ∈ p0, x.block < W.heap.size := fun x hx => hW'.lt x (by simp [hx])
 have hargs0 : ∀ (W' : World), Below W.heap.size W W' → DataW.Trod enc Tryz.prog W' 0 (fun b => decide (b < W.heap.size)) true 34 v0 d0 p0 :=
  fun W' hn => Below.trod laidOut (by kernel_rfl) (of_decide_eq_true (by kernel_rfl)) h0 hn hlt0
 have hlt1 : ∀ x ∈ p1, x.block < W.heap.size := fun x hx => hW'.lt x (by simp [hx])
 have hargs1 : ∀ (W' : World), Below W.heap.size W W' → DataW.Trod enc Tryz.prog W' 0 (fun b => decide (b < W.heap.size)) true 87 _ d1 p1 :=
  fun W' hn => Below.trod laidOut (by kernel_rfl) (of_decide_eq_true (by kernel_rfl)) h1 hn hlt1
 have hlt2 : ∀ x ∈ p2, x.block < W.heap.size := fun x hx => hW'.lt x (by simp [hx])
 have hargs2 : ∀ (W' : World), Below W.heap.size W W' → DataW.Trod enc Tryz.prog W' 0 (fun b => decide (b < W.heap.size)) true 101 _ d2 p2 :=
  fun W' hn => Below.trod laidOut (by kernel_rfl) (of_decide_eq_true (by kernel_rfl)) h2 hn hlt2
 have hfn : Go.Ds.Fn Tryz.prog 10 [.agg #[pl.rv, pl.dv, pl.cv], .agg #[.int .u8 (b 0), .int .u8 (b 1), .int .u8 (b 2), .int .u8 (b 3), .int .u8 (b 4)], .agg #[I c.kind, I c.dv, I c.ix]] H' fun v _ => v = .bool true :=
  (b2D hE.glob (fun _ => a7Z) pl hp hk b hb c).mono fun _ _ h => h.1
 refine (hfn.calls hI2.rel hI2.shut (args' := #[v0, .agg #[.int .u8 (b 0), .int .u8 (b 1), .int .u8 (b 2), .int .u8 (b 3), .int .u8 (b 4)], .agg #[I c.kind, I c.dv, I c.ix]]) ⟨hV2, .of_flat rfl, .of_flat rfl, trivial⟩).mono fun e' W' ⟨he', hn⟩ => ?_
 subst he'
 exact ⟨_, rfl, _, _, _, [], _, [], hW', trodAll_mk1 (shut_bool Tryz.underlying4 _), trodAll_mk3 (hargs0 _ hn) (hargs1 _ hn) (hargs2 _ hn), rfl, hn.frame _, fun h => by cases h⟩
theorem k_inPlace : (Rows.silenceControlsRow.inPlace == Tryz.pinned.checked.prog.inPlace 10) = true := by kernel_rfl
theorem k_unfollowed : (Rows.silenceControlsRow.unfollowed == Tryz.pinned.checked.prog.unfollowed 10) = true := by kernel_rfl
theorem k_recurses : (Rows.silenceControlsRow.recurses == Tryz.pinned.checked.prog.recurses 10) = true := by kernel_rfl
theorem k_named : (Rows.silenceControlsRow.named == Tryz.pinned.checked.prog.varsNamed 10) = true := by kernel_rfl
theorem k_joined : joinedFacts Tryz.pinned.checked.prog 10 Tryz.f10 Rows.silenceControlsSpec Rows.silenceControlsRow = true :=
 joined_of (by kernel_rfl) (by kernel_rfl) (by kernel_rfl) (by kernel_rfl) (by kernel_rfl) k_inPlace k_unfollowed k_recurses k_named (by kernel_rfl) (by kernel_rfl) (by kernel_rfl) (by kernel_rfl) (by kernel_rfl) (by kernel_rfl) (by kernel_rfl) (by kernel_rfl) (by kernel_rfl) rfl (by kernel_rfl) rfl rfl (by kernel_rfl) (by kernel_rfl) (by kernel_rfl) (by kernel_rfl)
theorem k_func : Tryz.pinned.checked.prog.funcNamed "bombarde/bombardelaw27.SilenceControls" = some 10 := by kernel_rfl
theorem k_wrap : Tryz.f10.isWrapper Tryz.pinned.checked.prog Rows.silenceControlsRow.wrapper Rows.silenceControlsRow.mainSum := by
 unfold Func.isWrapper
 first
  | (rw [if_pos (by decide +kernel)]; kernel_rfl)
  | (rw [if_neg (by decide +kernel)]; exact ⟨rfl, rfl⟩)
theorem k_goes : false = Rows.silenceControlsRow.goesBy Tryz.pinned.checked.prog := by kernel_rfl
theorem k_stand : ([34, 87, 101].all fun u => !Tryz.prog.wantsStandIn u) = true := by kernel_rfl
theorem k_text : Rows.silenceControlsRow.wfByText (OpenSpec.ofChange Rows.silenceControlsSpec) = true := by kernel_rfl
theorem silenceControls_row : Rows.SilenceControlsSaid :=
 OpenClaim.holds_of_wide 10 Tryz.f10 rfl rfl rfl rfl rfl rfl rfl ⟨rfl, rfl, rfl, rfl, rfl⟩ rfl rfl rfl rfl rfl k_func Tryz.func10 k_joined
  (of_decide_eq_true (by kernel_rfl)) k_wrap (fun os started H enc _ => lifted os started H enc)
theorem silenceControls_holds : Rows.SilenceControlsCardSaid :=
 Claim7.holds_tied_plain_at .later [] [.data, .data, .data] true (true, "5b302d263b32c2c253504f808a8d267584d010de6cc2c03ff6d6080a7818b77c") false
  silenceControls_row (fun _ h => by cases h) k_text (fun _ h => by cases h) silenceControls_row_tie rfl ⟨rfl, rfl⟩ j_main rfl
  (fun f fn hf hfn => by
    obtain rfl : f = 10 := Option.some.inj (k_func.symm.trans hf) |>.symm
    obtain rfl : fn = Tryz.f10 := (Option.some.inj (Tryz.func10.symm.trans hfn)).symm
    exact ⟨j_looks, fun j t ht => by
     rw [Tryz.params10] at ht
     have hm : t ∈ [34, 87, 101] := by simpa using Array.mem_of_getElem? ht
     exact (show Tryz.prog.wantsStandIn t = false by simpa using List.all_eq_true.1 k_stand t hm)⟩)
  k_goes
end Go.Proofs.YtabfngimnibecaaGreatDoor
