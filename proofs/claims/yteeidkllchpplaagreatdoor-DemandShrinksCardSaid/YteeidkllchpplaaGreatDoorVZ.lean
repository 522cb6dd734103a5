/-
  For every plan of an organ, all bits of a registration and every two numbers the law DemandShrinks returns true, and its arguments read as before; the three tables of numbers that the library keeps are what the program's text lays. No other condition.
-/
import Derived.Test.YteeidkllchpplaaGreatDoorRows
import Derived.Test.YteeidkllchpplaaGreatDoorCards
import Derived.Test.YteeidkllchpplaaGreatDoorTie
import Derived.Test.YteeidkllchpplaaGreatDoorVJ
import Derived.Test.YteeidkllchpplaaGreatDoorVK
import Derived.Test.YteeidkllchpplaaGreatDoorVL
set_option linter.unusedVariables false
set_option linter.unusedSimpArgs false
set_option linter.defProp false
set_option linter.unusedSectionVars false
namespace Go.Proofs.YteeidkllchpplaaGreatDoor
open Go.ChangeShapes Go.WideShapes Go.ChangeAt Go.RowKit Go.Deep Go.Ds
set_option maxRecDepth 100000 in
theorem lifted (os : Os) (started : os.Started) (H : Type) (enc : TypeId × Value → H) :
 ReturnsInHanded {} Tryz.checked os 3 .any (fun w args => (Rows.demandShrinksSpec.pre enc Tryz.prog Tryz.f3 [] false w args ∧ laidMetH Tryz.prog laid3 w) ∧ sizedMet enc Tryz.prog Tryz.f3 (OpenSpec.ofChange Rows.demandShrinksSpec) false w args)
  (Rows.demandShrinksSpec.post enc Tryz.prog Tryz.f3 false true false false) := by
 refine a4b (C := Tryz.checked) (X := fun w _ => laidMetH Tryz.prog laid3 w) (fun _ _ _ hh h => h.of_heap hh) own started (by kernel_rfl) Tryz.func3
  (ChangeSpec.witness_shaped (enc := enc) (C := Tryz.checked) (os := os) (X := fun w _ => laidMetH Tryz.prog laid3 w) false (World.doorLaid Tryz.prog 400 os) #[.agg #[.slice none 0 0, .slice none 0 0, .slice none 0 0], .agg #[.int .u8 0, .int .u8 0, .int .u8 0, .int .u8 0, .int .u8 0], .agg #[.int .u8 0, .int .u8 0]] 8 rfl (World.shaped_of_RefB (by kernel_rfl) (by kernel_rfl)) (by kernel_rfl) (by kernel_rfl) (by kernel_rfl) (door_met os _)) ?_
 rintro W args ds gs before hsh ⟨base, hval0⟩ hW hL
 have hval : ∀ (j : Nat) t v, Tryz.f3.params[j]? = some t → args[j]? = some v → Value.okWide Tryz.prog W .any base t v := hval0
 have hW' := hW
 obtain ⟨p, q, hA0, hV, rfl, _, _⟩ := hW
 have hA : DataW.TrodAll enc Tryz.prog W 0 (fun _ => true) true Tryz.f3.params.toList args.toList ds p := hA0
 rw [Tryz.params3] at hA hval
 obtain ⟨v0, v1, v2, d0, d1, d2, p0, p1, p2, rfl, rfl, rfl, h0, h1, h2⟩ := trodAll_three hA
 obtain ⟨rfl, rfl⟩ := trodVars_none hV
 obtain ⟨⟨ρ0, hI⟩, cs, t, fr, hb0⟩ := of_laid hL hsh
 obtain ⟨ρ_0, H_0, pl, hI_0, hE_0, hV_0, hp, hk⟩ := c0e hI hb0 h0 (hval 0 26 v0 rfl rfl)
 obtain ⟨b, hb, rfl⟩ := c4w h1 (hval 1 27 v1 rfl rfl)
 obtain ⟨sa, sb, hsa, hsb, rfl⟩ := c4n h2 (hval 2 28 v2 rfl rfl)
 simp only [List.append_nil] at hW'
 have hlt0 : ∀ x ∈ p0, x.block < W.heap.size := fun x hx => hW'.lt x (by simp [hx])
 have hargs0 : ∀ (W' : World), Below W.heap.size W W' → DataW.Trod enc Tryz.prog W' 0 (fun b => decide (b < W.heap.size)) true 26 v0 d0 p0 :=
  fun W' hn => Below.trod laidOut (by kernel_rfl) (of_decide_eq_true (by kernel_rfl)) h0 hn hlt0
 have hlt1 : ∀ x ∈ p1, x.block < W.heap.size := fun x hx => hW'.lt x (by simp [hx])
 have hargs1 : ∀ (W' : World), Below W.heap.size W W' → DataW.Trod enc Tryz.prog W' 0 (fun b => decide (b < W.heap.size)) true 27 _ d1 p1 :=
  fun W' hn => Below.trod laidOut (by kernel_rfl) (of_decide_eq_true (by kernel_rfl)) h1 hn hlt1
 have hlt2 : ∀ x ∈ p2, x.block < W.heap.size := fun x hx => hW'.lt x (by simp [hx])
 have hargs2 : ∀ (W' : World), Below W.heap.size W W' → DataW.Trod enc Tryz.prog W' 0 (fun b => decide (b < W.heap.size)) true 28 _ d2 p2 :=
  fun W' hn => Below.trod laidOut (by kernel_rfl) (of_decide_eq_true (by kernel_rfl)) h2 hn hlt2
 have hfn : Go.Ds.Fn Tryz.prog 3 [.agg #[pl.rv, pl.dv, pl.cv], .agg #[.int .u8 (b 0), .int .u8 (b 1), .int .u8 (b 2), .int .u8 (b 3), .int .u8 (b 4)], .agg #[.int .u8 sa, .int .u8 sb]] H_0 fun v _ => v = .bool true :=
  (a3X hE_0.glob pl hp hk b hb sa sb hsa hsb).mono fun _ _ h => h.1
 refine (hfn.calls hI_0.rel hI_0.shut (args' := #[v0, .agg #[.int .u8 (b 0), .int .u8 (b 1), .int .u8 (b 2), .int .u8 (b 3), .int .u8 (b 4)], .agg #[.int .u8 sa, .int .u8 sb]]) ⟨hV_0, .of_flat rfl, .of_flat rfl, trivial⟩).mono fun e' W' ⟨he', hn⟩ => ?_
 subst he'
 exact ⟨_, rfl, _, _, _, [], _, [], hW', trodAll_mk1 (shut_bool Tryz.underlying4 _), trodAll_mk3 (hargs0 _ hn) (hargs1 _ hn) (hargs2 _ hn), rfl, hn.frame _, fun h => by cases h⟩
theorem k_inPlace : (Rows.demandShrinksRow.inPlace == Tryz.pinned.checked.prog.inPlace 3) = true := by kernel_rfl
theorem k_unfollowed : (Rows.demandShrinksRow.unfollowed == Tryz.pinned.checked.prog.unfollowed 3) = true := by kernel_rfl
theorem k_recurses : (Rows.demandShrinksRow.recurses == Tryz.pinned.checked.prog.recurses 3) = true := by kernel_rfl
theorem k_named : (Rows.demandShrinksRow.named == Tryz.pinned.checked.prog.varsNamed 3) = true := by kernel_rfl
theorem k_joined : joinedFacts Tryz.pinned.checked.prog 3 Tryz.f3 Rows.demandShrinksSpec Rows.demandShrinksRow = true :=
 joined_of (by kernel_rfl) (by kernel_rfl) (by kernel_rfl) (by kernel_rfl) (by kernel_rfl) k_inPlace k_unfollowed k_recurses k_named (by kernel_rfl) (by kernel_rfl) (by kernel_rfl) (by kernel_rfl) (by kernel_rfl) (by kernel_rfl) (by kernel_rfl) (by kernel_rfl) (by kernel_rfl) rfl (by kernel_rfl) rfl rfl (by kernel_rfl) (by kernel_rfl) (by kernel_rfl) (by kernel_rfl)
theorem k_func : Tryz.pinned.checked.prog.funcNamed "bombarde/bombardelaw33.DemandShrinks" = some 3 := by kernel_rfl
theorem k_wrap : Tryz.f3.isWrapper Tryz.pinned.checked.prog Rows.demandShrinksRow.wrapper Rows.demandShrinksRow.mainSum := by
 unfold Func.isWrapper
 first
  | (rw [if_pos (by decide +kernel)]; kernel_rfl)
  | (rw [if_neg (by decide +kernel)]; exact ⟨rfl, rfl⟩)
theorem k_goes : false = Rows.demandShrinksRow.goesBy Tryz.pinned.checked.prog := by kernel_rfl
theorem k_stand : ([26, 27, 28].all fun u => !Tryz.prog.wantsStandIn u) = true := by kernel_rfl
theorem k_text : Rows.demandShrinksRow.wfByText (OpenSpec.ofChange Rows.demandShrinksSpec) = true := by kernel_rfl
theorem demandShrinks_row : Rows.DemandShrinksSaid :=
 OpenClaim.holds_of_wide 3 Tryz.f3 rfl rfl rfl rfl rfl rfl rfl ⟨rfl, rfl, rfl, rfl, rfl⟩ rfl rfl rfl rfl rfl k_func Tryz.func3 k_joined
  (of_decide_eq_true (by kernel_rfl)) k_wrap (fun os started H enc _ => lifted os started H enc)
theorem demandShrinks_holds : Rows.DemandShrinksCardSaid :=
 Claim7.holds_tied_plain_at .later [] [.data, .data, .data] true (true, "3f5229ba27cd0ad1ce7c0815b3c63c5b9fc05dec9be42522deacf3bb2c48deb6") false
  demandShrinks_row (fun _ h => by cases h) k_text (fun _ h => by cases h) demandShrinks_row_tie rfl ⟨rfl, rfl⟩ j_main rfl
  (fun f fn hf hfn => by
    obtain rfl : f = 3 := Option.some.inj (k_func.symm.trans hf) |>.symm
    obtain rfl : fn = Tryz.f3 := (Option.some.inj (Tryz.func3.symm.trans hfn)).symm
    exact ⟨j_looks, fun j t ht => by
     rw [Tryz.params3] at ht
     have hm : t ∈ [26, 27, 28] := by simpa using Array.mem_of_getElem? ht
     exact (show Tryz.prog.wantsStandIn t = false by simpa using List.all_eq_true.1 k_stand t hm)⟩)
  k_goes
end Go.Proofs.YteeidkllchpplaaGreatDoor
