/-
  For every plan of an organ, all bits of a registration and all bits of keys the law TopSoundsAreReasons returns true, and its arguments read as before; the three tables of numbers that the library keeps are what the program's text lays. No other condition.
-/
import Derived.Test.YtnanbgjemcpplaaGreatDoorRows
import Derived.Test.YtnanbgjemcpplaaGreatDoorCards
import Derived.Test.YtnanbgjemcpplaaGreatDoorTie
import Derived.Test.YtnanbgjemcpplaaGreatDoorVJ
import Derived.Test.YtnanbgjemcpplaaGreatDoorVK
import Derived.Test.YtnanbgjemcpplaaGreatDoorVL
set_option linter.unusedVariables false
set_option linter.unusedSimpArgs false
set_option linter.defProp false
set_option linter.unusedSectionVars false
namespace Go.Proofs.YtnanbgjemcpplaaGreatDoor
open Go.ChangeShapes Go.WideShapes Go.ChangeAt Go.RowKit Go.Deep Go.Ds
set_option maxRecDepth 100000 in
theorem lifted (os : Os) (started : os.Started) (H : Type) (enc : TypeId × Value → H) :
 ReturnsInHanded {} Tryz.checked os 3 .any (fun w args => (Rows.topSoundsAreReasonsSpec.pre enc Tryz.prog Tryz.f3 [] false w args ∧ laidMetH Tryz.prog laid3 w) ∧ sizedMet enc Tryz.prog Tryz.f3 (OpenSpec.ofChange Rows.topSoundsAreReasonsSpec) false w args)
  (Rows.topSoundsAreReasonsSpec.post enc Tryz.prog Tryz.f3 false true false false) := by
 refine a5d (C := Tryz.checked) (X := fun w _ => laidMetH Tryz.prog laid3 w) (fun _ _ _ hh h => h.of_heap hh) own started (by kernel_rfl) Tryz.func3
  (ChangeSpec.witness_shaped (enc := enc) (C := Tryz.checked) (os := os) (X := fun w _ => laidMetH Tryz.prog laid3 w) false (World.doorLaid Tryz.prog 400 os) #[.agg #[.slice none 0 0, .slice none 0 0, .slice none 0 0], .agg #[.int .u8 0, .int .u8 0, .int .u8 0, .int .u8 0, .int .u8 0], .agg #[.int .u16 0, .int .u16 0, .int .u16 0]] 8 rfl (World.shaped_of_RefB (by kernel_rfl) (by kernel_rfl)) (by kernel_rfl) (by kernel_rfl) (by kernel_rfl) (door_met os _)) ?_
 rintro W args ds gs before hsh ⟨base, hval0⟩ hW hL
 have hval : ∀ (j : Nat) t v, Tryz.f3.params[j]? = some t → args[j]? = some v → Value.okWide Tryz.prog W .any base t v := hval0
 have hW' := hW
 obtain ⟨p, q, hA0, hV, rfl, _, _⟩ := hW
 have hA : DataW.TrodAll enc Tryz.prog W 0 (fun _ => true) true Tryz.f3.params.toList args.toList ds p := hA0
 rw [Tryz.params3] at hA hval
 obtain ⟨v0, v1, v2, d0, d1, d2, p0, p1, p2, rfl, rfl, rfl, h0, h1, h2⟩ := trodAll_three hA
 obtain ⟨rfl, rfl⟩ := trodVars_none hV
 obtain ⟨⟨ρ0, hI⟩, cs, t, fr, hb0⟩ := of_laid hL hsh
 obtain ⟨ρ_0, H_0, pl, hI_0, hE_0, hV_0, hp, hk⟩ := c3D hI hb0 h0 (hval 0 26 v0 rfl rfl)
 obtain ⟨b, hb, rfl⟩ := c6g h1 (hval 1 27 v1 rfl rfl)
 obtain ⟨kb, hkb, rfl⟩ := c9N h2 (hval 2 29 v2 rfl rfl)
 simp only [List.append_nil] at hW'
 have hlt0 : ∀ x ∈ p0, x.block < W.heap.size := fun x hx => hW'.lt x (by simp [hx])
 have hargs0 : ∀ (W' : World), Below W.heap.size W W' → DataW.Trod enc Tryz.prog W' 0 (fun b => decide (b < W.heap.size)) true 26 v0 d0 p0 :=
  fun W' hn => Below.trod laidOut (by kernel_rfl) (of_decide_eq_true (by kernel_rfl)) h0 hn hlt0
 have hlt1 : ∀ x ∈ p1, x.block < W.heap.size := fun x hx => hW'.lt x (by simp [hx])
 have hargs1 : ∀ (W' : World), Below W.heap.size W W' → DataW.Trod enc Tryz.prog W' 0 (fun b => decide (b < W.heap.size)) true 27 _ d1 p1 :=
  fun W' hn => Below.trod laidOut (by kernel_rfl) (of_decide_eq_true (by kernel_rfl)) h1 hn hlt1
 have hlt2 : ∀ x ∈ p2, x.block < W.heap.size := fun x hx => hW'.lt x (by simp [hx])
 have hargs2 : ∀ (W' : World), Below W.heap.size W W' → DataW.Trod enc Tryz.prog W' 0 (fun b => decide (b < W.heap.size)) true 29 _ d2 p2 :=
  fun W' hn => Below.trod laidOut (by kernel_rfl) (of_decide_eq_true (by kernel_rfl)) h2 hn hlt2
 have hfn : Go.Ds.Fn Tryz.prog 3 [.agg #[pl.rv, pl.dv, pl.cv], .agg #[.int .u8 (b 0), .int .u8 (b 1), .int .u8 (b 2), .int .u8 (b 3), .int .u8 (b 4)], .agg #[.int .u16 (kb 0), .int .u16 (kb 1), .int .u16 (kb 2)]] H_0 fun v _ => v = .bool true :=
  (a9v hE_0.glob pl hp hk b hb kb hkb).mono fun _ _ h => h.1
 refine (hfn.calls hI_0.rel hI_0.shut (args' := #[v0, .agg #[.int .u8 (b 0), .int .u8 (b 1), .int .u8 (b 2), .int .u8 (b 3), .int .u8 (b 4)], .agg #[.int .u16 (kb 0), .int .u16 (kb 1), .int .u16 (kb 2)]]) ⟨hV_0, .of_flat rfl, .of_flat rfl, trivial⟩).mono fun e' W' ⟨he', hn⟩ => ?_
 subst he'
 exact ⟨_, rfl, _, _, _, [], _, [], hW', trodAll_mk1 (shut_bool Tryz.underlying4 _), trodAll_mk3 (hargs0 _ hn) (hargs1 _ hn) (hargs2 _ hn), rfl, hn.frame _, fun h => by cases h⟩
theorem k_inPlace : (Rows.topSoundsAreReasonsRow.inPlace == Tryz.pinned.checked.prog.inPlace 3) = true := by kernel_rfl
theorem k_unfollowed : (Rows.topSoundsAreReasonsRow.unfollowed == Tryz.pinned.checked.prog.unfollowed 3) = true := by kernel_rfl
theorem k_recurses : (Rows.topSoundsAreReasonsRow.recurses == Tryz.pinned.checked.prog.recurses 3) = true := by kernel_rfl
theorem k_named : (Rows.topSoundsAreReasonsRow.named == Tryz.pinned.checked.prog.varsNamed 3) = true := by kernel_rfl
theorem k_joined : joinedFacts Tryz.pinned.checked.prog 3 Tryz.f3 Rows.topSoundsAreReasonsSpec Rows.topSoundsAreReasonsRow = true :=joined_of (by kernel_rfl) (by kernel_rfl) (by kernel_rfl) (by kernel_rfl) (by kernel_rfl) k_inPlace k_unfollowed k_recurses k_named (by kernel_rfl) (by kernel_rfl) (by kernel_rfl) (by kernel_rfl) (by kernel_rfl) (by kernel_rfl) (by kernel_rfl) (by kernel_rfl) (by kernel_rfl) rfl (by kernel_rfl) rfl rfl (by kernel_rfl) (by kernel_rfl) (by kernel_rfl) (by kernel_rfl)
theorem k_func : Tryz.pinned.checked.prog.funcNamed "bombarde/bombardetop.TopSoundsAreReasons" = some 3 := by kernel_rfl
theorem k_wrap : Tryz.f3.isWrapper Tryz.pinned.checked.prog Rows.topSoundsAreReasonsRow.wrapper Rows.topSoundsAreReasonsRow.mainSum := by unfold Func.isWrapper;first| (rw [if_pos (by decide +kernel)];kernel_rfl)| (rw [if_neg (by decide +kernel)];exact ⟨rfl, rfl⟩)
theorem k_goes : false = Rows.topSoundsAreReasonsRow.goesBy Tryz.pinned.checked.prog := by kernel_rfl
theorem k_stand : ([26, 27, 29].all λu => !Tryz.prog.wantsStandIn u) = true := by kernel_rfl
theorem k_text : Rows.topSoundsAreReasonsRow.wfByText (OpenSpec.ofChange Rows.topSoundsAreReasonsSpec) = true := by kernel_rfl
theorem topSoundsAreReasons_row : Rows.TopSoundsAreReasonsSaid :=OpenClaim.holds_of_wide 3 Tryz.f3 rfl rfl rfl rfl rfl rfl rfl ⟨rfl, rfl, rfl, rfl, rfl⟩ rfl rfl rfl rfl rfl k_func Tryz.func3 k_joined (of_decide_eq_true (by kernel_rfl)) k_wrap (λos started H enc _ => lifted os started H enc)
theorem topSoundsAreReasons_holds : Rows.TopSoundsAreReasonsCardSaid :=Claim7.holds_tied_plain_at .later [] [.data, .data, .data] true (true, "b0bce07c4787bb130c10b2969750039a453907f6657a7fc363b0b4d123040aaf") false topSoundsAreReasons_row (λ_ h => by cases h) k_text (λ_ h => by cases h) topSoundsAreReasons_row_tie rfl ⟨rfl, rfl⟩ j_main rfl (λf fn hf hfn => by obtain rfl : f = 3 := Option.some.inj (k_func.symm.trans hf) |>.symm;obtain rfl : fn = Tryz.f3 := (Option.some.inj (Tryz.func3.symm.trans hfn)).symm;exact ⟨j_looks, λj t ht => by rw [Tryz.params3] at ht;(have hm : t ∈ [26, 27, 29] := by simpa using Array.mem_of_getElem? ht);exact (show Tryz.prog.wantsStandIn t = false by simpa using List.all_eq_true.1 k_stand t hm)⟩) k_goes
end Go.Proofs.YtnanbgjemcpplaaGreatDoor
