/-
  Ds against the model: regions that draw their order, put together.
-/
import Derived.Test.YtoanhpaipfgnfaaDsO
set_option linter.unusedVariables false
set_option linter.unusedSimpArgs false
namespace Go.Ds
section
variable {P : Program} {ρ : Rho} {H : Heap} {w : World} {ops : Array Oper} {T : Nat → List Value × Heap} {val : Nat → Value}
variable {ρ0 : Rho} {W0 : World} {ds : List Deferred} {S : Nat → Prop} {pl : Nat → Nat} {m : Nat} {a : Act}

/-- All has come: the text's end. -/
theorem Inv.done (I : Inv P ops T val ρ0 W0 ds S pl m ρ a w) (X : Text P ops T val) (D : Draw ops) (hall : ∀ i, i < ops.size → S i) :
    ∃ ρ', Post P ρ0 (T 0).2 W0 ρ' (T ops.size).2 w ∧ All2 (V ρ') (T ops.size).1 a.tmps.toList ∧ a.defers = ds := by
  have hle := I.le
  obtain ⟨ρ', I'⟩ := Inv.upTo X D (ops.size - m) m ρ I (by omega) fun k x h1 h2 hx => by
    have hk : S k := hall k (by omega)
    refine ⟨?_, fun _ => hk⟩
    cases hm : isMain x.op with
    | false => rfl
    | true => have := (I.mains k x hx hm).1 hk; omega
  rw [show m + (ops.size - m) = ops.size by omega] at I'
  refine ⟨ρ', I'.post, All2.of_get (by rw [X.length _ (Nat.le_refl _)]; simpa using I'.size.symm) fun t v h1 => ?_, I'.defers⟩
  have ht : t < (T 0).1.length := by rw [← X.length _ (Nat.le_refl _)]; exact (List.getElem?_eq_some_iff.1 h1).1
  have e1 : ev (T ops.size).1 (.tmp t) = v := by simp [ev, get_eq, List.getD_eq_getElem?_getD, h1]
  have ht2 : t < a.tmps.size := by rw [I'.size]; exact ht
  refine ⟨a.tmps[t], by simp [ht2], ?_⟩
  have e2 : a.eval (.tmp t) = a.tmps[t] := by simp [Act.eval, ht2]
  rw [← e1, ← e2]
  by_cases hk : ∃ k x, k < ops.size ∧ ops[k]? = some x ∧ x.dst = some t
  · obtain ⟨k, x, hkn, hx, hd⟩ := hk
    rw [X.new D hx hd ht _ hkn (Nat.le_refl _)]
    exact I'.new k x t (hall k hkn) hx hd ht fun _ => hkn
  · rw [X.old _ (Nat.le_refl _) fun k x hkn hx hd => hk ⟨k, x, hkn, hx, hd⟩]
    exact I'.old t fun k x hS hx hd => hk ⟨k, x, (Array.getElem?_eq_some_iff.1 hx).1, hx, hd⟩

/-! ### What has come, in the model's table -/
theorem mem_ready {listed : Array Bool} (hsz : listed.size = ops.size) {i : Nat} (h : i ∈ Region.ready .any ops listed) :
    ∃ o, ops[i]? = some o ∧ ¬ listed.getD i false = true ∧ ∀ e ∈ o.after, Region.binds .any e = true → listed.getD e.on false = true := by
  unfold Region.ready at h
  rw [List.mem_filter] at h
  obtain ⟨hi, h⟩ := h
  have hi : i < ops.size := List.mem_range.1 hi
  have ho : ops[i]? = some ops[i] := Array.getElem?_eq_some_iff.2 ⟨hi, rfl⟩
  rw [ho, Bool.and_eq_true] at h
  refine ⟨ops[i], ho, ?_, ?_⟩
  · have h1 := h.1
    rw [Array.getD_eq_getD_getElem?, Array.getElem?_eq_getElem (by omega)] at h1 ⊢
    simpa using h1
  · have h2 := h.2
    simp only [Option.map_some, Option.getD_some, Array.all_eq_true_iff_forall_mem, Bool.or_eq_true, Bool.not_eq_true'] at h2
    intro e he hb
    rcases h2 e he with h | h
    · rw [hb] at h; cases h
    · exact h

theorem ready_mem {listed : Array Bool} (hsz : listed.size = ops.size) {i : Nat} {o : Oper} (ho : ops[i]? = some o) (hn : ¬ listed.getD i false = true) (hr : ∀ e ∈ o.after, Region.binds .any e = true → listed.getD e.on false = true) : i ∈ Region.ready .any ops listed := by
  have hi : i < ops.size := (Array.getElem?_eq_some_iff.1 ho).1
  unfold Region.ready
  rw [List.mem_filter]
  refine ⟨List.mem_range.2 hi, ?_⟩
  rw [ho, Bool.and_eq_true]
  constructor
  · rw [Array.getD_eq_getD_getElem?, Array.getElem?_eq_getElem (by omega)] at hn ⊢
    simpa using hn
  · simp only [Option.map_some, Option.getD_some, Array.all_eq_true_iff_forall_mem, Bool.or_eq_true, Bool.not_eq_true']
    intro e he
    cases hb : Region.binds .any e with
    | false => exact .inl rfl
    | true => exact .inr (hr e he hb)

theorem ready_nil {listed : Array Bool} (hsz : listed.size = ops.size) (h : ∀ i, i < ops.size → listed.getD i false = true) : Region.ready .any ops listed = [] := by
  cases hr : Region.ready .any ops listed with
  | nil => rfl
  | cons i r =>
    obtain ⟨o, ho, hn, _⟩ := mem_ready hsz (i := i) (by rw [hr]; simp)
    exact absurd (h i (Array.getElem?_eq_some_iff.1 ho).1) hn

theorem all_of_ready_nil (D : Draw ops) {listed : Array Bool} (hsz : listed.size = ops.size) (h : Region.ready .any ops listed = []) : ∀ i, i < ops.size → listed.getD i false = true := by
  intro i
  induction i using Nat.strongRecOn with
  | _ i ih =>
    intro hi
    have ho : ops[i]? = some ops[i] := Array.getElem?_eq_some_iff.2 ⟨hi, rfl⟩
    refine Classical.byContradiction fun hn => ?_
    have := ready_mem hsz ho hn fun e he hb => by
      have := D.back i _ e ho he hb
      exact ih e.on this (by omega)
    rw [h] at this
    cases this

theorem listed_set {listed : Array Bool} {i : Nat} (hi : i < listed.size) (j : Nat) : (listed.setIfInBounds i true).getD j false = true ↔ (listed.getD j false = true ∨ j = i) := by
  rw [Array.getD_eq_getD_getElem?, Array.getD_eq_getD_getElem?, Array.getElem?_setIfInBounds]
  by_cases h : i = j
  · subst h; simp [hi]
  · simp [h, Ne.symm h]

theorem Inv.congr {S' : Nat → Prop} (h : ∀ j, S' j ↔ S j) (I : Inv P ops T val ρ0 W0 ds S pl m ρ a w) : Inv P ops T val ρ0 W0 ds S' pl m ρ a w := by
  have : S' = S := funext fun j => propext (h j)
  rw [this]; exact I

theorem mem_zip {o : Oper} {i : Nat} (h : (o, i) ∈ ops.toList.zipIdx) : ops[i]? = some o := by
  rw [List.mem_zipIdx_iff_getElem?] at h
  simpa using h

theorem mem_mains {j : Nat} {x : Oper} (hx : ops[j]? = some x) (hm : isMain x.op = true) : j ∈ mainsOf ops := by
  unfold mainsOf
  rw [List.mem_filterMap]
  exact ⟨(x, j), mem_zipIdx hx, by simp [hm]⟩

theorem mains_mem {j : Nat} (h : j ∈ mainsOf ops) : ∃ x, ops[j]? = some x ∧ isMain x.op = true := by
  unfold mainsOf at h
  rw [List.mem_filterMap] at h
  obtain ⟨⟨x, j'⟩, h1, h2⟩ := h
  simp only at h2
  split at h2
  · rename_i hm
    obtain rfl := Option.some.inj h2
    exact ⟨x, mem_zip h1, hm⟩
  · cases h2

theorem mem_effects {j : Nat} {x : Oper} (hx : ops[j]? = some x) (hm : isMain x.op = true ∨ isAlloc x.op = true) : j ∈ effectsOf ops := by
  unfold effectsOf
  rw [List.mem_filterMap]
  exact ⟨(x, j), mem_zipIdx hx, by rcases hm with hm | hm <;> simp [hm]⟩

/-- A read's heap is the text's own, or has been looked at. -/
theorem reads_of {i m : Nat} {o : Oper} (ho : ops[i]? = some o) (hr : isRead o.op = true) (hm : m = 0 ∨ ∃ j x, m = j + 1 ∧ ops[j]? = some x ∧ isMain x.op = true)
    (hlo : ∀ j x, ops[j]? = some x → isMain x.op = true → (bef ops i j = true → j < m) ∧ (bef ops j i = true → m ≤ j)) :
    (i, m) ∈ readsOf ops ∨ ∀ j x, ops[j]? = some x → min m i ≤ j → j < max m i → isMain x.op = false ∧ isAlloc x.op = false := by
  by_cases h : ∃ j x, ops[j]? = some x ∧ (isMain x.op = true ∨ isAlloc x.op = true) ∧ min m i ≤ j ∧ j < max m i
  · obtain ⟨j, x, hx, he, h1, h2⟩ := h
    refine .inl ?_
    unfold readsOf
    rw [List.mem_flatMap]
    refine ⟨(o, i), mem_zipIdx ho, ?_⟩
    simp only [hr, if_true]
    rw [List.mem_map]
    refine ⟨m, ?_, rfl⟩
    rw [List.mem_filter]
    refine ⟨?_, ?_⟩
    · rcases hm with rfl | ⟨j, x, rfl, hx, hmx⟩
      · simp
      · exact List.mem_cons_of_mem _ (List.mem_map.2 ⟨j, mem_mains hx hmx, rfl⟩)
    · rw [Bool.and_eq_true]
      constructor
      · rw [List.all_eq_true]
        intro j hj
        obtain ⟨x, hx, hmx⟩ := mains_mem hj
        obtain ⟨g1, g2⟩ := hlo j x hx hmx
        unfold bef at g1 g2
        rw [Bool.and_eq_true]
        constructor
        · cases hb : ((befs [] ops.toList).getD i 0).testBit j with
          | false => rfl
          | true => simpa using g1 hb
        · cases hb : ((befs [] ops.toList).getD j 0).testBit i with
          | false => rfl
          | true => simpa using g2 hb
      · rw [List.any_eq_true]
        exact ⟨j, mem_effects hx he, by rw [Bool.and_eq_true]; exact ⟨decide_eq_true h1, decide_eq_true h2⟩⟩
  · refine .inr fun j x hx h1 h2 => ?_
    constructor
    · cases hm : isMain x.op with
      | false => rfl
      | true => exact absurd ⟨j, x, hx, .inl hm, h1, h2⟩ h
    · cases hm : isAlloc x.op with
      | false => rfl
      | true => exact absurd ⟨j, x, hx, .inr hm, h1, h2⟩ h

theorem reads_le {i m : Nat} (h : (i, m) ∈ readsOf ops) : m ≤ ops.size := by
  unfold readsOf at h
  rw [List.mem_flatMap] at h
  obtain ⟨⟨x, j⟩, _, h⟩ := h
  simp only at h
  split at h
  · rw [List.mem_map] at h
    obtain ⟨m', h, he⟩ := h
    injection he with h1 h2
    subst h1 h2
    rw [List.mem_filter] at h
    rcases List.mem_cons.1 h.1 with h | h
    · omega
    · rw [List.mem_map] at h
      obtain ⟨q, hq, rfl⟩ := h
      obtain ⟨x, hx, _⟩ := mains_mem hq
      exact (Array.getElem?_eq_some_iff.1 hx).1
  · cases h

/-- **Whatever order is drawn.** -/
theorem any_ok (X : Text P ops T val) (D : Draw ops)
    (hread : ∀ i m o, (i, m) ∈ readsOf ops → ops[i]? = some o → Region.wanted o (yieldedD ops (T i).1) = true → ∃ H2, opD P o (T i).1 (T m).2 = some (val i, H2))
    (ro : Option Nat) (k : Nat) {Q : Exit → Act → World → Prop} (hQ : ∀ ρ' a' w', Post P ρ0 (T 0).2 W0 ρ' (T ops.size).2 w' → All2 (V ρ') (T ops.size).1 a'.tmps.toList → a'.defers = ds → Q .normal a' w') :
    ∀ (fuel : Nat) (listed : Array Bool) (U : List Nat), listed.size = ops.size → (∀ i, i < ops.size → ¬ listed.getD i false = true → i ∈ U) → U.length ≤ fuel →
      ∀ (pl : Nat → Nat) (m : Nat) (ρ : Rho) (a : Act) (w : World), Inv P ops T val ρ0 W0 ds (fun j => listed.getD j false = true) pl m ρ a w → (m = 0 ∨ ∃ j o, m = j + 1 ∧ ops[j]? = some o ∧ isMain o.op = true) →
      wpAnyIn (fe ro) k P .any ops Q fuel listed a w := by
  have fin : ∀ {listed : Array Bool} {pl : Nat → Nat} {m : Nat} {ρ : Rho} {a : Act} {w : World}, (∀ i, i < ops.size → listed.getD i false = true) → Inv P ops T val ρ0 W0 ds (fun j => listed.getD j false = true) pl m ρ a w → Q .normal a w := by
    intro listed pl m ρ a w hall I
    obtain ⟨ρ', h1, h2, h3⟩ := I.done X D hall
    exact hQ ρ' a w h1 h2 h3
  intro fuel
  induction fuel with
  | zero =>
    intro listed U hsz hU hlen pl m ρ a w I hm
    have hall : ∀ i, i < ops.size → listed.getD i false = true := fun i hi => Classical.byContradiction fun hn => by
      have := hU i hi hn
      have h0 : U = [] := List.eq_nil_of_length_eq_zero (by omega)
      rw [h0] at this
      cases this
    exact ⟨ready_nil hsz hall, fin hall I⟩
  | succ fuel ih =>
    intro listed U hsz hU hlen pl m ρ a w I hm
    refine ⟨fun h => fin (all_of_ready_nil D hsz h) I, fun i hi => ?_⟩
    obtain ⟨o, ho, hn, hr⟩ := mem_ready hsz hi
    have hin : i < ops.size := (Array.getElem?_eq_some_iff.1 ho).1
    have hiU : i ∈ U := hU i hin hn
    -- on from here
    have on : ∀ (pl : Nat → Nat) (m : Nat) (ρ : Rho) (a : Act) (w : World), Inv P ops T val ρ0 W0 ds (fun j => listed.getD j false = true ∨ j = i) pl m ρ a w → (m = 0 ∨ ∃ j o, m = j + 1 ∧ ops[j]? = some o ∧ isMain o.op = true) →
        wpAnyIn (fe ro) k P .any ops Q fuel (listed.setIfInBounds i true) a w := by
      intro pl m ρ a w I hm
      refine ih (listed.setIfInBounds i true) (U.erase i) (by simp [hsz]) ?_ (by have h1 := List.length_erase_of_mem hiU; have h2 := List.length_pos_of_mem hiU; omega) pl m ρ a w (I.congr fun j => listed_set (by omega) j) hm
      intro j hj hnj
      have hnj' := mt (listed_set (by omega) j).2 hnj
      have hji : j ≠ i := fun h => hnj' (.inr h)
      exact (List.mem_erase_of_ne hji).2 (hU j hj fun h => hnj' (.inl h))
    unfold wpOpIn
    rw [ho]
    simp only
    cases hma : isMain o.op with
    | true =>
      have hmi : m ≤ i := Nat.le_of_not_lt fun h => hn ((I.mains i o ho hma).2 h)
      obtain ⟨ρ1, I1⟩ := Inv.upTo X D (i - m) m ρ I (by omega) fun j x h1 h2 hx => by
        have hji : j < i := by omega
        refine ⟨?_, fun hal => D.bef I.closed i o ho hr j (D.main hji hx ho (.inr hal) hma)⟩
        cases hmx : isMain x.op with
        | false => rfl
        | true => have := (I.mains j x hx hmx).1 (D.bef I.closed i o ho hr j (D.main hji hx ho (.inl hmx) hma)); omega
      rw [show m + (i - m) = i by omega] at I1
      have hna : isAlloc o.op = false := by cases h : o.op <;> first | rfl | (rw [h] at hma; cases hma)
      rw [I1.wanted X D ho hn hr fun _ => rfl]
      rcases (X.at ho).2 with ⟨hw, hst⟩ | ⟨hw, hv, hT⟩
      · rw [hw, if_pos rfl]
        refine hst.sound I1.post.rel (I1.operands X D ho hn hr fun _ => rfl) ro k fun ρ2 v2 w2 hp2 hv2 => ?_
        exact on _ _ _ _ _ (I1.next X D ho hn hr hna (.inl ⟨hma, rfl, rfl⟩) hp2 hv2) (.inr ⟨i, o, rfl, ho, hma⟩)
      · rw [hw, if_neg (by simp)]
        refine ⟨fun _ _ => trivial, ?_⟩
        refine on _ _ _ _ _ (I1.next X D ho hn hr hna (.inl ⟨hma, rfl, rfl⟩) (by rw [hT]; exact .refl I1.post.rel) (by rw [hv]; exact .undef)) (.inr ⟨i, o, rfl, ho, hma⟩)
    | false =>
      rw [I.wanted X D ho hn hr fun h => by rw [hma] at h; cases h]
      cases hal : isAlloc o.op with
      | true =>
        obtain ⟨t, ht⟩ := isAlloc_iff.1 hal
        have hw : Region.wanted o (yieldedD ops (T i).1) = true := by
          unfold Region.wanted
          rw [D.guard i o ho hal]
        rw [hw, if_pos rfl]
        obtain ⟨v', w', hrun, I'⟩ := I.early X D ho hn hr ht
        refine ⟨fun _ _ => trivial, ?_⟩
        have hdef : ∀ c, o.op ≠ .defer c := fun c hc => by rw [ht] at hc; cases hc
        rw [Oper.semAt_eq _ _ _ hdef, hrun]
        exact on _ _ _ _ _ I' hm
      | false =>
        have hops := I.operands X D ho hn hr fun h => by rw [hma] at h; cases h
        rcases (X.at ho).2 with ⟨hw, hst⟩ | ⟨hw, hv, hT⟩
        · rw [hw, if_pos rfl]
          have hop := hst.plain hma
          have hopm : opD P o (T i).1 (T m).2 = some (val i, (T m).2) := by
            cases hrd : isRead o.op with
            | false => exact (pure_any (T m).2 hma hal hrd hop).2
            | true =>
              have hlo : ∀ j x, ops[j]? = some x → isMain x.op = true → (bef ops i j = true → j < m) ∧ (bef ops j i = true → m ≤ j) := fun j x hx hmx =>
                ⟨fun hb => (I.mains j x hx hmx).1 (D.bef I.closed i o ho hr j hb), fun hb => Nat.le_of_not_lt fun hlt => by
                  have hSj := (I.mains j x hx hmx).2 hlt
                  exact hn (D.bef I.closed j x hx (fun e he hb' => I.closed j x hSj hx e he hb') i hb)⟩
              rcases reads_of ho hrd hm hlo with hmem | hno
              · obtain ⟨H2, hH2⟩ := hread i m o hmem ho hw
                rw [hH2, read_same hrd hma hH2]
              · have hTT : (T m).2 = (T i).2 := by
                  rcases Nat.le_total m i with h | h
                  · exact (X.stills i h (by omega) fun j x h1 h2 hx => hno j x hx (by omega) (by omega)).symm
                  · exact X.stills m h I.le fun j x h1 h2 hx => hno j x hx (by omega) (by omega)
                rw [hTT]
                have := read_same hrd hma hop
                rw [hop, this]
          refine (StepR.op hst.ok hopm).sound I.post.rel hops ro k fun ρ2 v2 w2 hp2 hv2 => ?_
          exact on _ _ _ _ _ (I.next X D ho hn hr hal (.inr ⟨hma, rfl⟩) hp2 hv2) hm
        · rw [hw, if_neg (by simp)]
          refine ⟨fun _ _ => trivial, ?_⟩
          exact on _ _ _ _ _ (I.next X D ho hn hr hal (.inr ⟨hma, rfl⟩) (.refl I.post.rel) (by rw [hv]; exact .undef)) hm

/-- **A region that draws its order.** -/
theorem draw_ok (hmix : P.follows .mixedOrders = true) {n : Nat} (hex : ∀ c l H e l' H', exD P n c l H = some (e, l', H') → Sim P c l H e l' H') {id : Nat} {ops : Array Oper} {l l' : List Value} {H H' : Heap} {e : Ex}
    (hd : exD P (n + 1) (.region id ops true) l H = some (e, l', H')) (ro : Option Nat) (k : Nat) {Q : Exit → Act → World → Prop}
    (ρ : Rho) (w : World) (a : Act) (hr : HRel P ρ H w) (hE : All2 (V ρ) l a.tmps.toList) (hQ : e = .normal → ∀ a' w', OpsOk P ρ H w a.defers l' H' a' w' → Q .normal a' w') : (Code.region id ops true).wpIn (fe ro) k P Q a w := by
  simp only [exD] at hd
  split at hd
  case h_2 => cases hd
  rename_i tab htab
  split at hd
  case h_2 => cases hd
  rename_i tr l1 H1 hops
  split at hd
  case isFalse => cases hd
  rename_i hall
  injection hd with hd
  injection hd with e1 hd
  injection hd with e2 e3
  subst e1 e2 e3
  unfold drawTab at htab
  split at htab
  case isFalse => cases htab
  rename_i hord
  obtain rfl := Option.some.inj htab
  have D := draw_of hord
  obtain ⟨T, val, hT0, hTn, htl, htr, hstep⟩ := opsT_spec hex _ _ _ _ _ _ hops
  rw [List.length_range] at hTn htl htr
  have X : Text P ops T val := ⟨fun k hk => hstep k k (by rw [List.getElem?_range hk])⟩
  have e0 : (T 0).1 = l := by rw [hT0]
  have e00 : (T 0).2 = H := by rw [hT0]
  refine wpIn_region_any hmix ?_
  have hdrew : Post P ρ H w ρ H { w with drawn := w.drawn + 1 } := Post.drew hr
  refine any_ok (ρ0 := ρ) (W0 := w) (ds := a.defers) X D ?_ ro k ?_ ops.size _ (List.range ops.size) (by simp) (fun i hi _ => List.mem_range.2 hi) (by simp) (fun _ => 0) 0 ρ a _ ?_ (.inl rfl)
  · intro i m o hm ho hw
    rw [List.all_eq_true] at hall
    have h := hall _ hm
    unfold readD at h
    have hi : i < ops.size := (Array.getElem?_eq_some_iff.1 ho).1
    simp only [ho, htr i hi, hw, Bool.not_true, Bool.false_or] at h
    have hle := reads_le hm
    have key : ∀ H3, H3 = (T m).2 → (match opD P o (T i).1 H3 with | some (v', _) => veq v' (val i) | none => false) = true → ∃ H2, opD P o (T i).1 (T m).2 = some (val i, H2) := by
      intro H3 he h
      subst he
      split at h
      · rename_i v' H2 hop
        exact ⟨H2, by rw [hop, veq_eq h]⟩
      · cases h
    by_cases h1 : m < ops.size
    · rw [htr m h1] at h
      exact key _ rfl h
    · have h2 : m = ops.size := by omega
      subst h2
      rw [List.getElem?_eq_none (by omega)] at h
      exact key _ (by rw [hTn]) h
  · intro ρ' a' w' h1 h2 h3
    rw [e00, hTn] at h1
    rw [hTn] at h2
    exact hQ rfl a' w' ⟨ρ', h1, h2, h3⟩
  · have hfalse : ∀ j, ¬ (Array.replicate ops.size false).getD j false = true := fun j => by
      rw [Array.getD_eq_getD_getElem?, Array.getElem?_replicate]
      split <;> simp
    refine ⟨Nat.zero_le _, by rw [e00]; exact hdrew, fun j _ hj => absurd hj (hfalse j), fun i o ho hm => ⟨fun h => absurd h (hfalse i), fun h => absurd h (Nat.not_lt_zero _)⟩, fun i o ho ha hi => absurd hi (Nat.not_lt_zero _), fun i o t ho ha hi hS => absurd hS (hfalse i),
      fun i j x y hx hy h1 h2 h3 h4 h5 => absurd h5 (hfalse i), by rw [e0]; simpa using hE.length.symm, fun t _ => by rw [e0]; exact get_ok hE t, fun i o t hS => absurd hS (hfalse i), rfl⟩
end
end Go.Ds
