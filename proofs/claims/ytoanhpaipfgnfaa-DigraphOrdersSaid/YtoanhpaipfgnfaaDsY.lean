/-
  Ds: what operations do to a heap that is a list of rows of our own.
-/
import Derived.Test.YtoanhpaipfgnfaaDsX
set_option linter.unusedVariables false
set_option linter.unusedSimpArgs false
namespace Go.Ds
noncomputable section
variable {P : Program} {H0 : Base} {H : Heap} {os : List Ob}

theorem setMany_length : ∀ (vs cs : List Value) (i : Nat), (setMany cs i vs).length = cs.length
  | [], _, _ => rfl
  | v :: vs, cs, i => by rw [setMany, setMany_length vs, setL_eq, List.length_set]

theorem setMany_append : ∀ (vs pre cs : List Value) (i : Nat), setMany (pre ++ cs) (pre.length + i) vs = pre ++ setMany cs i vs
  | [], _, _, _ => rfl
  | v :: vs, pre, cs, i => by
    rw [setMany, setMany, setL_eq, setL_eq, List.set_append_right _ _ (by omega), Nat.add_sub_cancel_left, Nat.add_assoc]
    exact setMany_append vs pre _ _

theorem setMany_cons (cs : List Value) (i : Nat) (v : Value) (vs : List Value) : setMany cs i (v :: vs) = setMany (cs.set i v) (i + 1) vs := by rw [setMany, setL_eq]
theorem setMany_nil (cs : List Value) (i : Nat) : setMany cs i [] = cs := rfl

theorem hset_old {A B : Nat} {b : Blk} (h : A ≠ B) : hget (hset H A b) B = hget H B := hget_hset_ne b h

theorem St.eNew (hS : St P H0 H os) {t : TypeId} {v : Value} (n : Nat) (cs : List Value) {K : Value → Heap → Prop} (hc : v.cells.toList = cs) (hn : cs.length = n) (h1 : cs.all oneCell = true) (hs : sizeP P t = some n)
    (h : ∀ A H1, St P H0 H1 (os ++ [⟨ptr A 0 n, 0, cs⟩]) → K (ptr A 0 n) H1) : newW P H t v K := by
  subst hn
  refine ⟨ptr H.length 0 cs.length, H.cons (.cells cs t true cs.length 0), ?_, h _ _ (hS.add ?_ ?_ ?_ ?_)⟩
  · simp only [newD, hc, h1, hs, BEq.rfl, Bool.and_self, if_true, rowD_eq]
  · unfold OwnAt
    rw [if_pos rfl]
    exact ⟨_, t, _, 0, hget_cons_new H _, Nat.le_refl _, rfl⟩
  · simp [cons_eq]
  · exact fun B hB => hget_cons_old _ hB
  · intro B hB
    simp [blk] at hB
    omega

theorem St.eStore (hS : St P H0 H os) (i : Nat) {A n : Nat} {cs : List Value} (ho : os[i]? = some ⟨ptr A 0 n, 0, cs⟩) {off : Nat} {t : TypeId} {v : Value} {K : Heap → Prop} (vs : List Value) (hc : v.cells.toList = vs) (h1 : vs.all oneCell = true)
    (hs : sizeP P t = some vs.length) (hoff : off + vs.length ≤ cs.length) (h : ∀ H1, St P H0 H1 (os.set i ⟨ptr A 0 n, 0, setMany cs off vs⟩) → K H1) : storeW P H t (ptr A off n) v K := by
  obtain ⟨rfl, ty, lo, ver, h2, h3⟩ := hS.cell i ho
  refine ⟨hset H A (.cells (setMany cs off vs) ty true cs.length (ver + 1)), ?_, h _ (hS.put i ho ?_ ?_ ?_ ?_)⟩
  · simp only [storeD, h2, hc]
    rw [if_pos ⟨hs, h1, by trivial, hoff, h3⟩]
  · unfold OwnAt
    rw [if_pos rfl]
    refine ⟨A, ty, _, _, hget_hset_same _ (hget_lt h2), ?_, ?_⟩
    · simp [setMany_length]
    · simp [setMany_length]
  · rw [length_hset]; exact Nat.le_refl _
  · intro B hB hne
    refine hset_old fun hh => hne ?_
    simp [blk, hh]
  · intro B hB
    exact .inl hB

theorem St.eStoreE (hS : St P H0 H os) (i : Nat) {s : Value} {size : Nat} {cs : List Value} (ho : os[i]? = some ⟨s, size + 1, cs⟩) {j f : Nat} {t : TypeId} {v : Value} {K : Heap → Prop} (vs : List Value) (hc : v.cells.toList = vs) (h1 : vs.all oneCell = true)
    (hs : sizeP P t = some vs.length) (h0 : 0 < vs.length) (hoff : j * (size + 1) + f + vs.length ≤ cs.length) (h : ∀ H1, St P H0 H1 (os.set i ⟨s, size + 1, setMany cs (j * (size + 1) + f) vs⟩) → K H1) : storeW P H t (elemPtr s (size + 1) j f) v K := by
  have hown := hS.own _ (List.mem_of_getElem? ho)
  unfold OwnAt at hown
  rw [if_neg (Nat.succ_ne_zero _)] at hown
  rcases hown with ⟨h2, h3⟩ | ⟨A, k, ty, lo, ver, pre, n, h2, h3, h4, h5, h6, h7⟩
  · simp only at h3; subst h3; simp only [List.length_nil] at hoff; omega
  · simp only at h2 h3 h5 h6
    refine ⟨hset H A (.cells (setMany (pre ++ cs) (k + j * (size + 1) + f) vs) ty true (pre ++ cs).length (ver + 1)), ?_, h _ (hS.put i ho ?_ ?_ ?_ ?_)⟩
    · simp only [storeD, elemPtr, h6, h2, hc]
      rw [if_pos ⟨hs, h1, by simp [h4], by omega, h3⟩]
    · unfold OwnAt
      rw [if_neg (Nat.succ_ne_zero _)]
      refine .inr ⟨A, k, ty, (pre ++ cs).length, ver + 1, pre, n, ?_, ?_, h4, ?_, ?_, h7⟩
      · rw [hget_hset_same _ (hget_lt h2), ← h4, Nat.add_assoc, setMany_append]
      · simp [setMany_length, h4]
      · simp only [setMany_length]; exact h5
      · simp only [setMany_length]; exact h6
    · rw [length_hset]; exact Nat.le_refl _
    · intro B hB hne
      refine hset_old fun hh => hne ?_
      simp [blk, h6, hh]
    · intro B hB
      exact .inl hB

/-- What appending asks of a type: the size of its items, and their bytes. -/
def appOk (P : Program) (t : TypeId) : Option (Nat × Nat) :=
  (sliceElem P t).bind fun elem => (sizeP P elem).bind fun size => (bytesP P elem).bind fun bytes => (zeroP P elem).bind fun z => if z.cells.size == size then some (size, bytes) else none

theorem RdAt.src {x : Value} {size : Nat} {ys : List Value} (h : RdAt H x (size + 1) ys) : ∃ n, ys.length = n * (size + 1) ∧ srcNew H (size + 1) x = some (n, ys) := by
  rcases h with ⟨rfl, rfl⟩ | ⟨A, i, e, row, ty, rw, lo, ver, n, h1, h2, h3, h4, h5, h6, rfl⟩
  · exact ⟨0, by simp, rfl⟩
  · refine ⟨n, h6, ?_⟩
    simp only [srcNew, cellsAt, h1]
    rw [← h6, if_pos (by simp; omega), h5]
    rfl

theorem St.eAppend (hS : St P H0 H os) (i : Nat) {s : Value} {size : Nat} {cs : List Value} (ho : os[i]? = some ⟨s, size + 1, cs⟩) {x : Value} {ys : List Value} (hx : RdAt H x (size + 1) ys) {t : TypeId} {bytes : Nat} {K : Value → Heap → Prop}
    (ha : appOk P t = some (size + 1, bytes)) (hroom : (cs.length + ys.length) * (bytes + 1) ≤ 17592186044416) (h : ∀ v H1, St P H0 H1 (os.set i ⟨v, size + 1, cs ++ ys⟩) → K v H1) : appendW P H t s x K := by
  unfold appOk at ha
  cases he : sliceElem P t with
  | none => rw [he] at ha; cases ha
  | some elem =>
  rw [he] at ha
  simp only [Option.bind_some] at ha
  cases hsz : sizeP P elem with
  | none => rw [hsz] at ha; cases ha
  | some sz =>
  rw [hsz] at ha
  simp only [Option.bind_some] at ha
  cases hby : bytesP P elem with
  | none => rw [hby] at ha; cases ha
  | some by' =>
  rw [hby] at ha
  simp only [Option.bind_some] at ha
  cases hz : zeroP P elem with
  | none => rw [hz] at ha; cases ha
  | some z =>
  rw [hz] at ha
  simp only [Option.bind_some] at ha
  split at ha
  case isFalse => cases ha
  rename_i hzs
  simp only [Option.some.injEq, Prod.mk.injEq] at ha
  obtain ⟨rfl, rfl⟩ := ha
  obtain ⟨n, hn, hsrc⟩ := hx.src
  have hn' : n ≤ ys.length := by rw [hn]; exact Nat.le_mul_of_pos_right n (Nat.succ_pos size)
  have hown := hS.own _ (List.mem_of_getElem? ho)
  unfold OwnAt at hown
  rw [if_neg (Nat.succ_ne_zero _)] at hown
  rcases hown with ⟨h2, h3⟩ | ⟨A, k, ty, lo, ver, pre, m, h2, h3, h4, h5, h6, h7⟩
  · simp only at h2 h3
    subst h2 h3
    by_cases h0 : n = 0
    · subst h0
      have hys : ys = [] := List.eq_nil_of_length_eq_zero (by omega)
      subst hys
      refine ⟨.slice none 0 0, H, ?_, h _ _ ?_⟩
      · simp only [appendD, he, hsz, hby, hz, Option.bind_some, hsrc]
        simp [hzs, roomD]
      · obtain ⟨hi, hoi⟩ := List.getElem?_eq_some_iff.1 ho
        have e : os.set i ⟨.slice none 0 0, size + 1, [] ++ []⟩ = os := by
          rw [List.append_nil, ← hoi, List.set_getElem_self]
        rw [e]
        exact hS
    · refine ⟨_, H.cons (.cells ys elem true ys.length 0), ?_, h (.slice (some ⟨H.length, 0, some ys.length⟩) n (size + 1)) _ (hS.put i ho ?_ ?_ ?_ ?_)⟩
      · simp only [appendD, he, hsz, hby, hz, Option.bind_some, hsrc]
        have hr : n * (by' + 1) ≤ roomD := by
          refine Nat.le_trans (Nat.mul_le_mul_right _ ?_) hroom
          omega
        simp [hzs, hr, h0, rowD_eq]
      · unfold OwnAt
        rw [if_neg (Nat.succ_ne_zero _)]
        exact .inr ⟨_, 0, elem, _, 0, [], n, hget_cons_new H _, by simp, rfl, by simpa using hn, by simp, hsz⟩
      · simp [cons_eq]
      · exact fun B hB _ => hget_cons_old _ hB
      · intro B hB
        simp [blk] at hB
        omega
  · simp only at h2 h3 h5 h6
    refine ⟨_, hset H A (.cells (pre ++ cs ++ ys) ty true lo ver), ?_, h (.slice (some ⟨A, k, some (k + cs.length + ys.length)⟩) (m + n) (size + 1)) _ (hS.put i ho ?_ ?_ ?_ ?_)⟩
    · have hr : (m + n) * (by' + 1) ≤ roomD := by
        refine Nat.le_trans (Nat.mul_le_mul_right _ ?_) hroom
        have : m ≤ cs.length := by rw [h5]; exact Nat.le_mul_of_pos_right m (Nat.succ_pos size)
        omega
      simp only [appendD, he, hsz, hby, hz, Option.bind_some, hsrc, h6, h2]
      rw [if_pos]
      · simp [appL_eq]
      · have h3' : lo ≤ k + m * (size + 1) := by rw [← h5]; exact h3
        simp [hr, hzs, h7, h4, h3', h5]
    · unfold OwnAt
      rw [if_neg (Nat.succ_ne_zero _)]
      refine .inr ⟨A, k, ty, lo, ver, pre, m + n, ?_, ?_, h4, ?_, ?_, h7⟩
      · rw [hget_hset_same _ (hget_lt h2), List.append_assoc]
      · simp; omega
      · simp [Nat.add_mul, h5, hn]
      · simp [Nat.add_assoc]
    · rw [length_hset]; exact Nat.le_refl _
    · intro B hB hne
      refine hset_old fun hh => hne ?_
      simp [blk, h6, hh]
    · intro B hB
      simp [blk] at hB
      left
      simp [blk, h6, hB]


/-! A slice out of its items. -/
theorem foldl_set (off : Nat) : ∀ (vs : List Value) (k : Nat) (a : Array Value), ((vs.zipIdx k).foldl (fun cs (x : Value × Nat) => cs.setIfInBounds (off + x.2) x.1) a).toList = setMany a.toList (off + k) vs
  | [], _, _ => rfl
  | v :: vs, k, a => by
    rw [List.zipIdx_cons, List.foldl_cons, foldl_set off vs (k + 1), setMany_cons]
    simp [Nat.add_assoc]

theorem setMany_over : ∀ (vs pre rest : List Value), vs.length ≤ rest.length → setMany (pre ++ rest) pre.length vs = pre ++ vs ++ rest.drop vs.length
  | [], pre, rest, _ => by simp [setMany]
  | v :: vs, pre, [], h => by simp at h
  | v :: vs, pre, r :: rest, h => by
    rw [setMany_cons, List.set_append_right _ _ (Nat.le_refl _), Nat.sub_self, List.set_cons_zero]
    have := setMany_over vs (pre ++ [v]) rest (by simpa using h)
    simp only [List.append_assoc, List.cons_append, List.nil_append, List.length_append, List.length_cons, List.length_nil, Nat.zero_add] at this
    simpa using this

theorem fill_over (size : Nat) : ∀ (ps : List (Nat × Value)) (k : Nat) (pre rest : List Value), pre.length = k * size → rest.length = ps.length * size → ps.map (·.1) = List.range' k ps.length → (∀ p ∈ ps, p.2.cells.size = size) →
    Instr.fill (fun i => some (i * size, size)) (pre ++ rest).toArray ps = some (pre ++ ps.flatMap fun p => p.2.cells.toList).toArray
  | [], k, pre, rest, _, h2, _, _ => by
    have : rest = [] := List.eq_nil_of_length_eq_zero (by simpa using h2)
    subst this
    simp [Instr.fill]
  | (i, v) :: ps, k, pre, rest, h1, h2, h3, h4 => by
    simp only [List.map_cons, List.length_cons, List.range'_succ, List.cons.injEq] at h3
    obtain ⟨rfl, h3⟩ := h3
    have hv : v.cells.size = size := h4 (i, v) (List.mem_cons_self ..)
    have hrl : v.cells.toList.length ≤ rest.length := by
      rw [h2]; simp [hv, Nat.add_mul]
    simp only [Instr.fill]
    rw [if_neg (by
      simp only [hv, ne_eq, not_true_eq_false, decide_false, Bool.false_or, List.size_toArray, List.length_append, h1, h2, List.length_cons, Nat.add_mul]
      simp)]
    have e : (v.cells.zipIdx.foldl (fun cs x => cs.setIfInBounds (i * size + x.2) x.1) (pre ++ rest).toArray) = (pre ++ v.cells.toList ++ rest.drop v.cells.toList.length).toArray := by
      apply Array.toList_inj.1
      rw [← Array.foldl_toList, Array.toList_zipIdx, foldl_set, Nat.add_zero, ← h1, setMany_over _ _ _ hrl]
    have e' : (v.cells.zipIdx.foldl (fun cs (c, j) => cs.setIfInBounds (i * size + j) c) (pre ++ rest).toArray) = (pre ++ v.cells.toList ++ rest.drop v.cells.toList.length).toArray := e
    rw [e', fill_over size ps (i + 1) (pre ++ v.cells.toList) _ (by simp [h1, hv, Nat.add_mul]) (by simp [h2, hv, Nat.add_mul]) h3 (fun p hp => h4 p (List.mem_cons_of_mem _ hp))]
    simp

theorem St.eSlice (hS : St P H0 H os) {t : TypeId} {len : Nat} {ps : List (Nat × Value)} {size bytes : Nat} (cs : List Value) {K : Value → Heap → Prop} (ha : appOk P t = some (size + 1, bytes)) (hz : ((sliceElem P t).bind (zeroP P)).any flat1 = true)
    (hp : ps.map (·.1) = List.range' 0 ps.length) (hl : len = ps.length) (hsz : ∀ p ∈ ps, p.2.cells.size = size + 1) (hcs : ps.flatMap (fun p => p.2.cells.toList) = cs) (h1 : cs.all oneCell = true) (h0 : len * (size + 1) ≤ 16777216) (hne : len ≠ 0)
    (h : ∀ v H1, St P H0 H1 (os ++ [⟨v, size + 1, cs⟩]) → K v H1) : sliceOfW P H t len ps K := by
  subst hl
  unfold appOk at ha
  cases he : sliceElem P t with
  | none => rw [he] at ha; cases ha
  | some elem =>
  rw [he] at ha hz
  simp only [Option.bind_some] at ha hz
  cases hsz2 : sizeP P elem with
  | none => rw [hsz2] at ha; cases ha
  | some sz =>
  rw [hsz2] at ha
  simp only [Option.bind_some] at ha
  cases hby : bytesP P elem with
  | none => rw [hby] at ha; cases ha
  | some by' =>
  rw [hby] at ha
  simp only [Option.bind_some] at ha
  cases hz2 : zeroP P elem with
  | none => rw [hz2] at ha; cases ha
  | some z =>
  rw [hz2] at ha hz
  simp only [Option.bind_some, Option.any_some] at ha hz
  split at ha
  case isFalse => cases ha
  rename_i hzs
  simp only [Option.some.injEq, Prod.mk.injEq] at ha
  obtain ⟨rfl, rfl⟩ := ha
  have hlen : cs.length = ps.length * (size + 1) := by
    rw [← hcs, List.length_flatMap]
    have : ps.map (fun p => p.2.cells.toList.length) = ps.map (fun _ => size + 1) := List.map_congr_left fun p hp => by simpa using hsz p hp
    rw [this, List.map_const']
    simp
  have hall : ps.all (fun x => x.2.cells.toList.all oneCell) = true := by
    rw [← hcs] at h1
    rw [List.all_flatMap] at h1
    exact h1
  refine ⟨.slice (some ⟨H.length, 0, some cs.length⟩) ps.length (size + 1), H.cons (.cells cs elem true cs.length 0), ?_, h _ _ (hS.add ?_ ?_ ?_ ?_)⟩
  · unfold sliceOfD
    simp only [he, hsz2, hz2, Option.bind_some]
    rw [if_pos (by
      simp only [hz, hall, hzs, Bool.and_true, Bool.true_and, Bool.and_eq_true, decide_eq_true_eq, bne_iff_ne, ne_eq]
      exact ⟨h0, Nat.mul_ne_zero hne (Nat.succ_ne_zero _)⟩)]
    have hf := fill_over (size + 1) ps 0 [] ((Array.range (ps.length * (size + 1))).map (z.cells[· % z.cells.size]!)).toList (by simp) (by simp) hp hsz
    simp only [List.nil_append, Array.toArray_toList] at hf
    rw [hf, hcs]
    simp [rowD_eq]
  · unfold OwnAt
    rw [if_neg (Nat.succ_ne_zero _)]
    exact .inr ⟨_, 0, elem, _, 0, [], ps.length, hget_cons_new H _, by simp, rfl, hlen, by simp, hsz2⟩
  · simp [cons_eq]
  · exact fun B hB => hget_cons_old _ hB
  · intro B hB
    simp [blk] at hB
    omega

/-- What making a slice asks of a type whose items are of one cell. -/
def mkOk (P : Program) (t : TypeId) : Option (Nat × Value) :=
  (sliceElem P t).bind fun elem => (sizeP P elem).bind fun size => (bytesP P elem).bind fun bytes => (zeroP P elem).bind fun z => if size == 1 && z.cells.size == 1 && flat1 z then some (bytes, z.cells[0]!) else none

theorem St.eMake1 (hS : St P H0 H os) {t : TypeId} {bytes : Nat} {z : Value} {K : Value → Heap → Prop} (a : Nat) (ha : mkOk P t = some (bytes, z)) (hroom : a * (bytes + 1) ≤ 17592186044416)
    (h : ∀ v H1, St P H0 H1 (os ++ [⟨v, 1, List.replicate a z⟩]) → K v H1) : makeSliceW P H t (.int .i64 a) (.int .i64 a) K := by
  unfold mkOk at ha
  cases he : sliceElem P t with
  | none => rw [he] at ha; cases ha
  | some elem =>
  rw [he] at ha
  simp only [Option.bind_some] at ha
  cases hsz2 : sizeP P elem with
  | none => rw [hsz2] at ha; cases ha
  | some sz =>
  rw [hsz2] at ha
  simp only [Option.bind_some] at ha
  cases hby : bytesP P elem with
  | none => rw [hby] at ha; cases ha
  | some by' =>
  rw [hby] at ha
  simp only [Option.bind_some] at ha
  cases hz2 : zeroP P elem with
  | none => rw [hz2] at ha; cases ha
  | some z' =>
  rw [hz2] at ha
  simp only [Option.bind_some] at ha
  split at ha
  case isFalse => cases ha
  rename_i hzs
  simp only [Bool.and_eq_true, beq_iff_eq] at hzs
  obtain ⟨⟨rfl, hz1⟩, hfl⟩ := hzs
  simp only [Option.some.injEq, Prod.mk.injEq] at ha
  obtain ⟨rfl, rfl⟩ := ha
  refine ⟨.slice (some ⟨H.length, 0, some a⟩) a 1, H.cons (.cells (List.replicate a z'.cells[0]!) elem true a 0), ?_, h _ _ (hS.add ?_ ?_ ?_ ?_)⟩
  · unfold makeSliceD
    simp only [he, hsz2, hby, hz2, Option.bind_some]
    rw [if_pos]
    · simp [rowD_eq]
    · have : (a : Int) * (by' + 1) ≤ (roomD : Int) := by
        have h3 : ((a * (by' + 1) : Nat) : Int) ≤ ((17592186044416 : Nat) : Int) := Int.ofNat_le.2 hroom
        simpa [roomD] using h3
      simp [hfl, hz1, this]
  · unfold OwnAt
    rw [if_neg (by simp)]
    exact .inr ⟨_, 0, elem, _, 0, [], a, hget_cons_new H _, by simp, rfl, by simp, by simp, hsz2⟩
  · simp [cons_eq]
  · exact fun B hB => hget_cons_old _ hB
  · intro B hB
    simp [blk] at hB
    omega

/-! ### Calls -/
/-- A function may be called, and its call gives what R tells. -/
def Fn (P : Program) (k : FuncId) (args : List Value) (H : Heap) (R : Value → Heap → Prop) : Prop := Entered P k ∧ ∃ v H1, CallOk P k args H v H1 ∧ R v H1

theorem callFW_of {k : FuncId} {args : List Value} {R K : Value → Heap → Prop} (h : Fn P k args H R) (hk : ∀ v H1, R v H1 → K v H1) : callFW P k args H K := by
  obtain ⟨h1, v, H1, h2, h3⟩ := h
  exact ⟨v, H1, h1, h2, hk v H1 h3⟩

/-- What a body owes at its end. -/
def endQ (P : Program) (fn : Func) (R : Value → Heap → Prop) : Out := fun e l H => (e = .normal ∨ e = .ret) ∧ bindV (resultsD P fn l H) fun v => R v H

theorem endQ_normal (fn : Func) (R : Value → Heap → Prop) (l : List Value) : endQ P fn R .normal l H = bindV (resultsD P fn l H) fun v => R v H := by simp [endQ]
theorem endQ_ret (fn : Func) (R : Value → Heap → Prop) (l : List Value) : endQ P fn R .ret l H = bindV (resultsD P fn l H) fun v => R v H := by simp [endQ]

theorem Fn.of_wp {k : FuncId} {fn : Func} {c : Code} {args : List Value} {R : Value → Heap → Prop} (hf : P.funcs[k]? = some fn) (hb : fn.body = some c) (hn : (fn.name == "runtime.NumGoroutine") = false)
    (h : ∀ l, l = args ++ List.replicate (fn.ntmps - args.length) undef → Wp P c l H (endQ P fn R)) : Fn P k args H R := by
  refine ⟨⟨fn, hf, by simp [hb], hn⟩, ?_⟩
  refine CallOk.of_wp hf hb hn ((h _ rfl).mono ?_)
  rintro e l H1 ⟨h1, h2⟩
  refine ⟨h1, ?_⟩
  unfold bindV at h2
  split at h2
  · rename_i v hv; exact ⟨v, hv, h2⟩
  · exact h2.elim

theorem Fn.mono {k : FuncId} {args : List Value} {R R' : Value → Heap → Prop} (h : Fn P k args H R) (hr : ∀ v H1, R v H1 → R' v H1) : Fn P k args H R' := by
  obtain ⟨h1, v, H1, h2, h3⟩ := h
  exact ⟨h1, v, H1, h2, hr _ _ h3⟩

theorem RdAt.cells {v : Value} {size : Nat} {cs : List Value} (h : RdAt H v size cs) : v.cells = #[v] ∧ oneCell v = true ∧ isC0 v = true := by
  rcases h with ⟨rfl, _⟩ | ⟨A, i, e, row, ty, rw, lo, ver, n, h1, h2, h3, h4, h5, h6, rfl⟩ <;> exact ⟨rfl, rfl, rfl⟩


theorem callW_mono {f : Value} {args : List Value} {K K' : Value → Heap → Prop} (h : callW P f args H K) (hk : ∀ v H1, K v H1 → K' v H1) : callW P f args H K' := by
  unfold callW at h ⊢
  split at h
  · obtain ⟨v, H1, h1, h2, h3⟩ := h
    exact ⟨v, H1, h1, h2, hk _ _ h3⟩
  · obtain ⟨v, H1, h1, h2⟩ := h
    exact ⟨v, H1, h1, hk _ _ h2⟩
  · exact h.elim

theorem callW_fn {k : FuncId} {a b : Array Value} {args : List Value} {K : Value → Heap → Prop} (h : Fn P k (a.toList ++ args ++ b.toList) H K) : callW P (.func (.func k) a b) args H K := by
  obtain ⟨h1, v, H1, h2, h3⟩ := h
  exact ⟨v, H1, h1, h2, h3⟩


/-! ### Slices of slices -/
def sliceS (z : Option Nat) (x : Value) (lo hi : Option Value) : Option Value :=
  z.bind fun size => match x with
  | .slice (some ⟨A, i, some e⟩) n c =>
    (match hi with | some h => natOf h | none => some n).bind fun h =>
    (match lo with | some l => natOf l | none => some 0).bind fun l =>
    if l ≤ h && h ≤ n && c == size then some (.slice (some ⟨A, i + l * size, some e⟩) (h - l) size) else none
  | _ => none

theorem sliceD_eq (t : TypeId) (x : Value) (lo hi : Option Value) : sliceD P t x lo hi = sliceS (sliceSz P t) x lo hi := by
  unfold sliceD sliceS sliceSz
  cases sliceElem P t with
  | none => rfl
  | some e => rfl

def sliceW (P : Program) (o : Oper) (l : List Value) (H : Heap) (z : Option Nat) (v : Value) (lo hi : Option Value) (K : Value → Heap → Prop) (_k : Keep K := ⟨⟩) : Prop := if flat v then bindW (opD P o l H) K else bindV (sliceS z v lo hi) fun v => K v H

theorem opW_slice (d ty pos af g) (t : TypeId) (x : Operand) (lo hi : Option Operand) (l : List Value) (K : Value → Heap → Prop) (hok : ∀ a, lo = some a ∨ hi = some a → operandOk a = true) (hx : operandOk x = true)
    (h : sliceW P ⟨d, .slice t x lo hi none, ty, pos, af, g⟩ l H (sliceSz P t) (ev l x) (lo.map (ev l)) (hi.map (ev l)) K) : opW P ⟨d, .slice t x lo hi none, ty, pos, af, g⟩ l H K := by
  refine ⟨?_, ?_⟩
  · simp only [Op.operands]
    cases lo <;> cases hi <;> simp_all
  · show bindW _ K
    unfold sliceW at h
    split at h
    · exact h
    · rename_i hf
      have e : opD P ⟨d, .slice t x lo hi none, ty, pos, af, g⟩ l H = (sliceS (sliceSz P t) (ev l x) (lo.map (ev l)) (hi.map (ev l))).map fun v => (v, H) := by
        simp only [opD]
        rw [if_neg hf, sliceD_eq]
      rw [e]
      cases hs : sliceS (sliceSz P t) (ev l x) (lo.map (ev l)) (hi.map (ev l)) with
      | none => rw [hs] at h; exact h.elim
      | some v => rw [hs] at h; exact h

theorem opW_slice_eq (d ty pos af g) (t : TypeId) (x : Operand) (lo hi : Option Operand) (l : List Value) (K : Value → Heap → Prop) :
    opW P ⟨d, .slice t x lo hi none, ty, pos, af, g⟩ l H K = (((#[x] ++ lo.toArray ++ hi.toArray).toList.all operandOk = true) ∧ sliceW P ⟨d, .slice t x lo hi none, ty, pos, af, g⟩ l H (sliceSz P t) (ev l x) (lo.map (ev l)) (hi.map (ev l)) K) := by
  apply propext
  constructor
  · intro h
    obtain ⟨h1, h2⟩ := h
    refine ⟨?_, ?_⟩
    · cases lo <;> cases hi <;> simpa [Op.operands] using h1
    · unfold sliceW
      split
      · exact h2
      · rename_i hf
        have e : opD P ⟨d, .slice t x lo hi none, ty, pos, af, g⟩ l H = (sliceS (sliceSz P t) (ev l x) (lo.map (ev l)) (hi.map (ev l))).map fun v => (v, H) := by
          simp only [opD]
          rw [if_neg hf, sliceD_eq]
        replace h2 : bindW (opD P ⟨d, .slice t x lo hi none, ty, pos, af, g⟩ l H) K := h2
        rw [e] at h2
        cases hs : sliceS (sliceSz P t) (ev l x) (lo.map (ev l)) (hi.map (ev l)) with
        | none => rw [hs] at h2; exact h2.elim
        | some v => rw [hs] at h2; exact h2
  · rintro ⟨h1, h2⟩
    refine opW_slice d ty pos af g t x lo hi l K ?_ ?_ h2
    · intro a ha
      cases lo <;> cases hi <;> simp_all
      rcases ha with rfl | rfl <;> simp_all
    · cases lo <;> cases hi <;> simp_all

theorem opW_sliceL (d ty pos af g) (t : TypeId) (x a : Operand) (l : List Value) (K : Value → Heap → Prop) :
    opW P ⟨d, .slice t x (some a) none none, ty, pos, af, g⟩ l H K = opdW x l fun v => opdW a l fun a' => sliceW P ⟨d, .slice t x (some a) none none, ty, pos, af, g⟩ l H (sliceSz P t) v (some a') none K := by
  rw [opW_slice_eq]; simp [opdW, and_assoc]
theorem opW_sliceH (d ty pos af g) (t : TypeId) (x a : Operand) (l : List Value) (K : Value → Heap → Prop) :
    opW P ⟨d, .slice t x none (some a) none, ty, pos, af, g⟩ l H K = opdW x l fun v => opdW a l fun a' => sliceW P ⟨d, .slice t x none (some a) none, ty, pos, af, g⟩ l H (sliceSz P t) v none (some a') K := by
  rw [opW_slice_eq]; simp [opdW, and_assoc]
theorem opW_sliceB (d ty pos af g) (t : TypeId) (x a b : Operand) (l : List Value) (K : Value → Heap → Prop) :
    opW P ⟨d, .slice t x (some a) (some b) none, ty, pos, af, g⟩ l H K = opdW x l fun v => opdW a l fun a' => opdW b l fun b' => sliceW P ⟨d, .slice t x (some a) (some b) none, ty, pos, af, g⟩ l H (sliceSz P t) v (some a') (some b') K := by
  rw [opW_slice_eq]; simp [opdW, and_assoc]

/-- The part of a slice from an item on, of some items. -/
def subS (v : Value) (size lo k : Nat) : Value := match v with
  | .slice (some ⟨A, i, s⟩) _ _ => .slice (some ⟨A, i + lo * size, s⟩) k size
  | v => v

theorem RdAt.sub {v : Value} {size : Nat} {cs : List Value} (h : RdAt H v size cs) (lo k : Nat) (hk : lo * size + k * size ≤ cs.length) (h0 : cs ≠ []) : RdAt H (subS v size lo k) size ((cs.drop (lo * size)).take (k * size)) := by
  rcases h with ⟨rfl, rfl⟩ | ⟨A, i, e, row, ty, rw, lo', ver, n, h1, h2, h3, h4, h5, h6, rfl⟩
  · exact (h0 rfl).elim
  · refine .inr ⟨A, i + lo * size, e, row, ty, rw, lo', ver, k, h1, h2, h3, ?_, ?_, ?_, rfl⟩
    · simp; omega
    · have hl : (List.take (k * size) (List.drop (lo * size) cs)).length = k * size := by simp; omega
      rw [hl]
      conv => rhs; rw [← h5]
      rw [List.drop_take, List.take_take, List.drop_drop, Nat.min_eq_left (by omega)]
    · simp; omega

theorem RdAt.notFlat {v : Value} {size : Nat} {cs : List Value} (h : RdAt H v size cs) (h0 : cs ≠ []) : flat v = false := by
  rcases h with ⟨rfl, rfl⟩ | ⟨A, i, e, row, ty, rw, lo', ver, n, h1, h2, h3, h4, h5, h6, rfl⟩
  · exact (h0 rfl).elim
  · rfl

theorem RdAt.sliceL {v : Value} {size : Nat} {cs : List Value} (h : RdAt H v (size + 1) cs) {n : Nat} (hn : cs.length = n * (size + 1)) (o : Oper) (l : List Value) (H' : Heap) (k : IntKind) (a : Int) (K : Value → Heap → Prop) (h0 : 0 < n) (h1 : 0 ≤ a) (h2 : a ≤ n) :
    sliceW P o l H' (some (size + 1)) v (some (.int k a)) none K = letV (subS v (size + 1) a.toNat (n - a.toNat)) fun v => K v H' := by
  have hne : cs ≠ [] := fun e => by
    subst e
    have hp := Nat.mul_pos h0 (Nat.succ_pos size)
    have hq : 0 = n * (size + 1) := hn
    exact absurd (hq ▸ hp : 0 < 0) (Nat.lt_irrefl _)
  unfold sliceW
  rw [h.notFlat hne]
  rcases h with ⟨rfl, rfl⟩ | ⟨A, i, e, row, ty, rw, lo', ver, m, h3, h4, h5, h6, h7, h8, rfl⟩
  · exact (hne rfl).elim
  · have : m = n := Nat.eq_of_mul_eq_mul_right (Nat.succ_pos size) (h8.symm.trans hn)
    subst this
    have h9 : a.toNat ≤ m := by omega
    simp [sliceS, natOf, h1, h2, h9, subS, bindV, letV]

theorem RdAt.sliceH {v : Value} {size : Nat} {cs : List Value} (h : RdAt H v (size + 1) cs) {n : Nat} (hn : cs.length = n * (size + 1)) (o : Oper) (l : List Value) (H' : Heap) (k : IntKind) (a : Int) (K : Value → Heap → Prop) (h0 : 0 < n) (h1 : 0 ≤ a) (h2 : a ≤ n) :
    sliceW P o l H' (some (size + 1)) v none (some (.int k a)) K = letV (subS v (size + 1) 0 a.toNat) fun v => K v H' := by
  have hne : cs ≠ [] := fun e => by
    subst e
    have hp := Nat.mul_pos h0 (Nat.succ_pos size)
    have hq : 0 = n * (size + 1) := hn
    exact absurd (hq ▸ hp : 0 < 0) (Nat.lt_irrefl _)
  unfold sliceW
  rw [h.notFlat hne]
  rcases h with ⟨rfl, rfl⟩ | ⟨A, i, e, row, ty, rw, lo', ver, m, h3, h4, h5, h6, h7, h8, rfl⟩
  · exact (hne rfl).elim
  · have : m = n := Nat.eq_of_mul_eq_mul_right (Nat.succ_pos size) (h8.symm.trans hn)
    subst this
    have h9 : a.toNat ≤ m := by omega
    simp [sliceS, natOf, h1, h2, h9, subS, bindV, letV]

/-- What is ours is cut at its front. -/
theorem St.suffix (hS : St P H0 H os) (i : Nat) {v : Value} {size : Nat} {cs : List Value} (ho : os[i]? = some ⟨v, size + 1, cs⟩) {n : Nat} (hn : cs.length = n * (size + 1)) (a : Nat) (h0 : 0 < n) (ha : a ≤ n) :
    St P H0 H (os.set i ⟨subS v (size + 1) a (n - a), size + 1, cs.drop (a * (size + 1))⟩) := by
  have hne : cs ≠ [] := fun e => by
    subst e
    have hp := Nat.mul_pos h0 (Nat.succ_pos size)
    have hq : 0 = n * (size + 1) := hn
    exact absurd (hq ▸ hp : 0 < 0) (Nat.lt_irrefl _)
  have hown := hS.own _ (List.mem_of_getElem? ho)
  unfold OwnAt at hown
  rw [if_neg (Nat.succ_ne_zero _)] at hown
  rcases hown with ⟨h2, h3⟩ | ⟨A, k, ty, lo, ver, pre, m, h2, h3, h4, h5, h6, h7⟩
  · exact (hne h3).elim
  · simp only at h2 h3 h5 h6
    have : m = n := Nat.eq_of_mul_eq_mul_right (Nat.succ_pos size) (h5.symm.trans hn)
    subst this
    have hle : a * (size + 1) ≤ cs.length := by rw [hn]; exact Nat.mul_le_mul_right _ ha
    refine hS.put i ho ?_ (Nat.le_refl _) (fun _ _ _ => rfl) ?_
    · unfold OwnAt
      rw [if_neg (Nat.succ_ne_zero _)]
      refine .inr ⟨A, k + a * (size + 1), ty, lo, ver, pre ++ cs.take (a * (size + 1)), m - a, ?_, ?_, ?_, ?_, ?_, h7⟩
      · rw [h2, List.append_assoc, List.take_append_drop]
      · simp; omega
      · simp [h4]; omega
      · simp [Nat.sub_mul, hn]
      · rw [h6]
        simp only [subS, List.length_drop, Value.slice.injEq, Option.some.injEq, Addr.mk.injEq, true_and, and_true]
        omega
    · intro B hB
      left
      rw [h6] at hB ⊢
      exact hB

/-- Copying into a part of what is ours, whose items are of one cell. -/
theorem St.eCopy1 (hS : St P H0 H os) (i : Nat) {v : Value} {cs : List Value} (ho : os[i]? = some ⟨v, 1, cs⟩) {x : Value} {ys : List Value} (hx : RdAt H x 1 ys) (lo k : Nat) (hk : lo + k ≤ cs.length) (h0 : 0 < k) (hy : 0 < ys.length) {t : TypeId} (ht : sliceSz P t = some 1) {K : Value → Heap → Prop}
    (h : ∀ H1, St P H0 H1 (os.set i ⟨v, 1, setMany cs lo (ys.take (min ys.length k))⟩) → K (.int .i64 ((min ys.length k : Nat) : Int)) H1) : copyW P H t (subS v 1 lo k) x K := by
  have hown := hS.own _ (List.mem_of_getElem? ho)
  unfold OwnAt at hown
  rw [if_neg (by simp)] at hown
  rcases hown with ⟨h2, h3⟩ | ⟨A, j, ty, lo', ver, pre, m, h2, h3, h4, h5, h6, h7⟩
  · simp only at h3; subst h3; simp only [List.length_nil] at hk; omega
  simp only at h2 h3 h5 h6
  subst h6
  rcases hx with ⟨rfl, rfl⟩ | ⟨B, i2, e2, row, ty2, rw2, lo2, ver2, n2, g1, g2, g3, g4, g5, g6, rfl⟩
  · simp at hy
  have hn2 : n2 = ys.length := by omega
  subst hn2
  unfold sliceSz at ht
  cases he : sliceElem P t with
  | none => rw [he] at ht; cases ht
  | some elem =>
  rw [he] at ht
  simp only [Option.bind_some] at ht
  have hq1 : min ys.length k ≤ ys.length := Nat.min_le_left _ _
  have hq2 : min ys.length k ≤ k := Nat.min_le_right _ _
  have hq3 : 0 < min ys.length k := by omega
  have hq4 : Nat.min ys.length k = min ys.length k := rfl
  revert h
  generalize min ys.length k = q at hq1 hq2 hq3 hq4 ⊢
  intro h
  refine ⟨.int .i64 ((q : Nat) : Int), hset H A (.cells (setMany (pre ++ cs) (j + lo) (ys.take q)) ty true (pre ++ cs).length (ver + 1)), ?_, h _ (hS.put i ho ?_ ?_ ?_ ?_)⟩
  · have hs : srcD H 1 q (.slice (some ⟨B, i2, some e2⟩) ys.length 1) = some (ys.take q) := by
      have hc : i2 + q * 1 ≤ e2 := by omega
      simp only [srcD, cellsAt, g1]
      rw [if_pos hq1, if_pos (by simp [g2, g3]; omega)]
      have e : ys.take q = ((row.drop i2).take ys.length).take q := by rw [g5]
      rw [e, List.take_take, Nat.min_eq_left hq1, Nat.mul_one]
    have hl : (ys.take q).length = q := by simp; omega
    simp only [copyD, subS, he, ht, Option.bind_some, lenNat, hq4, hs, h2]
    rw [if_neg (by simp only [beq_iff_eq]; omega)]
    rw [if_pos (by
      rw [hl]
      simp [h4, h3]; omega)]
    simp [goInt]
  · unfold OwnAt
    rw [if_neg (by simp)]
    refine .inr ⟨A, j, ty, (pre ++ cs).length, ver + 1, pre, m, ?_, ?_, h4, ?_, ?_, h7⟩
    · rw [hget_hset_same _ (hget_lt h2), ← h4, setMany_append]
    · simp [setMany_length, h4]
    · simp only [setMany_length]; exact h5
    · simp only [setMany_length]
  · rw [length_hset]; exact Nat.le_refl _
  · intro B' hB hne
    refine hset_old fun hh => hne ?_
    simp [blk, hh]
  · intro B' hB
    exact .inl hB

end
end Go.Ds
