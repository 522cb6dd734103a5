/-
  Ds against the model: every operation that calls nothing.
-/
import Derived.Test.YtoanhpaipfgnfaaDsH
import Derived.Laws.Cover3
set_option linter.unusedVariables false
set_option linter.unusedSimpArgs false
namespace Go.Ds
section
variable {P : Program} {ρ : Rho} {H : Heap} {w : World}

theorem addI_eq (a b : Int) : addI a b = a + b := by cases a <;> cases b <;> simp [addI]
theorem subI_eq (a b : Int) : subI a b = a - b := by
  cases a with
  | ofNat a => cases b with
    | ofNat b =>
      simp only [subI]
      cases h : Nat.ble b a with
      | true => have := Nat.le_of_ble_eq_true h; simp only [Int.ofNat_eq_natCast]; omega
      | false => have : ¬ b ≤ a := fun e => by rw [Nat.ble_eq_true_of_le e] at h; cases h
                 simp only [Int.ofNat_eq_natCast, Int.negSucc_eq]; omega
    | negSucc b => rfl
  | negSucc a => cases b <;> rfl
theorem blt_eq (a b : Nat) : Nat.blt a b = decide (a < b) := by
  by_cases h : a < b
  · rw [decide_eq_true h]; simpa [Nat.blt_eq] using h
  · rw [decide_eq_false h]; exact Bool.eq_false_iff.2 fun e => h (by simpa [Nat.blt_eq] using e)
theorem ltI_eq (a b : Int) : ltI a b = decide (a < b) := by
  cases a <;> cases b <;> simp only [ltI, blt_eq, Int.ofNat_eq_natCast, Int.negSucc_eq] <;> rw [Bool.eq_iff_iff] <;> simp <;> omega
theorem eqI_eq (a b : Int) : eqI a b = (a == b) := by
  cases a <;> cases b <;> simp only [eqI, Int.ofNat_eq_natCast, Int.negSucc_eq] <;> rw [Bool.eq_iff_iff] <;> simp <;> omega
theorem wrapI_eq (k : IntKind) (n : Int) : wrapI k n = k.wrap n := by
  unfold wrapI
  cases k with
  | i64 =>
    cases n with
    | ofNat m =>
      simp only [blt_eq]
      by_cases h : m < 9223372036854775808
      · rw [decide_eq_true h]; exact (IntWalk.i64_in _ (by simp only [Int.ofNat_eq_natCast]; omega)).symm
      · rw [decide_eq_false h]
    | negSucc m =>
      simp only [ltI_eq]
      by_cases h : Int.negSucc m < -9223372036854775808
      · rw [decide_eq_true h]
      · rw [decide_eq_false h]; exact (IntWalk.i64_in _ (by simp only [Int.negSucc_eq] at *; omega)).symm
  | u64 =>
    cases n with
    | ofNat m =>
      simp only [blt_eq]
      by_cases h : m < 18446744073709551616
      · rw [decide_eq_true h]; exact (IntWalk.u64_in _ (by simp only [Int.ofNat_eq_natCast]; omega)).symm
      · rw [decide_eq_false h]
    | negSucc m => rfl
  | _ => rfl

theorem binI_ok {op : BinOp} {k : IntKind} {a b : Int} {v : Value} (h : binI op k a b = some v) (t : TypeId) (x y : Operand) (w : World) :
    (do eqGuard op t x y (.int k a) (.int k b); binOp op t (.int k a) (.int k b) : Sem Value).run P w = .ok v w ∧ flat v = true := by
  cases op <;> simp only [binI, addI_eq, subI_eq, ltI_eq, eqI_eq, wrapI_eq, reduceCtorEq, Option.some.injEq] at h
  all_goals first
    | (subst h; refine ⟨?_, rfl⟩; simp [eqGuard, binOp, Op.intArith, Op.intCmp]; done)
    | (subst h; refine ⟨?_, rfl⟩; simp [eqGuard, binOp, Op.intCmp, bne]; done)
    | (subst h; refine ⟨?_, rfl⟩; simp [eqGuard, binOp, Op.intCmp]; rw [Bool.eq_iff_iff]; simp; done)
    | (by_cases h0 : b = 0
       · subst h0; simp at h
       · have e : (b == 0) = false := by simpa using h0
         rw [e] at h
         simp only [Option.some.injEq] at h
         subst h; refine ⟨?_, rfl⟩; simp [eqGuard, binOp, Op.intDiv, h0])

theorem plain_ok (h : HRel P ρ H w) {o : Oper} {l : List Value} {a : Act} (hV : ∀ x, x ∈ o.op.operands → V ρ (ev l x) (a.eval x)) (hsel : ∀ cs b, o.op ≠ .select cs b)
    {v : Value} {H' : Heap} (hp : plainD P o l H = some (v, H')) : OpOk P ρ H w ((execOp a.eval o).run P w) v H' := by
  unfold plainD at hp
  split at hp
  · rename_i hfl
    have heq : execOp a.eval o = execOp (ev l) o := execOp_congr o hsel fun x hx => by
      have hx' : x ∈ o.op.operands.toList := by simpa using hx
      simp only [List.all_eq_true] at hfl
      exact (hV x hx).eq_of_flat (hfl x hx')
    rw [heq]
    split at hp
    · rename_i v0 hr
      split at hp
      · rename_i hv0
        injection (Option.some.inj hp) with e1 e2
        subst e1 e2
        exact OpOk.pure h (pureRun_run _ hr w) (.of_flat hv0)
      · cases hp
    · cases hp
  · cases hp

theorem V.c0 {v v' : Value} (h : V ρ v v') (hc : isC0 v = true) : C0 ρ v v' := by
  cases h with
  | v1 h => cases h with
    | c1 h => cases h with
      | c0 h => exact h
      | _ => simp [isC0] at hc
    | agg h => simp [isC0] at hc
  | tuple h => simp [isC0] at hc

theorem V.bool_inv {b : Bool} {v' : Value} (h : V ρ (.bool b) v') : v' = .bool b := h.eq_of_flat rfl
theorem V.int_inv {k : IntKind} {n : Int} {v' : Value} (h : V ρ (.int k n) v') : v' = .int k n := h.eq_of_flat rfl

theorem fieldD_some {s : TypeId} {f : Nat} {fd : Field} (h : fieldD P s f = some fd) : ∃ fs, P.underlying s = some (.struct fs) ∧ fs[f]? = some fd := by
  unfold fieldD at h
  split at h
  · rename_i fs hu; exact ⟨fs, hu, h⟩
  · cases h

theorem All2.captured {l : List Value} {a : Act} : ∀ (xs : List Operand), (∀ x ∈ xs, V ρ (ev l x) (a.eval x)) → (∀ x ∈ xs, isC0 (ev l x) = true) → All2 (C0 ρ) (xs.map (ev l)) (xs.map a.eval)
  | [], _, _ => trivial
  | x :: xs, h1, h2 => ⟨(h1 x (by simp)).c0 (h2 x (by simp)), All2.captured xs (fun y hy => h1 y (by simp [hy])) fun y hy => h2 y (by simp [hy])⟩

theorem args_ok {l : List Value} {a : Act} : ∀ (xs : List Operand), (∀ x ∈ xs, V ρ (ev l x) (a.eval x)) → All2 (V ρ) (xs.map (ev l)) (xs.map a.eval)
  | [], _ => trivial
  | x :: xs, h1 => ⟨h1 x (by simp), args_ok xs fun y hy => h1 y (by simp [hy])⟩

theorem len_ok (h : HRel P ρ H w) {t : TypeId} {x x' r : Value} {d : TypeDesc} (hu : P.underlying t = some d) (hx : V ρ x x') (hl : lenD H x = some r)
    (hd : match d, x with | .slice _, .slice _ _ _ => True | .string, .string _ => True | .map _ _, .map _ => True | _, _ => False) (ty : TypeId) :
    (Builtin.len_ #[t] ty #[x']).run P w = .ok r w ∧ flat r = true := by
  unfold lenD at hl
  cases x with
  | slice o n c =>
    obtain rfl := Option.some.inj hl
    refine ⟨?_, rfl⟩
    cases d <;> try exact hd.elim
    rcases hx.slice_any with ⟨_, hn, _, rfl⟩ | ⟨A, j, e, p, c', a, hh, _, _, _, _, _, _, rfl⟩
    · simp [Builtin.len_, run_underlying hu, hn]
    · simp [Builtin.len_, run_underlying hu]
  | string s =>
    obtain rfl := Option.some.inj hl
    refine ⟨?_, rfl⟩
    cases d <;> try exact hd.elim
    obtain rfl := hx.eq_of_flat rfl
    simp [Builtin.len_, run_underlying hu]
  | map r0 =>
    cases d <;> try exact hd.elim
    cases r0 with
    | none =>
      obtain rfl := Option.some.inj hl
      obtain rfl := hx.eq_of_flat rfl
      exact ⟨by simp [Builtin.len_, run_underlying hu], rfl⟩
    | some A =>
      simp only at hl
      split at hl
      · rename_i es ck ver hg
        obtain rfl := Option.some.inj hl
        obtain ⟨p, es', hp, hw, hall⟩ := h.map _ _ _ _ hg
        have hx' : x' = .map (some p.b) := by
          cases hx with
          | v1 h1 => cases h1 with
            | c1 h1 => cases h1 with
              | c0 h1 => cases h1 with
                | flat h1 => simp [scalar] at h1
                | map hq => rw [hp] at hq; rw [Option.some.inj hq]
        subst hx'
        refine ⟨?_, rfl⟩
        have hg2 : (getObj p.b).run P w = .ok (.map es' ck) w := by simp [getObj, Sem.run, hw]
        have he : es'.size = es.length := by simpa using hall.length.symm
        simp [Builtin.len_, run_underlying hu, hg2, he]
      · cases hl
  | _ => cases hl

theorem OpOk.mem {ρ' : Rho} {res : Result Next} {v v' : Value} {H' : Heap} {w' : World} (hr : res = .ok (.value v') w') (hp : Post P ρ H w ρ' H' w') (hv : V ρ' v v') : OpOk P ρ H w res v H' :=
  ⟨ρ', v', _, w', hr, .inl rfl, hp, hv⟩

theorem V.ptr_some {ad : Addr} {v' : Value} (h : V ρ (.pointer (some ad)) v') : ∃ b, v' = .pointer (some b) := by
  cases h with
  | v1 h1 => cases h1 with
    | c1 h1 => cases h1 with
      | c0 h1 => cases h1 with
        | flat h1 => simp [scalar] at h1
        | ptr _ _ => exact ⟨_, rfl⟩

theorem V.fn_inv {f : FuncId} {b c : Array Value} {v' : Value} (h : V ρ (.func (.func f) b c) v') : ∃ b' c', v' = .func (.func f) b' c' ∧ All2 (C0 ρ) b.toList b'.toList ∧ All2 (C0 ρ) c.toList c'.toList := by
  cases h with
  | v1 h1 => cases h1 with
    | c1 h1 => cases h1 with
      | c0 h1 => cases h1 with
        | flat h1 => simp [scalar] at h1
      | fn ha hb => exact ⟨_, _, rfl, ha, hb⟩

theorem V.tuple_get {vs vs' : Array Value} (h : V ρ (.tuple vs) (.tuple vs')) (i : Nat) (r : Value) (hr : vs[i]? = some r) : ∃ r', vs'[i]? = some r' ∧ V1 ρ r r' := by
  cases h with
  | v1 h1 => cases h1 with
    | c1 h1 => cases h1 with
      | c0 h1 => cases h1 with
        | flat h1 => simp [scalar] at h1
  | tuple h1 =>
    obtain ⟨b, hb, hrel⟩ := h1.get i r (by simpa using hr)
    exact ⟨b, by simpa using hb, hrel⟩

theorem V.tuple_not {vs : Array Value} {v' : Value} (h : V ρ (.tuple vs) v') (hn : ∀ x, v' ≠ .tuple x := by intro x e; cases e) : False := by
  cases h with
  | v1 h1 => cases h1 with
    | c1 h1 => cases h1 with
      | c0 h1 => cases h1 with
        | flat h1 => simp [scalar] at h1
  | tuple h1 => exact hn _ rfl

theorem V.agg_inv {cs : Array Value} {v' : Value} (h : V ρ (.agg cs) v') : ∃ cs', v' = .agg cs' ∧ All2 (C1 ρ) cs.toList cs'.toList := by
  cases h with
  | v1 h1 => cases h1 with
    | c1 h1 => cases h1 with
      | c0 h1 => cases h1 with
        | flat h1 => simp [scalar] at h1
    | agg h1 => exact ⟨_, rfl, h1⟩

theorem All2.extract {α β : Type} {R : α → β → Prop} {l : List α} {m : List β} (h : All2 R l m) (i j : Nat) : All2 R (l.extract i j) (m.extract i j) := by
  refine All2.of_get (by simp [h.length]) fun k a hk => ?_
  simp only [List.extract_eq_take_drop] at hk ⊢
  by_cases hkj : k < j - i
  · rw [List.getElem?_take_of_lt hkj, List.getElem?_drop] at hk
    obtain ⟨b, hb, hr⟩ := h.get _ _ hk
    exact ⟨b, by rw [List.getElem?_take_of_lt hkj, List.getElem?_drop]; exact hb, hr⟩
  · rw [List.getElem?_take_eq_none (by omega)] at hk; cases hk

theorem isSlice_some {t : TypeId} (h : ((P.underlying t).map isSlice == some true) = true) : ∃ e, P.underlying t = some (.slice e) := by
  simp only [beq_iff_eq] at h
  obtain ⟨d, hd, hs⟩ := Option.map_eq_some_iff.1 h
  cases d <;> simp [isSlice] at hs
  exact ⟨_, hd⟩

theorem array2 {α : Type} {a : Array α} (h : a.size = 2) : ∃ x y, a = #[x, y] := by
  cases a with | mk l => match l, h with | [x, y], _ => exact ⟨x, y, rfl⟩

theorem array1 {α : Type} {a : Array α} (h : a.size = 1) : ∃ x, a = #[x] := by
  cases a with | mk l => match l, h with | [x], _ => exact ⟨x, rfl⟩

theorem made_one {z : Value} (n : Nat) {k : Nat} (hz : z.cells.size = k) : (if k = 1 then List.replicate n (z.cells[0]!) else (madeCells z.cells (n * k)).toList) = (madeCells z.cells (n * k)).toList := by
  split
  · rename_i h1
    subst h1
    simp only [madeCells, hz, Nat.mod_one, Nat.mul_one]
    apply List.ext_getElem?
    intro j
    simp only [List.getElem?_replicate, Array.getElem?_toList, Array.getElem?_map, Array.getElem?_range]
    split <;> simp
  · rfl

theorem bytes_bound {k b : Nat} (h : k * b ≤ 17592186044416) : (b : Int) * (k : Int) ≤ 281474976710656 := by
  have e : (b : Int) * (k : Int) = ((k * b : Nat) : Int) := by rw [Int.mul_comm]; simp
  rw [e]; omega

theorem makeSlice_ok (h : HRel P ρ H w) {dst : Option Tmp} {t type : TypeId} {n c : Operand} {pos : String} {after : Array Edge} {guard : Option (Nat × Bool)} {l : List Value} {a : Act} (h1 : V ρ (ev l n) (a.eval n)) (h2 : V ρ (ev l c) (a.eval c)) {v : Value} {H' : Heap}
    (hd : opD P ⟨dst, .makeSlice t n c, type, pos, after, guard⟩ l H = some (v, H')) : OpOk P ρ H w ((execOp a.eval ⟨dst, .makeSlice t n c, type, pos, after, guard⟩).run P w) v H' := by
  simp only [opD, Option.bind_eq_some_iff] at hd
  obtain ⟨elem, he, size, hs, bytes, hby, z, hz, hd⟩ := hd
  have hst := sliceElem_some he
  obtain ⟨i, hi, hisz, hiby, hiz⟩ := sizes_of hs hby hz
  subst hisz hiby
  split at hd
  · rename_i x y hx hy
    rw [hx] at h1; rw [hy] at h2
    split at hd
    · rename_i hc
      simp only [Bool.and_eq_true, decide_eq_true_eq, bne_iff_ne, beq_iff_eq] at hc
      obtain ⟨⟨⟨⟨⟨hfz, rfl⟩, h0⟩, hroom⟩, hs0⟩, hzs⟩ := hc
      obtain ⟨k, rfl⟩ := Int.eq_ofNat_of_zero_le h0
      obtain ⟨r1, r2⟩ := room_i64 hroom
      have hrun := run_make (P := P) w t elem i z hst hi hiz .i64 .i64 (k : Int) (k : Int) h0 (Int.le_refl _) (bytes_bound r2) (by omega)
      simp only [Int.toNat_natCast] at hrun hd
      injection (Option.some.inj hd) with e1 e2
      rw [made_one k hzs] at e1 e2
      subst e1 e2
      obtain ⟨ρ', hp, hv⟩ := newSlice_ok (len := k) h hs (zeros_ok (ρ := ρ) hfz (k * i.size)) (by simp)
      simp only [Array.toArray_toList] at hp
      change Post P ρ H w ρ' (rowD H elem (madeCells z.cells (k * i.size)).toList) (w.alloc (.cells (madeCells z.cells (k * i.size)) elem)) at hp
      exact OpOk.mem (by simp only [execOp, h1.int_inv, h2.int_inv, Sem.run_bind, hrun, Result.andThen_ok, Sem.run_pure]) hp hv
    · cases hd
  · cases hd

theorem buildSlice_ok (h : HRel P ρ H w) {dst : Option Tmp} {t len type : Nat} {parts : Array (Nat × Operand)} {pos : String} {after : Array Edge} {guard : Option (Nat × Bool)} {l : List Value} {a : Act}
    (hps : Parts ρ (parts.toList.map fun (i, x) => (i, ev l x)) (parts.toList.map fun (i, x) => (i, a.eval x))) {v : Value} {H' : Heap}
    (hd : opD P ⟨dst, .buildSlice t len parts, type, pos, after, guard⟩ l H = some (v, H')) : OpOk P ρ H w ((execOp a.eval ⟨dst, .buildSlice t len parts, type, pos, after, guard⟩).run P w) v H' := by
  simp only [opD, Option.bind_eq_some_iff] at hd
  obtain ⟨elem, he, size, hs, z, hz, hd⟩ := hd
  split at hd
  · rename_i hc
    simp only [Bool.and_eq_true, decide_eq_true_eq, bne_iff_ne, beq_iff_eq] at hc
    obtain ⟨⟨⟨⟨hfz, hall1⟩, hsmall⟩, hpos⟩, hzs⟩ := hc
    simp only [Option.map_eq_some_iff] at hd
    obtain ⟨cs, hb, hd⟩ := hd
    injection hd with e1 e2; subst e1 e2
    have hst := sliceElem_some he
    obtain ⟨i, hi, hisz⟩ := sizeP_some hs
    subst hisz
    have hiz : i.zero = some z := by unfold zeroP at hz; rw [hi] at hz; exact hz
    have hone : ∀ x ∈ (parts.toList.map fun (i, x) => (i, ev l x)), x.2.cells.toList.all oneCell = true := by
      simp only [List.all_eq_true] at hall1 ⊢; exact hall1
    obtain ⟨r', hr', hall⟩ := fill_ok _ _ _ hps hone _ _ _ (zeros_ok hfz _) hb
    have hsz : len * i.size = cs.toList.length := by
      have := fill_size _ _ _ _ hb; rw [Array.length_toList, this]; simp
    obtain ⟨ρ', hp, hv⟩ := newSlice_ok h hs hall hsz
    have hsm : ¬ len * i.size > 2 ^ 24 := Nat.not_lt.2 hsmall
    have hparts : (parts.map fun (i, x) => (i, a.eval x)).toList = (parts.toList.map fun (i, x) => (i, a.eval x)) := by simp
    have hrun := run_buildSlice (P := P) w t elem len (parts.map fun (i, x) => (i, a.eval x)) r' i z hst hi hiz hsm hpos (by rw [hparts]; exact hr')
    rw [Array.toArray_toList] at hp
    exact OpOk.mem (by simp only [execOp, Sem.run_bind, hrun, Result.andThen_ok, Sem.run_pure]) hp hv
  · cases hd

set_option maxHeartbeats 1000000 in
theorem opD_ok (h : HRel P ρ H w) {o : Oper} {l : List Value} {a : Act} (hV : ∀ x, x ∈ o.op.operands → V ρ (ev l x) (a.eval x)) {v : Value} {H' : Heap} (hd : opD P o l H = some (v, H')) :
    OpOk P ρ H w ((execOp a.eval o).run P w) v H' := by
  obtain ⟨dst, op, type, pos, after, guard⟩ := o
  simp only at hV
  cases op with
  | move x =>
    simp only [opD] at hd
    injection (Option.some.inj hd) with e1 e2; subst e1 e2
    exact OpOk.pure h rfl (hV x (by simp [Op.operands]))
  | assign x =>
    simp only [opD] at hd
    injection (Option.some.inj hd) with e1 e2; subst e1 e2
    exact OpOk.pure h rfl (hV x (by simp [Op.operands]))
  | pick c x y =>
    simp only [opD] at hd
    split at hd
    · rename_i t hc
      injection (Option.some.inj hd) with e1 e2; subst e1 e2
      have hcv := hV c (by simp [Op.operands])
      rw [hc] at hcv
      have := hcv.bool_inv
      refine OpOk.pure h (v' := if t then a.eval x else a.eval y) (by simp only [execOp]; rw [this]; cases t <;> simp [asBool]) ?_
      cases t
      · exact hV y (by simp [Op.operands])
      · exact hV x (by simp [Op.operands])
    · cases hd
  | alloc t =>
    simp only [opD, Option.bind_eq_some_iff] at hd
    obtain ⟨z, hz, hd⟩ := hd
    split at hd
    · rename_i hf
      obtain ⟨ρ', r', w', hr, hp, hv⟩ := new_ok h hd (.v1 (V1.of_flat hf))
      have hr2 : (Instr.alloc t true (.tuple #[])).run P w = .ok r' w' := by
        simp only [Instr.alloc, Sem.run_bind, run_zeroP hz, Result.andThen_ok]
        simpa using hr
      exact OpOk.mem (by simp only [execOp, Sem.run_bind, hr2, Result.andThen_ok, Sem.run_pure]) hp hv
    · cases hd
  | box t x =>
    simp only [opD] at hd
    obtain ⟨ρ', r', w', hr, hp, hv⟩ := new_ok h hd (hV x (by simp [Op.operands]))
    have hr2 : (Instr.box t (a.eval x)).run P w = .ok r' w' := hr
    exact OpOk.mem (by simp only [execOp, Sem.run_bind, hr2, Result.andThen_ok, Sem.run_pure]) hp hv
  | build t parts =>
    simp only [opD] at hd
    split at hd
    · rename_i hc
      simp only [Bool.and_eq_true, List.all_eq_true] at hc
      simp only [Option.map_eq_some_iff] at hd
      obtain ⟨cs, hb, hd⟩ := hd
      injection hd with e1 e2; subst e1 e2
      have hps := parts_ok parts.toList fun x hx => hV x.2 (by simp only [Op.operands, List.mem_toArray, List.mem_map]; exact ⟨x, hx, rfl⟩)
      obtain ⟨r', hr', hall⟩ := built_ok hps (fun x hx => by simp only [List.all_eq_true]; exact hc.2 x hx) (fun z hz => by have := hc.1; rw [hz] at this; simpa using this) hb
      have hparts : (parts.map fun (i, x) => (i, a.eval x)).toList = (parts.toList.map fun (i, x) => (i, a.eval x)) := by simp
      have hrun := run_build (P := P) w t (parts.map fun (i, x) => (i, a.eval x)) r' (by rw [hparts]; exact hr')
      exact OpOk.mem (by simp only [execOp, Sem.run_bind, hrun, Result.andThen_ok, Sem.run_pure]) (.refl h) (.v1 (.agg hall))
    · cases hd
  | buildSlice t len parts =>
    exact buildSlice_ok h (parts_ok parts.toList fun x hx => hV x.2 (by simp only [Op.operands, List.mem_toArray, List.mem_map]; exact ⟨x, hx, rfl⟩)) hd
  | makeSlice t n c =>
    have h1 := (hV n (by simp [Op.operands]))
    have h2 := (hV c (by simp [Op.operands]))
    exact makeSlice_ok h h1 h2 hd
  | load t x =>
    simp only [opD, Option.map_eq_some_iff] at hd
    obtain ⟨r, hl, hd⟩ := hd
    injection hd with e1 e2; subst e1 e2
    obtain ⟨r', hr, hv⟩ := load_ok h hl (hV x (by simp [Op.operands]))
    exact OpOk.mem (by simp only [execOp, Sem.run_bind, hr, Result.andThen_ok, Sem.run_pure]) (.refl h) hv
  | store t x y =>
    simp only [opD, Option.map_eq_some_iff] at hd
    obtain ⟨H1, hs, hd⟩ := hd
    injection hd with e1 e2; subst e1 e2
    obtain ⟨w', hr, hp⟩ := store_ok h hs (hV x (by simp [Op.operands])) (hV y (by simp [Op.operands]))
    exact ⟨ρ, undef, .skip, w', by simp only [execOp, Sem.run_bind, hr, Result.andThen_ok, Sem.run_pure], .inr ⟨rfl, rfl⟩, hp, .undef⟩
  | nilCheck x =>
    simp only [opD] at hd
    have hv := hV x (by simp [Op.operands])
    split at hd
    · rename_i ad hx
      injection (Option.some.inj hd) with e1 e2; subst e1 e2
      rw [hx] at hv
      obtain ⟨b, hb⟩ := hv.ptr_some
      rw [hb] at hv
      exact OpOk.mem (by simp only [execOp, hb, Sem.run_pure]) (.refl h) hv
    · rename_i f b c hx
      injection (Option.some.inj hd) with e1 e2; subst e1 e2
      rw [hx] at hv
      obtain ⟨b', c', hb, _⟩ := hv.fn_inv
      rw [hb] at hv
      exact OpOk.mem (by simp only [execOp, hb, Sem.run_pure]) (.refl h) hv
    · cases hd
  | fieldAddr s x f =>
    simp only [opD] at hd
    have hv := hV x (by simp [Op.operands])
    split at hd
    · rename_i A i e hx
      simp only [Option.bind_eq_some_iff] at hd
      obtain ⟨fd, hf, n, hn, hd⟩ := hd
      split at hd
      · cases hd
      · rename_i hn0
        simp only [beq_iff_eq] at hn0
        injection (Option.some.inj hd) with e1 e2; subst e1 e2
        rw [hx] at hv
        obtain ⟨p, hp, h0, hb⟩ := hv.ptr_inv
        obtain ⟨fs, hu, hfs⟩ := fieldD_some hf
        have hrun : (Instr.fieldAt s (a.eval x) f).run P w = .ok (.pointer (some ⟨p.b, p.at i + fd.offset, none⟩)) w := by
          unfold Instr.fieldAt
          simp only [Sem.run_bind, run_underlying hu, Result.andThen_ok, hfs, hb, Instr.sureAddr, Sem.run_pure, fieldPlace, run_sizeP hn]
          simp [hn0, addr_add]
        refine OpOk.mem (v' := .pointer (some ⟨p.b, p.at i + fd.offset, none⟩)) (by simp only [execOp, Sem.run_bind, hrun, Result.andThen_ok, Sem.run_pure]) (.refl h) ?_
        rw [← at_add h0]
        exact .v1 (.c1 (.c0 (.ptr hp (by omega))))
    · cases hd
  | indexAddr t x ix =>
    simp only [opD] at hd
    have hv := hV x (by simp [Op.operands])
    have hvi := hV ix (by simp [Op.operands])
    split at hd
    · rename_i elem A i e n c k j hu hx hi
      simp only [Option.bind_eq_some_iff] at hd
      obtain ⟨size, hs, hd⟩ := hd
      split at hd
      · rename_i hc
        simp only [Bool.and_eq_true, decide_eq_true_eq] at hc
        injection (Option.some.inj hd) with e1 e2; subst e1 e2
        rw [hx] at hv; rw [hi] at hvi
        obtain ⟨p, c', ad, hp, h0, hin, hnc, ha, hck, hb⟩ := hv.slice_inv
        obtain ⟨ha, hsz⟩ : ad = ⟨p.b, p.at i, none⟩ ∧ p.at i + c' * p.k ≤ p.sz := by
          rcases ha with ha | ha
          · exact ha
          · omega
        subst ha
        have hrun : (Instr.indexAt t (a.eval x) (a.eval ix)).run P w = .ok (.pointer (some ⟨p.b, p.at i + j.toNat * size, none⟩)) w := by
          unfold Instr.indexAt
          simp only [hb, hvi.int_inv, asIntOf, Sem.run_bind, Sem.run_pure, Result.andThen_ok, run_underlying hu]
          simp [hc, addr_add, run_sizeP hs]
        refine OpOk.mem (v' := .pointer (some ⟨p.b, p.at i + j.toNat * size, none⟩)) (by simp only [execOp, Sem.run_bind, hrun, Result.andThen_ok, Sem.run_pure]) (.refl h) ?_
        rw [← at_add h0]
        exact .v1 (.c1 (.c0 (.ptr hp (by
          have : 0 ≤ j.toNat * size := Nat.zero_le _
          omega))))
      · cases hd
    · rename_i n elem A i e k j hu hx hi
      simp only [Option.bind_eq_some_iff] at hd
      obtain ⟨size, hs, hd⟩ := hd
      split at hd
      · rename_i hc
        simp only [Bool.and_eq_true, decide_eq_true_eq] at hc
        injection (Option.some.inj hd) with e1 e2; subst e1 e2
        rw [hx] at hv; rw [hi] at hvi
        obtain ⟨p, hp, h0, hb⟩ := hv.ptr_inv
        have hrun : (Instr.indexAt t (a.eval x) (a.eval ix)).run P w = .ok (.pointer (some ⟨p.b, p.at i + j.toNat * size, none⟩)) w := by
          unfold Instr.indexAt
          simp only [hb, hvi.int_inv, asIntOf, Instr.sureAddr, Sem.run_bind, Sem.run_pure, Result.andThen_ok, run_underlying hu]
          simp [hc, addr_add, run_sizeP hs]
        refine OpOk.mem (v' := .pointer (some ⟨p.b, p.at i + j.toNat * size, none⟩)) (by simp only [execOp, Sem.run_bind, hrun, Result.andThen_ok, Sem.run_pure]) (.refl h) ?_
        rw [← at_add h0]
        exact .v1 (.c1 (.c0 (.ptr hp (by
          have : 0 ≤ j.toNat * size := Nat.zero_le _
          omega))))
      · cases hd
    · cases hd
  | extract t i =>
    simp only [opD] at hd
    have hv := hV t (by simp [Op.operands])
    split at hd
    · rename_i vs hx
      simp only [Option.map_eq_some_iff] at hd
      obtain ⟨r, hr, hd⟩ := hd
      injection hd with e1 e2; subst e1 e2
      rw [hx] at hv
      cases hva : a.eval t with
      | tuple vs' =>
        rw [hva] at hv
        obtain ⟨r', hr', hrel⟩ := hv.tuple_get i r hr
        exact OpOk.mem (by simp only [execOp, hva, Instr.extract, hr', Sem.run_bind, Sem.run_pure, Result.andThen_ok]) (.refl h) (.v1 hrel)
      | _ => rw [hva] at hv; exact hv.tuple_not.elim
    · cases hd
  | makeFunc fn first captured =>
    simp only [opD] at hd
    split at hd
    · rename_i f
      split at hd
      · rename_i hc
        injection (Option.some.inj hd) with e1 e2; subst e1 e2
        simp only [List.all_eq_true, Array.toList_append, List.mem_append] at hc
        have h1 : ∀ x ∈ first.toList, V ρ (ev l x) (a.eval x) := fun x hx => hV x (by simp [Op.operands]; exact .inl (by simpa using hx))
        have h2 : ∀ x ∈ captured.toList, V ρ (ev l x) (a.eval x) := fun x hx => hV x (by simp [Op.operands]; exact .inr (by simpa using hx))
        refine OpOk.mem (v' := .func (.func f) (first.map a.eval) (captured.map a.eval)) (by simp only [execOp, Instr.makeFunc, Sem.run_bind, Sem.run_pure, Result.andThen_ok]) (.refl h) (.v1 (.c1 (.fn ?_ ?_)))
        · simpa using All2.captured first.toList h1 fun x hx => hc x (.inl hx)
        · simpa using All2.captured captured.toList h2 fun x hx => hc x (.inr hx)
      · cases hd
    · cases hd
  | unOp op t x =>
    simp only [opD] at hd
    split at hd
    · rename_i b hx
      injection (Option.some.inj hd) with e1 e2; subst e1 e2
      have hv := hV x (by simp [Op.operands])
      rw [hx] at hv
      exact OpOk.mem (by simp only [execOp, hv.bool_inv, Op.unary, Sem.run_bind, Sem.run_pure, Result.andThen_ok]) (.refl h) (.of_flat rfl)
    · exact plain_ok h hV (by simp) hd
  | convert s t x => simp only [opD] at hd; exact plain_ok h hV (by simp) hd
  | index t x y => simp only [opD] at hd; exact plain_ok h hV (by simp) hd
  | makeInterface t x => simp only [opD] at hd; exact plain_ok h hV (by simp) hd
  | slice t x lo hi mx =>
    cases mx with
    | some _ => simp only [opD] at hd; cases hd
    | none =>
      simp only [opD] at hd
      split at hd
      · exact plain_ok h hV (by simp) hd
      · simp only [Option.map_eq_some_iff] at hd
        obtain ⟨r, hr, hd⟩ := hd
        injection hd with e1 e2; subst e1 e2
        obtain ⟨r', hrun, hv⟩ := sliceD_ok h (lo' := lo.map a.eval) (hi' := hi.map a.eval) hr (hV x (by simp [Op.operands]))
          (by cases lo with | none => trivial | some y => exact hV y (by simp [Op.operands]))
          (by cases hi with | none => trivial | some y => exact hV y (by simp [Op.operands]))
        exact OpOk.mem (by simp only [execOp, Option.map_none, Sem.run_bind, hrun, Result.andThen_ok, Sem.run_pure]) (.refl h) hv
  | field t x f =>
    simp only [opD] at hd
    split at hd
    · exact plain_ok h hV (by simp) hd
    · have hv := hV x (by simp [Op.operands])
      split at hd
      · rename_i cs hx
        simp only [Option.bind_eq_some_iff] at hd
        obtain ⟨fd, hf, hd⟩ := hd
        obtain ⟨fs, hu, hfs⟩ := fieldD_some hf
        rw [hx] at hv
        obtain ⟨cs', hb, hall⟩ := hv.agg_inv
        split at hd
        · rename_i hagg
          simp only [Option.map_eq_some_iff] at hd
          obtain ⟨n, hn, hd⟩ := hd
          injection hd with e1 e2; subst e1 e2
          have hrun : (Instr.field t (a.eval x) f).run P w = .ok (.agg (cs'.extract fd.offset (fd.offset + n))) w := by
            unfold Instr.field part
            simp only [Sem.run_bind, run_underlying hu, Result.andThen_ok, hfs, hb, asAgg, Sem.run_pure, run_isAggP hagg]
            simp [run_sizeP hn]
          refine OpOk.mem (v' := .agg (cs'.extract fd.offset (fd.offset + n))) (by simp only [execOp, Sem.run_bind, hrun, Result.andThen_ok, Sem.run_pure]) (.refl h) (.v1 (.agg ?_))
          simp only [Array.toList_extract]
          exact hall.extract _ _
        · rename_i hagg
          simp only [Option.map_eq_some_iff] at hd
          obtain ⟨r, hr, hd⟩ := hd
          injection hd with e1 e2; subst e1 e2
          obtain ⟨r', hr', hrel⟩ := hall.get fd.offset r (by simpa using hr)
          have hr2 : cs'[fd.offset]? = some r' := by simpa using hr'
          have hrun : (Instr.field t (a.eval x) f).run P w = .ok r' w := by
            unfold Instr.field part
            simp only [Sem.run_bind, run_underlying hu, Result.andThen_ok, hfs, hb, asAgg, Sem.run_pure, run_isAggP hagg]
            simp [hr2]
          exact OpOk.mem (by simp only [execOp, Sem.run_bind, hrun, Result.andThen_ok, Sem.run_pure]) (.refl h) (.v1 (.c1 hrel))
        · cases hd
      · cases hd
  | binOp op t x y yt =>
    have hvx := hV x (by simp [Op.operands])
    have hvy := hV y (by simp [Op.operands])
    simp only [opD] at hd
    split at hd
    · rename_i ad n c hx hy
      split at hd
      · rename_i hc
        injection (Option.some.inj hd) with e1 e2; subst e1 e2
        rw [hx] at hvx; rw [hy] at hvy
        obtain ⟨elem, hu⟩ := isSlice_some hc
        have hy' : a.eval y = .slice none 0 0 := hvy.eq_of_flat rfl
        rcases hvx.slice_any with ⟨hh, _⟩ | ⟨A, j, e, p, c', ad2, hh, _, _, _, _, _, _, hx'⟩
        · cases hh
        · have hrun : (do eqGuard .eql t x y (a.eval x) (a.eval y); binOp .eql t (a.eval x) (a.eval y) : Sem Value).run P w = .ok (.bool false) w := by
            rw [hx', hy']
            simp [eqGuard, binOp, run_equal_slice_nil w t elem (some ad2) n c' hu]
          simp only [Sem.run_bind] at hrun
          exact OpOk.mem (v' := .bool false) (by simp only [execOp, Sem.run_bind, hrun, Result.andThen_ok, Sem.run_pure]) (.refl h) (.of_flat rfl)
      · cases hd
    · rename_i ad n c hx hy
      split at hd
      · rename_i hc
        injection (Option.some.inj hd) with e1 e2; subst e1 e2
        rw [hx] at hvx; rw [hy] at hvy
        obtain ⟨elem, hu⟩ := isSlice_some hc
        have hy' : a.eval y = .slice none 0 0 := hvy.eq_of_flat rfl
        rcases hvx.slice_any with ⟨hh, _⟩ | ⟨A, j, e, p, c', ad2, hh, _, _, _, _, _, _, hx'⟩
        · cases hh
        · have hrun : (do eqGuard .neq t x y (a.eval x) (a.eval y); binOp .neq t (a.eval x) (a.eval y) : Sem Value).run P w = .ok (.bool true) w := by
            rw [hx', hy']
            simp [eqGuard, binOp, run_equal_slice_nil w t elem (some ad2) n c' hu]
          simp only [Sem.run_bind] at hrun
          exact OpOk.mem (v' := .bool true) (by simp only [execOp, Sem.run_bind, hrun, Result.andThen_ok, Sem.run_pure]) (.refl h) (.of_flat rfl)
      · cases hd
    · rename_i k i k' j hx hy
      split at hd
      · rename_i hk
        subst hk
        split at hd
        · rename_i r hb
          injection (Option.some.inj hd) with e1 e2; subst e1 e2
          rw [hx] at hvx; rw [hy] at hvy
          obtain ⟨hrun, hfl⟩ := binI_ok (P := P) hb t x y w
          simp only [Sem.run_bind] at hrun
          exact OpOk.mem (by simp only [execOp, hvx.int_inv, hvy.int_inv, Sem.run_bind, hrun, Result.andThen_ok, Sem.run_pure]) (.refl h) (.of_flat hfl)
        · exact plain_ok h hV (by simp) hd
      · exact plain_ok h hV (by simp) hd
    · exact plain_ok h hV (by simp) hd
  | call c =>
    obtain ⟨callee, args, argTypes⟩ := c
    have hargs : ∀ x ∈ args, V ρ (ev l x) (a.eval x) := fun x hx => hV x (by simp [Op.operands, Call.operands]; exact .inr hx)
    simp only [opD] at hd
    split at hd
    · -- len
      split at hd
      · rename_i hc
        simp only [Bool.and_eq_true, beq_iff_eq] at hc
        obtain ⟨y, rfl⟩ := array1 hc.1
        obtain ⟨t, rfl⟩ := array1 hc.2
        have hv := hargs y (by simp)
        have e1 : (#[t] : Array TypeId).getD 0 0 = t := rfl
        have e2 : (#[y] : Array Operand).getD 0 (.tmp 0) = y := rfl
        rw [e1, e2] at hd
        split at hd
        all_goals first
          | cases hd; done
          | (rename_i hu hx
             simp only [Option.map_eq_some_iff] at hd
             obtain ⟨r, hr, hd⟩ := hd
             injection hd with e3 e4; subst e3 e4
             rw [hx] at hv
             obtain ⟨hrun, hfl⟩ := len_ok h hu hv hr trivial type
             exact OpOk.mem (by simp [execOp, resolve, invoke, builtin, hrun]) (.refl h) (.of_flat hfl))
      · cases hd
    · -- append
      split at hd
      · rename_i hc
        simp only [Bool.and_eq_true, beq_iff_eq] at hc
        obtain ⟨y, z, rfl⟩ := array2 hc.1.1
        obtain ⟨t, u, rfl⟩ := array2 hc.1.2
        have e1 : (#[t, u] : Array TypeId).getD 0 0 = t := rfl
        have e2 : (#[y, z] : Array Operand).getD 0 (.tmp 0) = y := rfl
        have e3 : (#[y, z] : Array Operand).getD 1 (.tmp 0) = z := rfl
        have e4 : (#[t, u] : Array TypeId).getD 1 0 = u := rfl
        rw [e1, e2, e3] at hd
        have hn := hc.2
        rw [e4] at hn
        obtain ⟨d, hu, hni⟩ := Option.map_eq_some_iff.1 hn
        obtain ⟨ρ', r', w', hrun, hp, hv⟩ := appendD_ok h type hd hu hni (hargs y (by simp)) (hargs z (by simp))
        exact OpOk.mem (by simp [execOp, resolve, invoke, builtin, hrun]) hp hv
      · cases hd
    · -- copy
      split at hd
      · rename_i hc
        simp only [Bool.and_eq_true, beq_iff_eq] at hc
        obtain ⟨y, z, rfl⟩ := array2 hc.1
        obtain ⟨t, u, rfl⟩ := array2 hc.2
        have e1 : (#[t, u] : Array TypeId).getD 0 0 = t := rfl
        have e2 : (#[y, z] : Array Operand).getD 0 (.tmp 0) = y := rfl
        have e3 : (#[y, z] : Array Operand).getD 1 (.tmp 0) = z := rfl
        rw [e1, e2, e3] at hd
        obtain ⟨r', w', hrun, hp, hv⟩ := copyD_ok (xt := u) h type hd (hargs y (by simp)) (hargs z (by simp))
        exact OpOk.mem (by simp [execOp, resolve, invoke, builtin, hrun]) hp hv
      · cases hd
    · exact plain_ok h hV (by simp) hd
    · exact plain_ok h hV (by simp) hd
    · cases hd
  | _ => simp only [opD] at hd; cases hd
end
end Go.Ds
