/-
  A part of the proof of SoundErrors.
-/
import Derived.Test.YtmhekfhdnednjaaGreatDoorVD
import Derived.Test.YtmhekfhdnednjaaGreatDoorVB
set_option linter.unusedVariables false
set_option linter.unusedSimpArgs false
set_option linter.defProp false
set_option linter.unusedSectionVars false
namespace Go.Ds
open Go.Proofs
variable {H : Heap}
set_option maxRecDepth 10000
set_option maxHeartbeats 1000000
theorem Wp.bS {P : Program} {c c' : Code} {l l' : List Value} {Q : mW} (hc : c' = c) (hl : l' = l) (h : SW P c l H Q) : Wp P c' l' H Q := by
 subst hc hl; exact h.wp
theorem Wp.cN {P : Program} {c : Code} {l : List Value} {Q : mW} (h : ∀ l', l' = l → Wp P c l' H Q) : Wp P c l H Q := h l rfl
theorem Wp.cw {P : Program} {t : Tmp} {ps : Array Tmp} {assign body : Code} {l : List Value} {Q : mW} {k : FuncId} {captured : List Value} (hg : get l t = .func (.func k) #[] captured.toArray)
 (h : ∀ r : Loop, r.state = .ready → r.pending = none → r.tmps = l.toArray → r.params = ps → r.assign = assign → r.body = body →
   FnS P k ([.func (.yield H.length) #[] #[]] ++ captured) (H.cons (.loop r)) (b6b P l H.length Q)) : Wp P (.rangeFunc (.tmp t) ps assign body) l H Q :=
 Wp.range (first := []) rfl hg (h (b1c l ps assign body) rfl rfl rfl rfl rfl rfl)
theorem Lp.left {P : Program} {B : Base} {L : Nat} {r : Loop} {ls rest : List Ob} (h : Lp P B L r H (ls ++ rest)) : Lp P B L r H ls := h.sub (List.sublist_append_left _ _)
theorem OwnAt.var {P : Program} {A n : Nat} {cs : List Value} (h : OwnAt P H ⟨ptr A 0 n, 0, cs⟩) : Var H A n cs := by
 unfold OwnAt at h
 rw [if_pos rfl] at h
 rcases h with ⟨A', ty, lo, ver, h1, h2, h3⟩ | ⟨A', es, ck, ver, _, _, h3, _⟩
 ·simp only [ptr, Value.pointer.injEq, dI, Addr.mk.injEq] at h3
  obtain ⟨rfl, _, hn⟩ := h3
  exact ⟨hn, ty, true, lo, ver, h1, h2⟩
 ·cases h3
theorem a6g {n i : Nat} (h : i < n) : ∃ t, List.range n = List.range i ++ i :: t := by
 refine ⟨(List.range n).drop (i + 1), ?_⟩
 have h1 : (List.range n).take i = List.range i := by rw [List.take_range, fW (by omega)]
 have h2 := fD (l := List.range n) (i := i) (by simpa using h)
 rw [List.getElem_range] at h2
 rw [← h1, ← h2, List.take_append_drop]
def b5R (x n : Nat) : List Nat := (List.range n).filter fun i => x.testBit i
theorem a8p (x n : Nat) : (b5R x n).length ≤ n := by
 unfold b5R
 refine dJ (ey _ _) ?_
 simp
structure Pv where
 v : Value
 l : List Ct
 deriving Inhabited
def Pv.cells (p : Pv) : List Value := [p.v]
def Pv.Ix (H : Heap) (X : Nat → Prop) (p : Pv) : Prop := Slx 2 kA H X p.v p.l
theorem Pv.Ix.step {H' : Heap} {X Y : Nat → Prop} {p : Pv} (h : p.Ix H X) (hk : Kept H X H' Y) : p.Ix H' Y := Slx.step h hk
theorem Kept.and {H' : Heap} {X Y : Nat → Prop} (Q : Nat → Prop) (h : Kept H X H' Y) : Kept H (fun B => Q B ∧ X B) H' (fun B => Q B ∧ Y B) :=
 fun B hX hB => ⟨(h B hX.2 hB).1, hX.1, (h B hX.2 hB).2⟩
theorem Fn.tr {P : Program} {k : FuncId} {args : List Value} {R : Value → Heap → Prop} (h : Fn P k args H R) : Fn P k args H fun v H' => True ∧ R v H' := by
 simpa using h
theorem St.bb {P : Program} {H0 : Base} {os : List Ob} (hS : St P H0 H os) {t : TypeId} {size bytes : Nat} {K : Value → Heap → Prop} (ha : mS P t = some (size + 1, bytes)) (h : ∀ v H1, St P H0 H1 (os ++ [⟨v, size + 1, []⟩]) → K v H1) : rU P H t 0 [] K := by
 unfold mS at ha
 cases he : iJ P t with
 | none => rw [he] at ha; cases ha
 | some elem =>
 rw [he] at ha
 simp only [dc] at ha
 cases hsz2 : iE P elem with
 | none => rw [hsz2] at ha; cases ha
 | some sz =>
 rw [hsz2] at ha
 simp only [dc] at ha
 cases hby : nI P elem with
 | none => rw [hby] at ha; cases ha
 | some by' =>
 rw [hby] at ha
 simp only [dc] at ha
 cases hz2 : jB P elem with
 | none => rw [hz2] at ha; cases ha
 | some z =>
 rw [hz2] at ha
 simp only [dc] at ha
 split at ha
 case isFalse => cases ha
 simp only [dI, gq] at ha
 obtain ⟨rfl, rfl⟩ := ha
 refine ⟨.slice (some ⟨H.length, 0, some 0⟩) 0 (size + 1), rD H elem [], ?_, h _ _ (hS.add ?_ ?_ ?_ ?_)⟩
 ·unfold xQ
  simp only [he, hsz2, hz2, dc]
  rw [if_pos (by simp)]
 ·rw [lI]
  unfold OwnAt
  rw [if_neg (eP _)]
  exact .inr ⟨_, 0, elem, _, 0, [], 0, iM H _, by simp, rfl, by simp, by simp, hsz2⟩
 ·rw [lI]; simp [oY]
 ·rw [lI]; exact fun B hB => jN _ hB
 ·intro B hB
  simp [kK] at hB
  omega
theorem c4G (i : Nat) (hi : i < 64) : IntKind.wrap .u64 (1 * 2 ^ min i (IntKind.bits .u64)) = ((2 ^ i : Nat) : Int) := by
 have e : IntKind.bits .u64 = 64 := rfl
 rw [e, fW (by omega), Int.one_mul]
 have h1 : ((2 ^ i : Nat) : Int) = 2 ^ i := by simp
 rw [← h1]
 have h2 : 2 ^ i ≤ 2 ^ 63 := fM (by decide) (by omega)
 have h5 : ((2 ^ i : Nat) : Int) ≤ ((2 ^ 63 : Nat) : Int) := Int.ofNat_le.2 h2
 exact pJ _ (Int.natCast_nonneg _) (Int.lt_of_le_of_lt h5 (by decide))
end Go.Ds
namespace Go.Ds
open Go.Proofs Go.Proofs.Tryz
variable {H : Heap}
set_option maxRecDepth 10000
set_option maxHeartbeats 1000000
theorem wP {α : Type} [Inhabited α] {xs ys : List α} (hl : xs.length = ys.length) (h : ∀ j, j < xs.length → iB xs j = iB ys j) : xs = ys := by
 apply List.ext_getElem hl
 intro j h1 h2
 have := h j h1
 rwa [kF xs j h1, kF ys j h2] at this
theorem b4A (v w : Value) (xs ys : List Ct) (hv : Sl 2 kA H v xs) (hw : Sl 2 kA H w ys) (hl : xs.length < 1000000000) (hl2 : ys.length < 1000000000) :
 Fn prog 27 [v, w] H fun r H' => r = .bool (decide (xs = ys)) ∧ St prog H H' [] := by
 refine .aM func27 rfl (by kernel_rfl) (m := 26) rfl fun l hn g0 g1 => ?_
 simp (disch := omega) only [↓RA, RZ, simprocAttr, hn, g0, g1, ((sR H).sl hv).len, ((sR H).sl hw).len]
 refine iA (fun h1 => ?_) (fun h1 => ?_)
 ·simp (disch := omega) only [↓RA, RZ, simprocAttr, hn, c1w, h1]
  exact ⟨by rw [decide_eq_false]; intro e; rw [e] at h1; exact h1 rfl, (sR H)⟩
 simp (disch := omega) only [↓RA, RZ, simprocAttr, hn, g0, ((sR H).sl hv).len, h1]
 refine Wp.al (fun n l H' => l.length = 26 ∧ get l 0 = v ∧ get l 1 = w ∧ get l 12 = I xs.length ∧ ∃ (j : Nat), (n + j = xs.length ∧ ∀ q, q < j → iB xs q = iB ys q) ∧ get l 13 = I j ∧ St prog H H' []) xs.length ?_ ?_
 ·simp (disch := omega) only [RB, RC, simprocAttr, hn, g0, g1]
  exact ⟨0, ⟨by omega, fun q hq => absurd hq (dS _)⟩, rfl, (sR H)⟩
 rintro n l H1 ⟨hn, g0, g1, g12, j, ⟨hj,hz⟩, g13, hS1⟩
 simp (disch := omega) only [↓RA, RB, simprocAttr, hn, g12, g13]
 refine iA (fun q1 => ?_) (fun q1 => ?_)
 ·simp (disch := omega) only [↓RA, RZ, simprocAttr, hn, g13, q1]
  refine Wp.drw jV (by kernel_rfl) ?_
  simp (disch := omega) only [↓RA, RZ, simprocAttr, hn, g0, g1, (hS1.sl hv).idx, (hS1.sl hv).ai, kA, (hS1.sl hw).idx, (hS1.sl hw).ai]
  refine iA (fun q2 => ?_) (fun q2 => ?_)
  ·simp (disch := omega) only [↓RA, RZ, simprocAttr, hn, c1w, q2]
   refine ⟨?_, hS1⟩
   rw [decide_eq_false]
   intro e
   rw [e] at q2
   exact q2 ⟨rfl, rfl⟩
  have q3 := dD.1 q2
  simp (disch := omega) only [↓RA, RZ, simprocAttr, hn, g0, g1, g12, g13, q2]
  exact ⟨n - 1, by omega, j + 1, ⟨by omega, fun q hq => by rcases dB.1 hq with e | e; (· exact hz q e); (· rw [e]; exact gz q3.1 q3.2)⟩, by simp, hS1⟩
 simp (disch := omega) only [↓RA, RZ, simprocAttr, hn, c1w, q1]
 exact ⟨by rw [decide_eq_true]; exact wP (by omega) fun q hq => hz q (by omega), hS1⟩
def Pv.In (H : Heap) (p : Pv) : Prop := Sl 2 kA H p.v p.l
end Go.Ds
namespace Go.Ds
open Go.Proofs
variable {H : Heap}
set_option maxRecDepth 10000
set_option maxHeartbeats 1000000
end Go.Ds
