/-
  A part of the proof of SoundErrors.
-/
import Derived.Test.YtmhekfhdnednjaaGreatDoorVC
import Derived.Test.YtmhekfhdnednjaaGreatDoorVB
import Derived.Shelf.SlSortCmp.NoneTotal
import Derived.Shelf.SlGeneric
import Derived.Shelf.SlLaysF0
import Derived.Test.YtmhekfhdnednjaaGreatDoorProg
set_option linter.unusedVariables false
set_option linter.unusedSimpArgs false
set_option linter.defProp false
set_option linter.unusedSectionVars false
namespace Go.Ds
open Go.Proofs
variable {P : Program} {H : Heap}
structure Drw where
 rank : Int
 shift : Int
 deriving DecidableEq, Inhabited
structure Seg where
 lo : Int
 hi : Int
 dv : Value
 draws : List Drw
 deriving Inhabited
structure Stp where
 name : ByteArray
 num : Int
 den : Int
 gv : Value
 segs : List Seg
 deriving Inhabited
structure Dvn where
 name : ByteArray
 pedal : Bool
 lo : Int
 hi : Int
 sv : Value
 stops : List Stp
 deriving Inhabited
structure Rk where
 name : ByteArray
 tone : ByteArray
 num : Int
 den : Int
 first : Int
 wv : Value
 wind : List Int
 deriving Inhabited
structure Cpl where
 name : ByteArray
 src : Int
 dst : Int
 shift : Int
 thr : Bool
 deriving Inhabited
structure Org where
 name : ByteArray
 rv : Value
 ranks : List Rk
 dv : Value
 dvs : List Dvn
 cv : Value
 cpls : List Cpl
 deriving Inhabited
def Drw.cells (d : Drw) : List Value := [I d.rank, I d.shift]
def Seg.cells (s : Seg) : List Value := [I s.lo, I s.hi, s.dv]
def Stp.cells (s : Stp) : List Value := [.string s.name, I s.num, I s.den, s.gv]
def Dvn.cells (d : Dvn) : List Value := [.string d.name, .bool d.pedal, I d.lo, I d.hi, d.sv]
def Rk.cells (r : Rk) : List Value := [.string r.name, .string r.tone, I r.num, I r.den, I r.first, r.wv]
def Cpl.cells (c : Cpl) : List Value := [.string c.name, I c.src, I c.dst, I c.shift, .bool c.thr]
def Org.cells (o : Org) : List Value := [.string o.name, o.rv, o.dv, o.cv]
def Seg.In (H : Heap) (s : Seg) : Prop := Sl 2 Drw.cells H s.dv s.draws ∧ s.draws.length < 1000000000
def Stp.In (H : Heap) (s : Stp) : Prop := Sl 3 Seg.cells H s.gv s.segs ∧ (∀ g ∈ s.segs, g.In H) ∧ s.segs.length < 1000000000
def Dvn.In (H : Heap) (d : Dvn) : Prop := Sl 4 Stp.cells H d.sv d.stops ∧ (∀ s ∈ d.stops, s.In H) ∧ d.stops.length < 1000000000
def Rk.In (H : Heap) (r : Rk) : Prop := Sl 1 (one I) H r.wv r.wind ∧ r.wind.length < 1000000000
def Org.In (H : Heap) (o : Org) : Prop := Sl 6 Rk.cells H o.rv o.ranks ∧ (∀ r ∈ o.ranks, r.In H) ∧ Sl 5 Dvn.cells H o.dv o.dvs ∧ (∀ d ∈ o.dvs, d.In H) ∧ Sl 5 Cpl.cells H o.cv o.cpls ∧ o.ranks.length < 1000000000 ∧ o.dvs.length < 1000000000 ∧ o.cpls.length < 1000000000
section
variable {H0 : Heap} {os : List Ob}
theorem Seg.In.ae {s : Seg} (h : s.In H0) (hS : St P H0 H os) : s.In H := ⟨hS.sl h.1, h.2⟩
theorem Stp.In.ae {s : Stp} (h : s.In H0) (hS : St P H0 H os) : s.In H := ⟨hS.sl h.1, fun g hg => (h.2.1 g hg).ae hS, h.2.2⟩
theorem Dvn.In.ae {d : Dvn} (h : d.In H0) (hS : St P H0 H os) : d.In H := ⟨hS.sl h.1, fun g hg => (h.2.1 g hg).ae hS, h.2.2⟩
theorem Rk.In.ae {r : Rk} (h : r.In H0) (hS : St P H0 H os) : r.In H := ⟨hS.sl h.1, h.2⟩
theorem Org.In.ae {o : Org} (h : o.In H0) (hS : St P H0 H os) : o.In H := ⟨hS.sl h.1, fun r hr => (h.2.1 r hr).ae hS, hS.sl h.2.2.1, fun d hd => (h.2.2.2.1 d hd).ae hS, hS.sl h.2.2.2.2.1, h.2.2.2.2.2⟩
end
def c5g (n : Int) : Prop := -9223372036854775808 ≤ n ∧ n < 9223372036854775808
end Go.Ds
namespace Go.Ds
open Go.Proofs Go.Proofs.Tryz
variable {H : Heap}
def pS (b : Int) : Bool := (decide (65 ≤ b) && decide (b ≤ 90)) || (decide (97 ≤ b) && decide (b ≤ 122))
theorem a4n (b : Int) : Fn prog 104 [.int .u8 b] H fun r H' => r = .bool (pS b) ∧ St prog H H' [] := by
 refine .aW func104 rfl (by kernel_rfl) (m := 17) rfl fun l hn g0 => ?_
 simp (disch := omega) only [↓RA, RZ, simprocAttr, hn, g0]
 refine jP (fun h1 => ?_) (fun h1 => ?_)
 ·simp (disch := omega) only [↓RA, RZ, simprocAttr, hn, g0, h1]
  refine iN (fun h2 => ?_) (fun h2 => ?_)
  ·simp (disch := omega) only [↓RA, RZ, simprocAttr, hn, a8k, h1, h2]
   first | exact (sR H) | exact ⟨by simp [pS, h1, h2], (sR H)⟩
  simp (disch := omega) only [↓RA, RZ, simprocAttr, hn, g0, h1, h2]
  refine jP (fun h3 => ?_) (fun h3 => ?_)
  ·simp (disch := omega) only [↓RA, RZ, simprocAttr, hn, g0, a8k, h1, h2, h3]
   first | exact (sR H) | exact ⟨by simp [pS, h1, h2, h3], (sR H)⟩
  simp (disch := omega) only [↓RA, RZ, simprocAttr, hn, a8k, h1, h2, h3]
  first | exact (sR H) | exact ⟨by simp [pS, h1, h2, h3], (sR H)⟩
 simp (disch := omega) only [↓RA, RZ, simprocAttr, hn, g0, h1]
 refine jP (fun h4 => ?_) (fun h4 => ?_)
 ·simp (disch := omega) only [↓RA, RZ, simprocAttr, hn, g0, a8k, h1, h4]
  first | exact (sR H) | exact ⟨by simp [pS, h1, h4], (sR H)⟩
 simp (disch := omega) only [↓RA, RZ, simprocAttr, hn, a8k, h1, h4]
 first | exact (sR H) | exact ⟨by simp [pS, h1, h4], (sR H)⟩
theorem b4J (b : Int) : Fn prog 106 [I b] H fun r H' => r = .bool (decide (-256 ≤ b) && decide (b ≤ 256)) ∧ St prog H H' [] := by
 refine .aW func106 rfl (by kernel_rfl) (m := 9) rfl fun l hn g0 => ?_
 simp (disch := omega) only [↓RA, RZ, simprocAttr, hn, g0]
 refine jP (fun h1 => ?_) (fun h1 => ?_)
 ·simp (disch := omega) only [↓RA, RZ, simprocAttr, hn, g0, c0z, h1]
  first | exact (sR H) | exact ⟨by simp [h1], (sR H)⟩
 simp (disch := omega) only [↓RA, RZ, simprocAttr, hn, c0z, h1]
 first | exact (sR H) | exact ⟨by simp [], (sR H)⟩
theorem b5W (b : Int) : Fn prog 144 [I b] H fun r H' => r = .bool (decide (b < 0) || decide (1000000 < b)) ∧ St prog H H' [] := by
 refine .aW func144 rfl (by kernel_rfl) (m := 9) rfl fun l hn g0 => ?_
 simp (disch := omega) only [↓RA, RZ, simprocAttr, hn, g0]
 refine iN (fun h1 => ?_) (fun h1 => ?_)
 ·simp (disch := omega) only [↓RA, RZ, simprocAttr, hn, c0m, h1]
  first | exact (sR H) | exact ⟨by simp [], (sR H)⟩
 simp (disch := omega) only [↓RA, RZ, simprocAttr, hn, g0, c0m, h1]
 first | exact (sR H) | exact ⟨by simp [], (sR H)⟩
theorem a4A (n : Int) (h : -9223372036854775808 ≤ n) (h0 : n < 0) : IntKind.wrap .u64 (0 - IntKind.wrap .u64 n) = n.natAbs := by
 have e : ∀ m : Int, IntKind.wrap .u64 m = m % 18446744073709551616 := fun m => by
  show (if (false && decide (m % 18446744073709551616 ≥ 9223372036854775808)) = true then m % 18446744073709551616 - 18446744073709551616 else m % 18446744073709551616) = _
  simp
 rw [e, e]
 omega
theorem a5p (n : Int) (hn0 : c5g n) : Fn prog 191 [I n] H fun r H' => r = .int .u64 n.natAbs ∧ St prog H H' [] := by
 refine .aW func191 rfl (by kernel_rfl) (m := 10) rfl fun l hn g0 => ?_
 simp (disch := omega) only [↓RA, RB, simprocAttr, hn, g0]
 refine iA (fun h => ?_) (fun h => ?_)
 ·simp (disch := omega) only [↓RA, RZ, simprocAttr, hn, g0, c0N, h]
  exact ⟨by rw [a4A n hn0.1 h], (sR H)⟩
 simp (disch := omega) only [↓RA, RZ, simprocAttr, hn, g0, c0N, h]
 refine ⟨?_, (sR H)⟩
 have := hn0.2
 rw [pJ n (by omega) (by omega)]
 congr 1
 omega
theorem c1c (a b : Nat) (ha : a < 18446744073709551616) (hb : b < 18446744073709551616) : Fn prog 190 [.int .u64 a, .int .u64 b] H fun r H' => r = .int .u64 (Nat.gcd a b) ∧ St prog H H' [] := by
 refine .aM func190 rfl (by kernel_rfl) (m := 12) rfl fun l hn g0 g1 => ?_
 simp (disch := omega) only [↓RA, RB, simprocAttr]
 refine Wp.al (fun n l H' => l.length = 12 ∧ get l 4 = (.int .u64 0) ∧ ∃ (x y : Nat), (n = y ∧ x < 18446744073709551616 ∧ y < 18446744073709551616 ∧ Nat.gcd a b = Nat.gcd x y) ∧ get l 0 = (.int .u64 x) ∧ get l 1 = (.int .u64 y) ∧ St prog H H' []) b ?_ ?_
 ·simp (disch := omega) only [RB, RC, simprocAttr, hn, g0, g1]
  exact ⟨a, b, ⟨rfl, ha, hb, rfl⟩, rfl, rfl, (sR H)⟩
 rintro n l H1 ⟨hn, g4, x, y, ⟨hy,hx1,hy1,hg⟩, g0, g1, hS1⟩
 simp (disch := omega) only [↓RA, RB, simprocAttr, hn, g1]
 refine iA (fun h => ?_) (fun h => ?_)
 ·simp (disch := omega) only [↓RA, RC, simprocAttr, h]
  refine Wp.drw jV (by kernel_rfl) ?_
  simp (disch := omega) only [↓RA, RZ, simprocAttr, hn, g4, g0, g1]
  refine ⟨x % y, ?_, y, x % y, ⟨rfl, hy1, ?_, ?_⟩, rfl, ?_, hS1⟩
  ·rw [hy]; exact eI _ (by omega)
  ·exact dQ (eI _ (by omega)) (by omega)
  ·rw [hg, Nat.gcd_comm x y, Nat.gcd_rec]
   exact Nat.gcd_comm _ _
  ·rw [dU]
 simp (disch := omega) only [↓RA, RZ, simprocAttr, hn, g0, c3Y, h]
 have h0 : y = 0 := by omega
 subst h0
 exact ⟨by rw [hg, Nat.gcd_zero_right], hS1⟩
theorem b8K (a b : Int) (ha0 : 0 ≤ a) (ha : a < 18446744073709551616) (hb0 : 0 ≤ b) (hb : b < 18446744073709551616) : Fn prog 190 [.int .u64 a, .int .u64 b] H fun r H' => r = .int .u64 (Nat.gcd a.toNat b.toNat) ∧ St prog H H' [] := by
 have := c1c (H := H) a.toNat b.toNat (by omega) (by omega)
 rwa [fg ha0, fg hb0] at this
def vF (num den : Int) : Int := if 0 < den ∧ den ≤ 1000000 ∧ -1000000 ≤ num ∧ num ≤ 1000000 ∧ Nat.gcd num.natAbs den.toNat = 1 then 0 else 2
theorem b9B (num den : Int) : Fn prog 142 [.agg #[I num, I den]] H fun r H' => r = I (vF num den) ∧ St prog H H' [] := by
 refine .aW func142 rfl (by kernel_rfl) (m := 31) rfl fun l hn g0 => ?_
 simp (disch := omega) only [↓RA, RB, simprocAttr, g0]
 refine (sR H).eNew 2 [I num, I den] rfl rfl rfl zY fun A1 H1 hS1 => ?_
 simp only [RT] at hS1
 simp (disch := omega) only [↓RA, RB, simprocAttr]
 refine Wp.aQ jV [(23, 0), (24, 0)] (by kernel_rfl) (by kernel_rfl) ?_
 simp (disch := omega) only [↓RA, RZ, simprocAttr, hn, hS1.ld 0 rfl]
 refine iN (fun h1 => ?_) (fun h1 => ?_)
 ·simp (disch := omega) only [↓RA, RZ, simprocAttr, hn, a4v, h1]
  refine ⟨?_, hS1.forget⟩; unfold vF; (repeat' split); all_goals first | rfl | omega
 simp (disch := omega) only [↓RA, RZ, simprocAttr, hn, hS1.ld 0 rfl, h1]
 refine iN (fun h2 => ?_) (fun h2 => ?_)
 ·simp (disch := omega) only [↓RA, RZ, simprocAttr, hn, a4v, h1, h2]
  refine ⟨?_, hS1.forget⟩; unfold vF; (repeat' split); all_goals first | rfl | omega
 simp (disch := omega) only [↓RA, RZ, simprocAttr, hn, hS1.ld 0 rfl, h1, h2]
 refine iN (fun h3 => ?_) (fun h3 => ?_)
 ·simp (disch := omega) only [↓RA, RZ, simprocAttr, hn, a4v, h1, h2, h3]
  refine ⟨?_, hS1.forget⟩; unfold vF; (repeat' split); all_goals first | rfl | omega
 simp (disch := omega) only [↓RA, RZ, simprocAttr, hn, hS1.ld 0 rfl, h1, h2, h3]
 refine iN (fun h4 => ?_) (fun h4 => ?_)
 ·simp (disch := omega) only [↓RA, RZ, simprocAttr, hn, a4v, h1, h2, h3, h4]
  refine ⟨?_, hS1.forget⟩; unfold vF; (repeat' split); all_goals first | rfl | omega
 simp (disch := omega) only [↓RA, RZ, simprocAttr, hn, hS1.ld 0 rfl, h1, h2, h3, h4]
 refine hS1.cF (a5p num ⟨by omega, by omega⟩) fun H2 hS2 => ?_
 simp (disch := omega) only [↓RA, RZ, simprocAttr, hn, hS2.ld 0 rfl, h1, h2, h3, h4]
 refine hS2.cF (b8K _ _ (by omega) (by omega) (by omega) (by omega)) fun H3 hS3 => ?_
 simp (disch := omega) only [↓RA, RZ, simprocAttr, hn, hS1.ld 0 rfl, h1, h2, h3, h4]
 refine iA (fun h5 => ?_) (fun h5 => ?_)
 ·simp (disch := omega) only [↓RA, RZ, simprocAttr, hn, a4v, h1, h2, h3, h4, h5]
  refine ⟨?_, hS3.forget⟩; unfold vF; (repeat' split); all_goals first | rfl | omega
 simp (disch := omega) only [↓RA, RZ, simprocAttr, hn, a4v, h1, h2, h3, h4, h5]
 refine ⟨?_, hS3.forget⟩; unfold vF; (repeat' split); all_goals first | rfl | omega
def mP (num den : Int) : Int := if vF num den ≠ 0 then 2 else if num ≤ 0 ∨ 128 * den < num then 3 else if 128 < den then 4 else 0
theorem b4C {num den : Int} (h : vF num den = 0) : 0 < den ∧ den ≤ 1000000 ∧ -1000000 ≤ num ∧ num ≤ 1000000 ∧ Nat.gcd num.natAbs den.toNat = 1 := by
 unfold vF at h
 split at h
 ·assumption
 ·cases h
theorem a1d (num den : Int) : Fn prog 105 [.agg #[I num, I den]] H fun r H' => r = I (mP num den) ∧ St prog H H' [] := by
 refine .aW func105 rfl (by kernel_rfl) (m := 23) rfl fun l hn g0 => ?_
 simp (disch := omega) only [↓RA, RB, simprocAttr, g0]
 refine (sR H).eNew 2 [I num, I den] rfl rfl rfl zY fun A1 H1 hS1 => ?_
 simp only [RT] at hS1
 simp (disch := omega) only [↓RA, RZ, simprocAttr, hn, hS1.ai 0 rfl]
 refine hS1.cF (b9B num den) fun H2 hS2 => ?_
 simp (disch := omega) only [↓RA, RB, simprocAttr, hn]
 refine iA (fun h => ?_) (fun h => ?_)
 ·simp (disch := omega) only [↓RA, RZ, simprocAttr, hn, a7e, h]
  exact ⟨by rw [mP, if_pos h], hS2.forget⟩
 have hf := b4C (dD.1 h)
 simp (disch := omega) only [↓RA, RZ, simprocAttr, hn, hS2.ld 0 rfl, h]
 refine iN (fun h1 => ?_) (fun h1 => ?_)
 ·simp (disch := omega) only [↓RA, RZ, simprocAttr, hn, a7e, h, h1]
  refine ⟨?_, hS2.forget⟩; unfold mP; (repeat' split); all_goals first | rfl | omega
 simp (disch := omega) only [↓RA, RZ, simprocAttr, hn, hS2.ld 0 rfl, h, h1]
 refine iA (fun h2 => ?_) (fun h2 => ?_)
 ·simp (disch := omega) only [↓RA, RZ, simprocAttr, hn, a7e, h, h1, h2]
  refine ⟨?_, hS2.forget⟩; unfold mP; (repeat' split); all_goals first | rfl | omega
 simp (disch := omega) only [↓RA, RZ, simprocAttr, hn, hS2.ld 0 rfl, h, h1, h2]
 refine iA (fun h3 => ?_) (fun h3 => ?_)
 ·simp (disch := omega) only [↓RA, RZ, simprocAttr, hn, a7e, h, h1, h2, h3]
  refine ⟨?_, hS2.forget⟩; unfold mP; (repeat' split); all_goals first | rfl | omega
 simp (disch := omega) only [↓RA, RZ, simprocAttr, hn, a7e, h, h1, h2, h3]
 refine ⟨?_, hS2.forget⟩; unfold mP; (repeat' split); all_goals first | rfl | omega
def rE (p : Nat → Bool) (n : Nat) : Int := match (List.range n).find? p with | some j => j | none => -1
theorem vE (p : Nat → Bool) (n i : Nat) (hi : i < n) (hp : p i = true) (h0 : ∀ j, j < i → p j = false) : (List.range n).find? p = some i := by
 rw [List.find?_eq_some_iff_getElem]
 refine ⟨hp, i, by simpa using hi, by simp, fun j hj => by simp [h0 j hj]⟩
theorem a1l (p : Nat → Bool) (n i : Nat) (hi : i < n) (hp : p i = true) (h0 : ∀ j, j < i → p j = false) : rE p n = i := by
 unfold rE
 rw [vE p n i hi hp h0]
theorem a1n (p : Nat → Bool) (n : Nat) (h0 : ∀ j, j < n → p j = false) : rE p n = -1 := by
 unfold rE
 have : (List.range n).find? p = none := by
  rw [gn]
  intro j hj
  simp [h0 j (dH.1 hj)]
 rw [this]
theorem a4I (p : Nat → Bool) (n : Nat) : (0 ≤ rE p n) ↔ ∃ j, j < n ∧ p j = true := by
 unfold rE
 cases h : (List.range n).find? p with
 | none =>
   rw [gn] at h
   simp only [dH] at h
   constructor
   ·intro hh; exact absurd hh (by decide)
   ·rintro ⟨j, hj, hp⟩; exact absurd hp (h j hj)
 | some j =>
   constructor
   ·intro _
    exact ⟨j, dH.1 (gJ h), List.find?_some h⟩
   ·intro _; show (0 : Int) ≤ (j : Int); omega
theorem b8l (v : Value) (xs : List Int) (hv : Sl 1 (one I) H v xs) (hl : xs.length < 1000000000) (k : FuncId) (caps : List Value) (p : Nat → Bool)
 (hf : ∀ j H1, j < xs.length → St prog H H1 [] → Fn prog k (I (iB xs j) :: caps) H1 fun r H2 => r = .bool (p j) ∧ St prog H1 H2 []) :
 Fn prog 192 [v, .func (.func k) #[] caps.toArray] H fun r H' => r = I (rE p xs.length) ∧ St prog H H' [] := by
 refine .aM func192 rfl (by kernel_rfl) (m := 19) rfl fun l hn g0 g1 => ?_
 simp (disch := omega) only [↓RA, RZ, simprocAttr, hn, g0, ((sR H).sl hv).len]
 refine Wp.al (fun n l H' => l.length = 19 ∧ get l 0 = v ∧ get l 1 = .func (.func k) #[] caps.toArray ∧ get l 7 = I xs.length ∧ ∃ (j : Nat), (n + j = xs.length ∧ ∀ q, q < j → p q = false) ∧ get l 8 = I j ∧ St prog H H' []) xs.length ?_ ?_
 ·simp (disch := omega) only [RB, RC, simprocAttr, hn, g0, g1]
  exact ⟨0, ⟨by omega, fun q hq => absurd hq (dS _)⟩, rfl, (sR H)⟩
 rintro n l H1 ⟨hn, g0, g1, g7, j, ⟨hi,h0⟩, g8, hS1⟩
 simp (disch := omega) only [↓RA, RB, simprocAttr, hn, g7, g8]
 refine iA (fun h => ?_) (fun h => ?_)
 ·simp (disch := omega) only [↓RA, RZ, simprocAttr, hn, g0, g1, g8, (hS1.sl hv).idx, (hS1.sl hv).ld, one, h]
  refine hS1.cF (hf j _ (by omega) hS1) fun H2 hS2 => ?_
  simp (disch := omega) only [↓RA, RZ, simprocAttr, hn, h]
  refine jM (fun hp => ?_) (fun hp => ?_)
  ·simp (disch := omega) only [↓RA, RZ, simprocAttr, hn, c0M, h, hp]
   exact ⟨by rw [a1l p xs.length j (by omega) hp h0], hS2⟩
  simp (disch := omega) only [↓RA, RZ, simprocAttr, hn, g0, g1, g7, g8, h, hp]
  exact ⟨n - 1, by omega, j + 1, ⟨by omega, fun q hq => by rcases dB.1 hq with e | e; (· exact h0 q e); (· rw [e]; exact hp)⟩, by simp, hS2⟩
 simp (disch := omega) only [↓RA, RZ, simprocAttr, hn, c0M, h]
 exact ⟨by rw [a1n p xs.length fun q hq => h0 q (by omega)], hS1⟩
theorem b8L (v : Value) (xs : List Int) (hv : Sl 1 (one I) H v xs) (hl : xs.length < 1000000000) (k : FuncId) (caps : List Value) (p : Nat → Bool)
 (hf : ∀ j H1, j < xs.length → St prog H H1 [] → Fn prog k (I (iB xs j) :: caps) H1 fun r H2 => r = .bool (p j) ∧ St prog H1 H2 []) :
 Fn prog 143 [v, .func (.func k) #[] caps.toArray] H fun r H' => r = .bool (decide (0 ≤ rE p xs.length)) ∧ St prog H H' [] := by
 refine .aM func143 rfl (by kernel_rfl) (m := 9) rfl fun l hn g0 g1 => ?_
 simp (disch := omega) only [↓RA, RZ, simprocAttr, hn, g0, g1]
 refine (sR H).cF (b8l v xs hv hl k caps p hf) fun H1 hS1 => ?_
 simp (disch := omega) only [↓RA, RZ, simprocAttr, hn, c5t]
 first | exact hS1 | exact ⟨rfl, hS1⟩
def a0p (xs : List Int) : Int := if xs.any fun w => decide (w < 0) || decide (1000000 < w) then 3 else 0
theorem b5e (v : Value) (xs : List Int) (hv : Sl 1 (one I) H v xs) (hl : xs.length < 1000000000) : Fn prog 107 [v] H fun r H' => r = I (a0p xs) ∧ St prog H H' [] := by
 have key : (0 ≤ rE (fun j => decide (iB xs j < 0) || decide (1000000 < iB xs j)) xs.length) ↔ (xs.any fun w => decide (w < 0) || decide (1000000 < w)) = true := by
  rw [a4I, gD]
  constructor
  ·rintro ⟨j, hj, hp⟩; exact ⟨_, iD hj, hp⟩
  ·rintro ⟨x, hx, hp⟩
   obtain ⟨j, hj, rfl⟩ := dW.1 hx
   exact ⟨j, hj, by rw [kF xs j hj]; exact hp⟩
 refine .aW func107 rfl (by kernel_rfl) (m := 5) rfl fun l hn g0 => ?_
 simp (disch := omega) only [↓RA, RZ, simprocAttr, hn, g0]
 refine (sR H).cF (b8L v xs hv hl 144 [] _ (fun j H1 hj hS => b5W (iB xs j))) fun H1 hS1 => ?_
 simp (disch := omega) only [↓RA, RB, simprocAttr, hn]
 refine iA (fun h => ?_) (fun h => ?_)
 ·simp (disch := omega) only [↓RA, RZ, simprocAttr, hn, c0x, h]
  exact ⟨by rw [a0p, if_pos (key.1 h)], hS1⟩
 simp (disch := omega) only [↓RA, RZ, simprocAttr, hn, c0x, h]
 exact ⟨by rw [a0p, if_neg (fun hh => h (key.2 hh))], hS1⟩
def ncF (b : Int) : Bool := pS b || (decide (48 ≤ b) && decide (b ≤ 57)) || decide (b = 95)
def kX (s : ByteArray) : Bool := decide (0 < s.size) && decide (s.size ≤ 32) && pS (oD s 0) && (List.range (s.size - 1)).all fun j => ncF (oD s (j + 1))
theorem c4C (s z : ByteArray) (hz : z.size = 0) : s = z ↔ s.size = 0 := ⟨fun h => by rw [h, hz], fun h => by
 apply a0H
 have h1 : s.data.toList = [] := fh (by simpa using h)
 have h2 : z.data.toList = [] := fh (by simpa using hz)
 rw [h1, h2]⟩
theorem pX (s : ByteArray) : Fn prog 55 [.string s] H fun r H' => r = .bool (kX s) ∧ St prog H H' [] := by
 have hz := c4C s { data := #[] } rfl
 refine .aW func55 rfl (by kernel_rfl) (m := 42) rfl fun l hn g0 => ?_
 simp (disch := omega) only [↓RA, RZ, simprocAttr, hn, g0, hz]
 refine iN (fun h1 => ?_) (fun h1 => ?_)
 ·simp (disch := omega) only [↓RA, RZ, simprocAttr, hn, b2H, h1]
  first | exact (sR H) | exact ⟨by simp [kX, h1], (sR H)⟩
 simp (disch := omega) only [↓RA, RZ, simprocAttr, hn, g0, h1]
 refine iN (fun h2 => ?_) (fun h2 => ?_)
 ·simp (disch := omega) only [↓RA, RZ, simprocAttr, hn, b2H, h1, h2]
  first | exact (sR H) | exact ⟨by simp [kX, show ¬ s.size ≤ 32 by omega], (sR H)⟩
 simp (disch := omega) only [↓RA, RZ, simprocAttr, hn, g0, h1, h2]
 refine (sR H).cF (a4n _) fun H1 hS1 => ?_
 simp (disch := omega) only [↓RA, RZ, simprocAttr, hn, h1, h2]
 refine jM (fun h3 => ?_) (fun h3 => ?_)
 ·simp (disch := omega) only [↓RA, RZ, simprocAttr, hn, b2H, h1, h2, h3]
  first | exact hS1 | exact ⟨by simp at h3; simp [kX, h3], hS1⟩
 simp (disch := omega) only [↓RA, RZ, simprocAttr, h1, h2, h3]
 have h4 : pS (oD s 0) = true := by simpa using h3
 have hA : kX s = (List.range (s.size - 1)).all fun j => ncF (oD s (j + 1)) := by simp [kX, h4, show 0 < s.size by omega, show s.size ≤ 32 by omega]
 refine Wp.al (fun n l H' => l.length = 42 ∧ get l 0 = (.string s) ∧ ∃ (i : Nat), (n + i = s.size ∧ 1 ≤ i ∧ ∀ j, 1 ≤ j → j < i → ncF (oD s j) = true) ∧ get l 3 = I i ∧ St prog H H' []) (s.size - 1) ?_ ?_
 ·simp (disch := omega) only [RB, RC, simprocAttr, hn, g0]
  exact ⟨1, ⟨by omega, by omega, fun j h1 h2 => by omega⟩, rfl, hS1⟩
 rintro n l H2 ⟨hn, g0, i, ⟨hi,hi1,h0⟩, g3, hS2⟩
 simp (disch := omega) only [↓RA, RZ, simprocAttr, hn, g0, g3]
 refine iA (fun h5 => ?_) (fun h5 => ?_)
 ·simp (disch := omega) only [↓RA, RZ, simprocAttr, hn, g0, g3, h5]
  refine hS2.cF (a4n _) fun H3 hS3 => ?_
  have hF : ncF (oD s i) = false → kX s = false := fun hh => by
   rw [hA, List.all_eq_false]
   exact ⟨i - 1, dH.2 (by omega), by rw [show i - 1 + 1 = i by omega, hh]; simp⟩
  have hT : ncF (oD s i) = true → ∀ j, 1 ≤ j → j < i + 1 → ncF (oD s j) = true := fun hh j h1 h2 => by
   by_cases e : j = i
   ·rw [e]; exact hh
   ·exact h0 j h1 (by omega)
  simp (disch := omega) only [↓RA, RZ, simprocAttr, hn, h5]
  refine a4s (fun h1 => ?_) (fun h1 => ?_)
  ·simp (disch := omega) only [↓RA, RZ, simprocAttr, hn, h5, h1]
   refine iN (fun h2 => ?_) (fun h2 => ?_)
   ·simp (disch := omega) only [↓RA, RZ, simprocAttr, hn, h5, h1, h2]
    refine iA (fun h3 => ?_) (fun h3 => ?_)
    ·simp (disch := omega) only [↓RA, RZ, simprocAttr, hn, b2H, h5, h1, h2, h3]
     exact ⟨by rw [hF (by simp_all [ncF] <;> omega)], hS3⟩
    simp (disch := omega) only [↓RA, RZ, simprocAttr, hn, g0, g3, h5, h1, h2, h3]
    exact ⟨n - 1, by omega, i + 1, ⟨by omega, by omega, hT (by simp_all [ncF] <;> omega)⟩, by simp, hS3⟩
   simp (disch := omega) only [↓RA, RZ, simprocAttr, hn, h5, h1, h2]
   refine jP (fun h4 => ?_) (fun h4 => ?_)
   ·simp (disch := omega) only [↓RA, RZ, simprocAttr, hn, h5, h1, h2, h4]
    refine iA (fun h5 => ?_) (fun h5 => ?_)
    ·simp (disch := omega) only [↓RA, RZ, simprocAttr, hn, b2H, h1, h2, h4, h5]
     exact ⟨by rw [hF (by simp_all [ncF] <;> omega)], hS3⟩
    simp (disch := omega) only [↓RA, RZ, simprocAttr, hn, g0, g3, h1, h2, h4, h5]
    exact ⟨n - 1, by omega, i + 1, ⟨by omega, by omega, hT (by simp_all [ncF] <;> omega)⟩, by simp, hS3⟩
   simp (disch := omega) only [↓RA, RZ, simprocAttr, hn, g0, g3, h5, h1, h2, h4]
   exact ⟨n - 1, by omega, i + 1, ⟨by omega, by omega, hT (by simp_all [ncF] <;> omega)⟩, by simp, hS3⟩
  simp (disch := omega) only [↓RA, RZ, simprocAttr, hn, g0, g3, h5, h1]
  exact ⟨n - 1, by omega, i + 1, ⟨by omega, by omega, hT (by simp_all [ncF] <;> omega)⟩, by simp, hS3⟩
 simp (disch := omega) only [↓RA, RZ, simprocAttr, hn, b2H, h5]
 refine ⟨?_, hS2⟩
 rw [hA]
 congr 1
 symm
 rw [dy]
 intro j hj
 exact h0 (j + 1) (by omega) (by have := dH.1 hj; omega)
def rankE (r : Rk) : Int := if kX r.name = false ∨ kX r.tone = false then 8 else if mP r.num r.den ≠ 0 then mP r.num r.den else if ¬ (-256 ≤ r.first ∧ r.first ≤ 256) then 3 else if r.wind.length = 0 then 13 else if 128 < r.wind.length then 4 else a0p r.wind
theorem b1l (r : Rk) (hr : r.In H) : Fn prog 56 [.agg #[.string r.name, .string r.tone, I r.num, I r.den, I r.first, r.wv]] H fun v H' => v = I (rankE r) ∧ St prog H H' [] := by
 have hl := hr.2
 refine .aW func56 rfl (by kernel_rfl) (m := 38) rfl fun l hn g0 => ?_
 simp (disch := omega) only [↓RA, RB, simprocAttr, g0]
 refine (sR H).eNew 6 [(.string r.name), (.string r.tone), I r.num, I r.den, I r.first, r.wv] rfl rfl (by simp [OC, ((sR H).sl hr.1).cells.2.1]) tI fun A1 H1 hS1 => ?_
 simp only [RT] at hS1
 simp (disch := omega) only [↓RA, RZ, simprocAttr, hn, hS1.ld 0 rfl]
 refine hS1.cF (pX _) fun H2 hS2 => ?_
 simp (disch := omega) only [↓RA, RZ, simprocAttr, hn]
 refine a4s (fun h1 => ?_) (fun h1 => ?_)
 ·simp (disch := omega) only [↓RA, RZ, simprocAttr, hn, a9K, h1]
  refine ⟨?_, hS2.forget⟩; clear hS1; unfold rankE; (try simp only [dF] at *); (repeat' split); all_goals first | rfl | omega | simp_all
 simp (disch := omega) only [↓RA, RZ, simprocAttr, hn, hS2.ld 0 rfl, h1]
 refine hS2.cF (pX _) fun H3 hS3 => ?_
 simp (disch := omega) only [↓RA, RZ, simprocAttr, hn, h1]
 refine jM (fun h2 => ?_) (fun h2 => ?_)
 ·simp (disch := omega) only [↓RA, RB, simprocAttr, hn, a9K, h1, h2]
  refine ⟨?_, hS3.forget⟩; clear hS1; unfold rankE; (try simp only [dF] at *); (repeat' split); all_goals first | rfl | omega | simp_all
 simp (disch := omega) only [↓RA, RZ, simprocAttr, hn, hS3.ai 0 rfl, h1, h2]
 refine hS3.cF (a1d _ _) fun H4 hS4 => ?_
 simp (disch := omega) only [↓RA, RB, simprocAttr, hn, h1, h2]
 refine iA (fun h3 => ?_) (fun h3 => ?_)
 ·simp (disch := omega) only [↓RA, RZ, simprocAttr, hn, a9K, h1, h2, h3]
  refine ⟨?_, hS4.forget⟩; clear hS1; unfold rankE; (try simp only [ek, dF, de, decide_eq_true_eq, gX, fF, decide_eq_false_iff_not] at *); (repeat' split); all_goals first | rfl | omega | simp_all
 simp (disch := omega) only [↓RA, RZ, simprocAttr, hn, hS4.ld 0 rfl, h1, h2, h3]
 refine hS4.cF (b4J _) fun H5 hS5 => ?_
 simp (disch := omega) only [↓RA, RZ, simprocAttr, hn, h1, h2, h3]
 refine jM (fun h4 => ?_) (fun h4 => ?_)
 ·simp (disch := omega) only [↓RA, RZ, simprocAttr, hn, a9K, h1, h2, h3, h4]
  refine ⟨?_, hS5.forget⟩; clear hS1; unfold rankE; (try simp only [dF, fF, decide_eq_false_iff_not] at *); (repeat' split); all_goals first | rfl | omega | simp_all
 simp (disch := omega) only [↓RA, RZ, simprocAttr, hn, hS5.ld 0 rfl, (hS5.sl hr.1).len, h1, h2, h3, h4]
 refine iA (fun h5 => ?_) (fun h5 => ?_)
 ·simp (disch := omega) only [↓RA, RZ, simprocAttr, hn, a9K, h1, h2, h3, h4, h5]
  refine ⟨?_, hS5.forget⟩; clear hS1; unfold rankE; (try simp only [ek, dF, de, decide_eq_true_eq, gX, fF, decide_eq_false_iff_not] at *); (repeat' split); all_goals first | rfl | omega | simp_all
 simp (disch := omega) only [↓RA, RZ, simprocAttr, hn, hS5.ld 0 rfl, (hS5.sl hr.1).len, h1, h2, h3, h4, h5]
 refine iA (fun h6 => ?_) (fun h6 => ?_)
 ·simp (disch := omega) only [↓RA, RZ, simprocAttr, hn, a9K, h1, h2, h3, h4, h5, h6]
  refine ⟨?_, hS5.forget⟩; clear hS1; unfold rankE; (try simp only [ek, dF, de, decide_eq_true_eq, gX, fF, decide_eq_false_iff_not] at *); (repeat' split); all_goals first | rfl | omega | simp_all
 simp (disch := omega) only [↓RA, RZ, simprocAttr, hn, hS5.ld 0 rfl, h1, h2, h3, h4, h5, h6]
 refine hS5.cF (b5e r.wv r.wind (hS5.sl hr.1) (by have := hr.2; omega)) fun H6 hS6 => ?_
 simp (disch := omega) only [↓RA, RZ, simprocAttr, hn, a9K, h1, h2, h3, h4, h5, h6]
 refine ⟨?_, hS6.forget⟩; clear hS1; unfold rankE; (try simp only [ek, dF, de, decide_eq_true_eq, gX, fF, decide_eq_false_iff_not] at *); (repeat' split); all_goals first | rfl | omega | simp_all
abbrev KS (kvs : List (ByteArray × Bool)) : List Value := kcs Value.string Value.bool kvs
def pV (kvs : List (ByteArray × Bool)) (s : ByteArray) : Bool := (a2g kvs s).getD false
theorem a2U (B : Base) (A : Nat) (kvs : List (ByteArray × Bool)) (s : ByteArray) (hS : St prog B H [⟨.map (some A), 0, KS kvs⟩]) :
 Fn prog 57 [.map (some A), .string s] H fun r H' => r = I (if pV kvs s = true then 9 else 0) ∧ ∃ kvs', (∀ t, pV kvs' t = (pV kvs t || decide (t = s))) ∧ St prog B H' [⟨.map (some A), 0, KS kvs'⟩] := by
 refine .aM func57 rfl (by kernel_rfl) (m := 10) rfl fun l hn g0 g1 => ?_
 simp (disch := omega) only [↓RA, RB, simprocAttr, hn, g0, g1]
 refine hS.bO 0 rfl a5S (fun _ => rfl) ?_
 simp (disch := omega) only [↓RA, RB, simprocAttr, hn]
 refine jM (fun h => ?_) (fun h => ?_)
 ·simp (disch := omega) only [↓RA, RB, simprocAttr, hn, c4X, h]
  refine ⟨by simp [pV, h], kvs, fun t => ?_, hS⟩
  by_cases e : t = s
  ·subst e; simp [pV, h]
  ·simp [e]
 simp (disch := omega) only [↓RA, RB, simprocAttr, hn, g0, g1, h]
 refine hS.ct 0 rfl a5S fun H1 hS1 => ?_
 simp only [RT] at hS1
 simp (disch := omega) only [↓RA, RB, simprocAttr, hn, c4X, h]
 refine ⟨by simp [pV, h], _, fun t => ?_, hS1⟩
 unfold pV
 rw [a1Q]
 by_cases e : t = s
 ·simp [e]
 ·simp [e]
def qS (lo hi : Int) : Int := if lo < 0 ∨ 127 < hi then 3 else if hi < lo then 23 else 0
theorem a1h (lo hi : Int) : Fn prog 98 [.agg #[I lo, I hi]] H fun r H' => r = I (qS lo hi) ∧ St prog H H' [] := by
 refine .aW func98 rfl (by kernel_rfl) (m := 18) rfl fun l hn g0 => ?_
 simp (disch := omega) only [↓RA, RB, simprocAttr, g0]
 refine (sR H).eNew 2 [I lo, I hi] rfl rfl rfl sA fun A1 H1 hS1 => ?_
 simp only [RT] at hS1
 simp (disch := omega) only [↓RA, RZ, simprocAttr, hn, hS1.ld 0 rfl]
 refine iN (fun h1 => ?_) (fun h1 => ?_)
 ·simp (disch := omega) only [↓RA, RZ, simprocAttr, hn, b8r, h1]
  refine ⟨?_, hS1.forget⟩; unfold qS; (repeat' split); all_goals first | rfl | omega
 simp (disch := omega) only [↓RA, RZ, simprocAttr, hn, hS1.ld 0 rfl, h1]
 refine iA (fun h2 => ?_) (fun h2 => ?_)
 ·simp (disch := omega) only [↓RA, RZ, simprocAttr, hn, b8r, h1, h2]
  refine ⟨?_, hS1.forget⟩; unfold qS; (repeat' split); all_goals first | rfl | omega
 simp (disch := omega) only [↓RA, RZ, simprocAttr, hn, hS1.ld 0 rfl, h1, h2]
 refine iA (fun h3 => ?_) (fun h3 => ?_)
 ·simp (disch := omega) only [↓RA, RZ, simprocAttr, hn, b8r, h1, h2, h3]
  refine ⟨?_, hS1.forget⟩; unfold qS; (repeat' split); all_goals first | rfl | omega
 simp (disch := omega) only [↓RA, RZ, simprocAttr, hn, b8r, h1, h2, h3]
 refine ⟨?_, hS1.forget⟩; unfold qS; (repeat' split); all_goals first | rfl | omega
def lL (f : Nat → Int) (n : Nat) : Int := match (List.range n).find? (fun j => decide (f j ≠ 0)) with | some j => f j | none => 0
theorem nD (f : Nat → Int) (n i : Nat) (hi : i < n) (hp : f i ≠ 0) (h0 : ∀ j, j < i → f j = 0) : lL f n = f i := by
 unfold lL
 rw [vE _ n i hi (by simpa using hp) (fun j hj => by simpa using h0 j hj)]
theorem kM (f : Nat → Int) (n : Nat) (h0 : ∀ j, j < n → f j = 0) : lL f n = 0 := by
 unfold lL
 have : (List.range n).find? (fun j => decide (f j ≠ 0)) = none := by
  rw [gn]
  intro j hj
  simpa using h0 j (dH.1 hj)
 rw [this]
def sK (rs : List Rk) (lo hi : Int) : Int := if 60 < rs.length then 4 else if lL (fun j => rankE (iB rs j)) rs.length ≠ 0 then lL (fun j => rankE (iB rs j)) rs.length else qS lo hi
theorem b4K (rv : Value) (rs : List Rk) (lo hi : Int) (hr : Sl 6 Rk.cells H rv rs) (hrk : ∀ r ∈ rs, r.In H) (hl : rs.length < 1000000000) :
 Fn prog 145 [.agg #[rv, I lo, I hi]] H fun v H' => v = I (sK rs lo hi) ∧ St prog H H' [] := by
 refine .aW func145 rfl (by kernel_rfl) (m := 26) rfl fun l hn g0 => ?_
 simp (disch := omega) only [↓RA, RB, simprocAttr, g0]
 refine (sR H).eNew 3 [rv, I lo, I hi] rfl rfl (by simp [OC, ((sR H).sl hr).cells.2.1]) b1o fun A1 H1 hS1 => ?_
 simp only [RT] at hS1
 simp (disch := omega) only [↓RA, RZ, simprocAttr, hn, hS1.ld 0 rfl, (hS1.sl hr).len]
 refine iA (fun h => ?_) (fun h => ?_)
 ·simp (disch := omega) only [↓RA, RZ, simprocAttr, hn, b5h, h]
  exact ⟨by rw [sK, if_pos (by omega)], hS1.forget⟩
 simp (disch := omega) only [↓RA, RZ, simprocAttr, hn, hS1.ld 0 rfl, (hS1.sl hr).len, h]
 refine Wp.al (fun n l H' => l.length = 26 ∧ get l 1 = (ptr A1 0 3) ∧ get l 11 = rv ∧ get l 12 = I rs.length ∧ ∃ (i : Nat), (n + i = rs.length ∧ ∀ j, j < i → rankE (iB rs j) = 0) ∧ get l 13 = I i ∧ St prog H H' [⟨ptr A1 0 3, 0, [rv, I lo, I hi]⟩]) rs.length ?_ ?_
 ·simp (disch := omega) only [RB, RC, simprocAttr, hn]
  exact ⟨0, ⟨by omega, by simp⟩, rfl, hS1⟩
 rintro n l H2 ⟨hn, g1, g11, g12, i, ⟨hi1,h0⟩, g13, hS2⟩
 simp (disch := omega) only [↓RA, RB, simprocAttr, hn, g12, g13]
 refine iA (fun h1 => ?_) (fun h1 => ?_)
 ·simp (disch := omega) only [↓RA, RZ, simprocAttr, hn, g11, g13, (hS2.sl hr).idx, (hS2.sl hr).ai, Rk.cells, h1]
  refine hS2.eNew 6 [(.string ⟨#[]⟩), (.string ⟨#[]⟩), I 0, I 0, I 0, (.slice none 0 0)] rfl rfl rfl tI fun A2 H3 hS3 => ?_
  simp only [RT] at hS3
  simp (disch := omega) only [↓RA, RZ, simprocAttr, hn, h1]
  refine hS3.ab 1 rfl [(.string (iB rs i).name), (.string (iB rs i).tone), I (iB rs i).num, I (iB rs i).den, I (iB rs i).first, (iB rs i).wv] rfl (by simp [OC, (hS3.sl (hrk (iB rs i) (iD (by omega))).1).cells.2.1]) tI (by simp) fun H4 hS4 => ?_
  simp only [RT] at hS4
  simp (disch := omega) only [↓RA, RZ, simprocAttr, hn, hS4.ai 1 rfl, h1]
  refine hS4.cF (b1l (iB rs i) ((hrk _ (iD (by omega))).ae hS4)) fun H5 hS5 => ?_
  simp (disch := omega) only [↓RA, RZ, simprocAttr, hn, h1]
  refine iA (fun h2 => ?_) (fun h2 => ?_)
  ·simp (disch := omega) only [↓RA, RZ, simprocAttr, hn, b5h, h1, h2]
   refine ⟨?_, hS5.forget⟩
   rw [sK, if_neg (by omega), nD _ rs.length i (by omega) h2 h0, if_pos h2]
  simp (disch := omega) only [↓RA, RZ, simprocAttr, hn, g1, g11, g12, g13, h1, h2]
  exact ⟨n - 1, by omega, i + 1, ⟨by omega, fun j hj => by rcases dB.1 hj with e | e; (· exact h0 j e); (· rw [e]; exact dD.1 h2)⟩, by simp, hS5.sub (by simp)⟩
 simp (disch := omega) only [↓RA, RZ, simprocAttr, hn, g1, hS2.ai 0 rfl, h1]
 refine hS2.cF (a1h lo hi) fun H6 hS6 => ?_
 simp (disch := omega) only [↓RA, RZ, simprocAttr, hn, b5h, h1]
 refine ⟨?_, hS6.forget⟩
 have e := kM (fun j => rankE (iB rs j)) rs.length fun j hj => h0 j (by omega)
 rw [sK, if_neg (by omega), if_neg (by rw [e]; simp)]
theorem Drw.eq (a b : Drw) : (a.rank = b.rank ∧ a.shift = b.shift) ↔ b = a := by
 cases a; cases b; simp [eq_comm]
theorem b3a (v : Value) (xs : List Drw) (hv : Sl 2 Drw.cells H v xs) (hl : xs.length < 1000000000) (d : Drw) :
 Fn prog 231 [v, .agg #[I d.rank, I d.shift]] H fun r H' => r = I (rE (fun j => decide (iB xs j = d)) xs.length) ∧ St prog H H' [] := by
 refine .aM func231 rfl (by kernel_rfl) (m := 19) rfl fun l hn g0 g1 => ?_
 simp (disch := omega) only [↓RA, RB, simprocAttr, g1]
 refine (sR H).eNew 2 [I d.rank, I d.shift] rfl rfl rfl a0R fun A1 H1 hS1 => ?_
 simp only [RT] at hS1
 simp (disch := omega) only [↓RA, RZ, simprocAttr, hn, g0, (hS1.sl hv).len]
 refine Wp.al (fun n l H' => l.length = 19 ∧ get l 0 = v ∧ get l 3 = (ptr A1 0 2) ∧ get l 7 = I xs.length ∧ ∃ (j : Nat), (n + j = xs.length ∧ ∀ q, q < j → decide (iB xs q = d) = false) ∧ get l 8 = I j ∧ St prog H H' [⟨ptr A1 0 2, 0, [I d.rank, I d.shift]⟩]) xs.length ?_ ?_
 ·simp (disch := omega) only [RB, RC, simprocAttr, hn, g0]
  exact ⟨0, ⟨by omega, fun q hq => absurd hq (dS _)⟩, rfl, hS1⟩
 rintro n l H2 ⟨hn, g0, g3, g7, j, ⟨hi,h0⟩, g8, hS2⟩
 simp (disch := omega) only [↓RA, RB, simprocAttr, hn, g7, g8]
 refine iA (fun h => ?_) (fun h => ?_)
 ·simp (disch := omega) only [↓RA, RZ, simprocAttr, hn, g8, h]
  refine Wp.drw jV (by kernel_rfl) ?_
  simp (disch := omega) only [↓RA, RZ, simprocAttr, hn, g0, g3, hS2.ai 0 rfl, (hS2.sl hv).idx, (hS2.sl hv).ai, Drw.cells]
  refine iA (fun hp => ?_) (fun hp => ?_)
  ·simp (disch := omega) only [↓RA, RZ, simprocAttr, hn, c0t, hp]
   exact ⟨by rw [a1l _ xs.length j (by omega) (by simpa using (Drw.eq _ _).1 hp) h0], hS2.forget⟩
  simp (disch := omega) only [↓RA, RZ, simprocAttr, hn, g0, g3, g7, g8, hp]
  exact ⟨n - 1, by omega, j + 1, ⟨by omega, fun q hq => by rcases dB.1 hq with e | e; (· exact h0 q e); (· rw [e]; simpa using fun hh => hp ((Drw.eq _ _).2 hh))⟩, by simp, hS2⟩
 simp (disch := omega) only [↓RA, RZ, simprocAttr, hn, c0t, h]
 exact ⟨by rw [a1n _ xs.length fun q hq => h0 q (by omega)], hS2.forget⟩
theorem b9N (v : Value) (xs : List Drw) (hv : Sl 2 Drw.cells H v xs) (hl : xs.length < 1000000000) (d : Drw) :
 Fn prog 193 [v, .agg #[I d.rank, I d.shift]] H fun r H' => r = .bool (decide (d ∈ xs)) ∧ St prog H H' [] := by
 have e : decide (0 ≤ rE (fun j => decide (iB xs j = d)) xs.length) = decide (d ∈ xs) := by
  rw [eh, decide_eq_true_iff, decide_eq_true_iff, a4I]
  constructor
  ·rintro ⟨j, hj, hp⟩
   rw [← of_decide_eq_true hp]; exact iD hj
  ·intro hx
   obtain ⟨j, hj, rfl⟩ := dW.1 hx
   exact ⟨j, hj, by rw [kF xs j hj]; simp⟩
 refine .aM func193 rfl (by kernel_rfl) (m := 9) rfl fun l hn g0 g1 => ?_
 simp (disch := omega) only [↓RA, RB, simprocAttr, g1]
 refine (sR H).eNew 2 [I d.rank, I d.shift] rfl rfl rfl a0R fun A1 H1 hS1 => ?_
 simp only [RT] at hS1
 simp (disch := omega) only [↓RA, RZ, simprocAttr, hn, g0, hS1.ai 0 rfl]
 refine hS1.cF (b3a v xs (hS1.sl hv) hl d) fun H2 hS2 => ?_
 simp (disch := omega) only [↓RA, RB, simprocAttr, hn, c3m]
 rw [← e]
 first | exact hS2.forget | exact ⟨rfl, hS2.forget⟩
def kL (m : Nat) (l : List Drw) (j : Nat) : Int := if (iB l j).rank < 0 ∨ m ≤ (iB l j).rank then 10 else if (iB l j).shift < -127 ∨ 127 < (iB l j).shift then 3 else if iB l j ∈ l.take j then 9 else 0
def lH (m : Nat) (l : List Drw) : Int := if 8 < l.length then 4 else lL (kL m l) l.length
theorem a7u (rv : Value) (rs : List Rk) (lo hi : Int) (hr : Sl 6 Rk.cells H rv rs) (hl : rs.length < 1000000000) (dv : Value) (ds : List Drw) (hd : Sl 2 Drw.cells H dv ds) (hl2 : ds.length < 1000000000) :
 Fn prog 146 [.agg #[rv, I lo, I hi], dv] H fun v H' => v = I (lH rs.length ds) ∧ St prog H H' [] := by
 refine .aM func146 rfl (by kernel_rfl) (m := 45) rfl fun l hn g0 g1 => ?_
 simp (disch := omega) only [↓RA, RB, simprocAttr, g0]
 refine (sR H).eNew 3 [rv, I lo, I hi] rfl rfl (by simp [OC, ((sR H).sl hr).cells.2.1]) b1o fun A1 H1 hS1 => ?_
 simp only [RT] at hS1
 simp (disch := omega) only [↓RA, RZ, simprocAttr, hn, g1, (hS1.sl hd).len]
 refine iA (fun h => ?_) (fun h => ?_)
 ·simp (disch := omega) only [↓RA, RZ, simprocAttr, hn, a2P, h]
  exact ⟨by rw [lH, if_pos (by omega)], hS1.forget⟩
 simp (disch := omega) only [↓RA, RZ, simprocAttr, hn, g1, (hS1.sl hd).len, h]
 refine Wp.al (fun n l H' => l.length = 45 ∧ get l 1 = dv ∧ get l 2 = (ptr A1 0 3) ∧ get l 10 = dv ∧ get l 11 = I ds.length ∧ ∃ (i : Nat), (n + i = ds.length ∧ ∀ j, j < i → kL rs.length ds j = 0) ∧ get l 12 = I i ∧ St prog H H' [⟨ptr A1 0 3, 0, [rv, I lo, I hi]⟩]) ds.length ?_ ?_
 ·simp (disch := omega) only [RB, RC, simprocAttr, hn, g1]
  exact ⟨0, ⟨by omega, by simp⟩, rfl, hS1⟩
 rintro n l H2 ⟨hn, g1, g2, mB, g11, i, ⟨hi1,h0⟩, g12, hS2⟩
 simp (disch := omega) only [↓RA, RB, simprocAttr, hn, g11, g12]
 refine iA (fun h1 => ?_) (fun h1 => ?_)
 ·have key : kL rs.length ds i ≠ 0 → lH rs.length ds = kL rs.length ds i := fun hne => by rw [lH, if_neg (by omega), nD _ ds.length i (by omega) hne h0]
  simp (disch := omega) only [↓RA, RZ, simprocAttr, hn, mB, g12, (hS2.sl hd).idx, (hS2.sl hd).ai, Drw.cells, h1]
  refine hS2.eNew 2 [I 0, I 0] rfl rfl rfl a0R fun A2 H3 hS3 => ?_
  simp only [RT] at hS3
  simp (disch := omega) only [↓RA, RZ, simprocAttr, hn, h1]
  refine hS3.ab 1 rfl [I (iB ds i).rank, I (iB ds i).shift] rfl rfl a0R (by simp) fun H4 hS4 => ?_
  simp only [RT] at hS4
  simp (disch := omega) only [↓RA, RZ, simprocAttr, hn, hS4.ld 1 rfl, h1]
  refine iN (fun h1 => ?_) (fun h1 => ?_)
  ·simp (disch := omega) only [↓RA, RZ, simprocAttr, hn, a2P, h1]
   (first | (have e1 : kL rs.length ds i = 10 := by rw [kL, if_pos (by omega)]); exact ⟨by rw [key (by rw [e1]; decide), e1], hS4.forget⟩ | (have e1 : kL rs.length ds i = 3 := by rw [kL, if_neg (by omega), if_pos (by omega)]); exact ⟨by rw [key (by rw [e1]; decide), e1], hS4.forget⟩ | (have e1 : kL rs.length ds i = 9 := by rw [kL, if_neg (by omega), if_neg (by omega), if_pos (by simp_all)]); exact ⟨by rw [key (by rw [e1]; decide), e1], hS4.forget⟩)
  simp (disch := omega) only [↓RA, RZ, simprocAttr, hn, g2, hS4.ld 1 rfl, hS4.ld 0 rfl, (hS4.sl hr).len, h1]
  refine iA (fun h2 => ?_) (fun h2 => ?_)
  ·simp (disch := omega) only [↓RA, RZ, simprocAttr, hn, a2P, h1, h2]
   (first | (have e1 : kL rs.length ds i = 10 := by rw [kL, if_pos (by omega)]); exact ⟨by rw [key (by rw [e1]; decide), e1], hS4.forget⟩ | (have e1 : kL rs.length ds i = 3 := by rw [kL, if_neg (by omega), if_pos (by omega)]); exact ⟨by rw [key (by rw [e1]; decide), e1], hS4.forget⟩ | (have e1 : kL rs.length ds i = 9 := by rw [kL, if_neg (by omega), if_neg (by omega), if_pos (by simp_all)]); exact ⟨by rw [key (by rw [e1]; decide), e1], hS4.forget⟩)
  simp (disch := omega) only [↓RA, RZ, simprocAttr, hn, hS4.ld 1 rfl, h1, h2]
  refine iN (fun h3 => ?_) (fun h3 => ?_)
  ·simp (disch := omega) only [↓RA, RZ, simprocAttr, hn, a2P, h1, h2, h3]
   (first | (have e1 : kL rs.length ds i = 10 := by rw [kL, if_pos (by omega)]); exact ⟨by rw [key (by rw [e1]; decide), e1], hS4.forget⟩ | (have e1 : kL rs.length ds i = 3 := by rw [kL, if_neg (by omega), if_pos (by omega)]); exact ⟨by rw [key (by rw [e1]; decide), e1], hS4.forget⟩ | (have e1 : kL rs.length ds i = 9 := by rw [kL, if_neg (by omega), if_neg (by omega), if_pos (by simp_all)]); exact ⟨by rw [key (by rw [e1]; decide), e1], hS4.forget⟩)
  simp (disch := omega) only [↓RA, RZ, simprocAttr, hn, hS4.ld 1 rfl, h1, h2, h3]
  refine iA (fun h4 => ?_) (fun h4 => ?_)
  ·simp (disch := omega) only [↓RA, RZ, simprocAttr, hn, a2P, h1, h2, h3, h4]
   (first | (have e1 : kL rs.length ds i = 10 := by rw [kL, if_pos (by omega)]); exact ⟨by rw [key (by rw [e1]; decide), e1], hS4.forget⟩ | (have e1 : kL rs.length ds i = 3 := by rw [kL, if_neg (by omega), if_pos (by omega)]); exact ⟨by rw [key (by rw [e1]; decide), e1], hS4.forget⟩ | (have e1 : kL rs.length ds i = 9 := by rw [kL, if_neg (by omega), if_neg (by omega), if_pos (by simp_all)]); exact ⟨by rw [key (by rw [e1]; decide), e1], hS4.forget⟩)
  simp (disch := omega) only [↓RA, RZ, simprocAttr, h1, h2, h3, h4]
  refine Wp.drw jV (by kernel_rfl) ?_
  simp (disch := omega) only [↓RA, RZ, simprocAttr, hn, g1, (hS4.sl hd).aR, hS4.ai 1 rfl]
  refine hS4.cF (b9N _ (ds.take i) ((hS4.sl hd).bP i (by omega) (by omega)) (by simp; omega) (iB ds i)) fun H5 hS5 => ?_
  simp (disch := omega) only [↓RA, RB, simprocAttr, hn]
  refine iA (fun h5 => ?_) (fun h5 => ?_)
  ·simp (disch := omega) only [↓RA, RZ, simprocAttr, hn, a2P, h5]
   (first | (have e1 : kL rs.length ds i = 10 := by rw [kL, if_pos (by omega)]); exact ⟨by rw [key (by rw [e1]; decide), e1], hS5.forget⟩ | (have e1 : kL rs.length ds i = 3 := by rw [kL, if_neg (by omega), if_pos (by omega)]); exact ⟨by rw [key (by rw [e1]; decide), e1], hS5.forget⟩ | (have e1 : kL rs.length ds i = 9 := by rw [kL, if_neg (by omega), if_neg (by omega), if_pos (by simp_all)]); exact ⟨by rw [key (by rw [e1]; decide), e1], hS5.forget⟩)
  simp (disch := omega) only [↓RA, RZ, simprocAttr, hn, g1, g2, mB, g11, g12, h5]
  have e0 : kL rs.length ds i = 0 := by rw [kL, if_neg (by omega), if_neg (by omega), if_neg (by simp_all)]
  exact ⟨n - 1, by omega, i + 1, ⟨by omega, fun j hj => by rcases dB.1 hj with e | e; (· exact h0 j e); (· rw [e]; exact e0)⟩, by simp, hS5.sub (by simp)⟩
 simp (disch := omega) only [↓RA, RZ, simprocAttr, hn, a2P, h1]
 exact ⟨by rw [lH, if_neg (by omega), kM _ _ fun j hj => h0 j (by omega)], hS2.forget⟩
def lA (lo hi : Int) (m : Nat) (gs : List Seg) (j : Nat) : Int := if min (iB gs j).lo (iB gs j).hi < lo ∨ hi < max (iB gs j).lo (iB gs j).hi then 23 else if (iB gs j).hi < (iB gs j).lo ∨ (0 < j ∧ (iB gs j).lo ≤ (iB gs (j - 1)).hi) then 6 else lH m (iB gs j).draws
def stopE (rs : List Rk) (lo hi : Int) (s : Stp) : Int := if sK rs lo hi ≠ 0 then sK rs lo hi else if kX s.name = false then 8 else if mP s.num s.den ≠ 0 then mP s.num s.den else if s.segs.length = 0 then 13 else if 12 < s.segs.length then 4 else lL (lA lo hi rs.length s.segs) s.segs.length
theorem b8T (rv : Value) (rs : List Rk) (lo hi : Int) (hr : Sl 6 Rk.cells H rv rs) (hrk : ∀ r ∈ rs, r.In H) (hl : rs.length < 1000000000) (s : Stp) (hs : s.In H) :
 Fn prog 108 [.agg #[rv, I lo, I hi], .agg #[.string s.name, I s.num, I s.den, s.gv]] H fun v H' => v = I (stopE rs lo hi s) ∧ St prog H H' [] := by
 have hl2 := hs.2.2
 refine .aM func108 rfl (by kernel_rfl) (m := 94) rfl fun l hn g0 g1 => ?_
 simp (disch := omega) only [↓RA, RB, simprocAttr, g0]
 refine (sR H).eNew 3 [rv, I lo, I hi] rfl rfl (by simp [OC, ((sR H).sl hr).cells.2.1]) b1o fun A1 H1 hS1 => ?_
 simp only [RT] at hS1
 simp (disch := omega) only [↓RA, RB, simprocAttr, g1]
 refine hS1.eNew 4 [(.string s.name), I s.num, I s.den, s.gv] rfl rfl (by simp [OC, (hS1.sl hs.1).cells.2.1]) mR fun A2 H2 hS2 => ?_
 simp only [RT] at hS2
 simp (disch := omega) only [↓RA, RZ, simprocAttr, hn, hS2.ai 0 rfl]
 refine hS2.cF (b4K rv rs lo hi (hS2.sl hr) (fun r h => (hrk r h).ae hS2) hl) fun H3 hS3 => ?_
 simp (disch := omega) only [↓RA, RB, simprocAttr, hn]
 refine iA (fun p1 => ?_) (fun p1 => ?_)
 ·simp (disch := omega) only [↓RA, RZ, simprocAttr, hn, tG, p1]
  exact ⟨by rw [stopE, if_pos p1], hS3.forget⟩
 simp (disch := omega) only [↓RA, RZ, simprocAttr, hn, hS3.ld 1 rfl, p1]
 refine hS3.cF (pX s.name) fun H4 hS4 => ?_
 simp (disch := omega) only [↓RA, RZ, simprocAttr, hn, p1]
 refine jM (fun p2 => ?_) (fun p2 => ?_)
 ·simp (disch := omega) only [↓RA, RZ, simprocAttr, hn, tG, p1, p2]
  exact ⟨by rw [stopE, if_neg p1, if_pos (by simpa using p2)], hS4.forget⟩
 have p2' : ¬ kX s.name = false := by simpa using p2
 simp (disch := omega) only [↓RA, RZ, simprocAttr, hn, hS4.ai 1 rfl, p1, p2]
 refine hS4.cF (a1d s.num s.den) fun H5 hS5 => ?_
 simp (disch := omega) only [↓RA, RZ, simprocAttr, hn, p1, p2]
 refine iA (fun p3 => ?_) (fun p3 => ?_)
 ·simp (disch := omega) only [↓RA, RZ, simprocAttr, hn, tG, p1, p2, p3]
  exact ⟨by rw [stopE, if_neg p1, if_neg p2', if_pos p3], hS5.forget⟩
 simp (disch := omega) only [↓RA, RZ, simprocAttr, hn, hS5.ld 1 rfl, (hS5.sl hs.1).len, p1, p2, p3]
 refine iA (fun p4 => ?_) (fun p4 => ?_)
 ·simp (disch := omega) only [↓RA, RZ, simprocAttr, hn, tG, p1, p2, p3, p4]
  exact ⟨by rw [stopE, if_neg p1, if_neg p2', if_neg p3, if_pos (by omega)], hS5.forget⟩
 simp (disch := omega) only [↓RA, RZ, simprocAttr, hn, hS5.ld 1 rfl, (hS5.sl hs.1).len, p1, p2, p3, p4]
 refine iA (fun p5 => ?_) (fun p5 => ?_)
 ·simp (disch := omega) only [↓RA, RZ, simprocAttr, hn, tG, p1, p2, p3, p4, p5]
  exact ⟨by rw [stopE, if_neg p1, if_neg p2', if_neg p3, if_neg (by omega), if_pos (by omega)], hS5.forget⟩
 have hE : stopE rs lo hi s = lL (lA lo hi rs.length s.segs) s.segs.length := by rw [stopE, if_neg p1, if_neg p2', if_neg p3, if_neg (by omega), if_neg (by omega)]
 simp (disch := omega) only [↓RA, RZ, simprocAttr, hn, hS5.ld 1 rfl, (hS5.sl hs.1).len, p1, p2, p3, p4, p5]
 refine Wp.al (fun n l H' => l.length = 94 ∧ get l 2 = (ptr A1 0 3) ∧ get l 3 = (ptr A2 0 4) ∧ get l 36 = s.gv ∧ get l 37 = I s.segs.length ∧ ∃ (i : Nat), (n + i = s.segs.length ∧ ∀ j, j < i → lA lo hi rs.length s.segs j = 0) ∧ get l 38 = I i ∧ St prog H H' [⟨ptr A1 0 3, 0, [rv, I lo, I hi]⟩, ⟨ptr A2 0 4, 0, [(.string s.name), I s.num, I s.den, s.gv]⟩]) s.segs.length ?_ ?_
 ·simp (disch := omega) only [RB, RC, simprocAttr, hn]
  exact ⟨0, ⟨by omega, by simp⟩, rfl, hS5⟩
 rintro n l H6 ⟨hn, g2, g3, g36, g37, i, ⟨hi1,h0⟩, g38, hS6⟩
 simp (disch := omega) only [↓RA, RB, simprocAttr, hn, g37, g38]
 refine iA (fun q1 => ?_) (fun q1 => ?_)
 ·have key : lA lo hi rs.length s.segs i ≠ 0 → stopE rs lo hi s = lA lo hi rs.length s.segs i := fun hne => by rw [hE, nD _ _ i (by omega) hne h0]
  have ei : ((i : Int) - 1).toNat = i - 1 := by omega
  simp (disch := omega) only [↓RA, RZ, simprocAttr, hn, g36, g38, (hS6.sl hs.1).idx, (hS6.sl hs.1).ai, Seg.cells, q1]
  refine hS6.eNew 3 [I 0, I 0, (.slice none 0 0)] rfl rfl rfl a2v fun A3 H7 hS7 => ?_
  simp only [RT] at hS7
  simp (disch := omega) only [↓RA, RZ, simprocAttr, hn, q1]
  refine hS7.ab 2 rfl [I (iB s.segs i).lo, I (iB s.segs i).hi, (iB s.segs i).dv] rfl (by simp [OC, (hS7.sl (hs.2.1 (iB s.segs i) (iD (by omega))).1).cells.2.1]) a2v (by simp) fun H8 hS8 => ?_
  simp only [RT] at hS8
  simp (disch := omega) only [↓RA, RZ, simprocAttr, hn, g2, hS8.ld 2 rfl, hS8.ld 0 rfl, q1]
  refine iN (fun h1 => ?_) (fun h1 => ?_)
  ·simp (disch := omega) only [↓RA, RZ, simprocAttr, hn, tG, q1, h1]
   (first | (have e1 : lA lo hi rs.length s.segs i = 23 := by rw [lA, if_pos (by omega)]); exact ⟨by rw [key (by rw [e1]; decide), e1], hS8.forget⟩ | (have e1 : lA lo hi rs.length s.segs i = 6 := by rw [lA, if_neg (by omega), if_pos (by omega)]); exact ⟨by rw [key (by rw [e1]; decide), e1], hS8.forget⟩ | (have e1 : lA lo hi rs.length s.segs i = lH rs.length (iB s.segs i).draws := by rw [lA, if_neg (by omega), if_neg (by omega)]); exact ⟨by rw [key (by rw [e1]; assumption), e1], hS8.forget⟩)
  simp (disch := omega) only [↓RA, RZ, simprocAttr, hn, g2, hS8.ld 2 rfl, hS8.ld 0 rfl, q1, h1]
  refine iA (fun h2 => ?_) (fun h2 => ?_)
  ·simp (disch := omega) only [↓RA, RZ, simprocAttr, hn, tG, q1, h1, h2]
   (first | (have e1 : lA lo hi rs.length s.segs i = 23 := by rw [lA, if_pos (by omega)]); exact ⟨by rw [key (by rw [e1]; decide), e1], hS8.forget⟩ | (have e1 : lA lo hi rs.length s.segs i = 6 := by rw [lA, if_neg (by omega), if_pos (by omega)]); exact ⟨by rw [key (by rw [e1]; decide), e1], hS8.forget⟩ | (have e1 : lA lo hi rs.length s.segs i = lH rs.length (iB s.segs i).draws := by rw [lA, if_neg (by omega), if_neg (by omega)]); exact ⟨by rw [key (by rw [e1]; assumption), e1], hS8.forget⟩)
  simp (disch := omega) only [↓RA, RZ, simprocAttr, q1, h1, h2]
  refine Wp.drw jV (by kernel_rfl) ?_
  simp (disch := omega) only [↓RA, RZ, simprocAttr, hn, hS8.ld 2 rfl]
  refine iN (fun h3 => ?_) (fun h3 => ?_)
  ·simp (disch := omega) only [↓RA, RZ, simprocAttr, hn, tG, h3]
   (first | (have e1 : lA lo hi rs.length s.segs i = 23 := by rw [lA, if_pos (by omega)]); exact ⟨by rw [key (by rw [e1]; decide), e1], hS8.forget⟩ | (have e1 : lA lo hi rs.length s.segs i = 6 := by rw [lA, if_neg (by omega), if_pos (by omega)]); exact ⟨by rw [key (by rw [e1]; decide), e1], hS8.forget⟩ | (have e1 : lA lo hi rs.length s.segs i = lH rs.length (iB s.segs i).draws := by rw [lA, if_neg (by omega), if_neg (by omega)]); exact ⟨by rw [key (by rw [e1]; assumption), e1], hS8.forget⟩)
  simp (disch := omega) only [↓RA, RZ, simprocAttr, hn, h3]
  refine jP (fun h4 => ?_) (fun h4 => ?_)
  ·simp (disch := omega) only [↓RA, RZ, simprocAttr, hn, g3, hS8.ld 2 rfl, hS8.ld 1 rfl, (hS8.sl hs.1).idx, (hS8.sl hs.1).bz, (hS8.sl hs.1).ld, Seg.cells, ei, h3, h4]
   refine iA (fun h5 => ?_) (fun h5 => ?_)
   ·simp (disch := omega) only [↓RA, RZ, simprocAttr, hn, tG, h3, h4, h5]
    (first | (have e1 : lA lo hi rs.length s.segs i = 23 := by rw [lA, if_pos (by omega)]); exact ⟨by rw [key (by rw [e1]; decide), e1], hS8.forget⟩ | (have e1 : lA lo hi rs.length s.segs i = 6 := by rw [lA, if_neg (by omega), if_pos (by omega)]); exact ⟨by rw [key (by rw [e1]; decide), e1], hS8.forget⟩ | (have e1 : lA lo hi rs.length s.segs i = lH rs.length (iB s.segs i).draws := by rw [lA, if_neg (by omega), if_neg (by omega)]); exact ⟨by rw [key (by rw [e1]; assumption), e1], hS8.forget⟩)
   simp (disch := omega) only [↓RA, RZ, simprocAttr, hn, g2, hS8.ai 0 rfl, hS8.ld 2 rfl, h3, h4, h5]
   refine hS8.cF (a7u rv rs lo hi (hS8.sl hr) hl _ _ (hS8.sl (hs.2.1 _ (iD (by omega))).1) (hs.2.1 _ (iD (by omega))).2) fun H9 hS9 => ?_
   simp (disch := omega) only [↓RA, RZ, simprocAttr, hn, h3, h4, h5]
   refine iA (fun h6 => ?_) (fun h6 => ?_)
   ·simp (disch := omega) only [↓RA, RZ, simprocAttr, hn, tG, h3, h4, h5, h6]
    (first | (have e1 : lA lo hi rs.length s.segs i = 23 := by rw [lA, if_pos (by omega)]); exact ⟨by rw [key (by rw [e1]; decide), e1], hS9.forget⟩ | (have e1 : lA lo hi rs.length s.segs i = 6 := by rw [lA, if_neg (by omega), if_pos (by omega)]); exact ⟨by rw [key (by rw [e1]; decide), e1], hS9.forget⟩ | (have e1 : lA lo hi rs.length s.segs i = lH rs.length (iB s.segs i).draws := by rw [lA, if_neg (by omega), if_neg (by omega)]); exact ⟨by rw [key (by rw [e1]; assumption), e1], hS9.forget⟩)
   simp (disch := omega) only [↓RA, RZ, simprocAttr, hn, g2, g3, g36, g37, g38, h3, h4, h5, h6]
   have e0 : lA lo hi rs.length s.segs i = 0 := by rw [lA, if_neg (by omega), if_neg (by omega)]; omega
   exact ⟨n - 1, by omega, i + 1, ⟨by omega, fun j hj => by rcases dB.1 hj with e | e; (· exact h0 j e); (· rw [e]; exact e0)⟩, by simp, hS9.sub (by simp)⟩
  simp (disch := omega) only [↓RA, RZ, simprocAttr, hn, g2, hS8.ai 0 rfl, hS8.ld 2 rfl, h3, h4]
  refine hS8.cF (a7u rv rs lo hi (hS8.sl hr) hl _ _ (hS8.sl (hs.2.1 _ (iD (by omega))).1) (hs.2.1 _ (iD (by omega))).2) fun H10 hS10 => ?_
  simp (disch := omega) only [↓RA, RZ, simprocAttr, hn, h3, h4]
  refine iA (fun h7 => ?_) (fun h7 => ?_)
  ·simp (disch := omega) only [↓RA, RZ, simprocAttr, hn, tG, h3, h4, h7]
   (first | (have e1 : lA lo hi rs.length s.segs i = 23 := by rw [lA, if_pos (by omega)]); exact ⟨by rw [key (by rw [e1]; decide), e1], hS10.forget⟩ | (have e1 : lA lo hi rs.length s.segs i = 6 := by rw [lA, if_neg (by omega), if_pos (by omega)]); exact ⟨by rw [key (by rw [e1]; decide), e1], hS10.forget⟩ | (have e1 : lA lo hi rs.length s.segs i = lH rs.length (iB s.segs i).draws := by rw [lA, if_neg (by omega), if_neg (by omega)]); exact ⟨by rw [key (by rw [e1]; assumption), e1], hS10.forget⟩)
  simp (disch := omega) only [↓RA, RZ, simprocAttr, hn, g2, g3, g36, g37, g38, h3, h4, h7]
  have e0 : lA lo hi rs.length s.segs i = 0 := by rw [lA, if_neg (by omega), if_neg (by omega)]; omega
  exact ⟨n - 1, by omega, i + 1, ⟨by omega, fun j hj => by rcases dB.1 hj with e | e; (· exact h0 j e); (· rw [e]; exact e0)⟩, by simp, hS10.sub (by simp)⟩
 simp (disch := omega) only [↓RA, RZ, simprocAttr, hn, tG, q1]
 exact ⟨by rw [hE, kM _ _ fun j hj => h0 j (by omega)], hS6.forget⟩
theorem b9h (v : Value) (xs : List Cpl) (hv : Sl 5 Cpl.cells H v xs) (hl : xs.length < 1000000000) (k : FuncId) (caps : List Value) (p : Nat → Bool)
 (hf : ∀ j H1, j < xs.length → St prog H H1 [] → Fn prog k (.agg #[.string (iB xs j).name, I (iB xs j).src, I (iB xs j).dst, I (iB xs j).shift, .bool (iB xs j).thr] :: caps) H1 fun r H2 => r = .bool (p j) ∧ St prog H1 H2 []) :
 Fn prog 147 [v, .func (.func k) #[] caps.toArray] H fun r H' => r = I (rE p xs.length) ∧ St prog H H' [] := by
 refine .aM func147 rfl (by kernel_rfl) (m := 19) rfl fun l hn g0 g1 => ?_
 simp (disch := omega) only [↓RA, RZ, simprocAttr, hn, g0, ((sR H).sl hv).len]
 refine Wp.al (fun n l H' => l.length = 19 ∧ get l 0 = v ∧ get l 1 = .func (.func k) #[] caps.toArray ∧ get l 7 = I xs.length ∧ ∃ (j : Nat), (n + j = xs.length ∧ ∀ q, q < j → p q = false) ∧ get l 8 = I j ∧ St prog H H' []) xs.length ?_ ?_
 ·simp (disch := omega) only [RB, RC, simprocAttr, hn, g0, g1]
  exact ⟨0, ⟨by omega, fun q hq => absurd hq (dS _)⟩, rfl, (sR H)⟩
 rintro n l H1 ⟨hn, g0, g1, g7, j, ⟨hi,h0⟩, g8, hS1⟩
 simp (disch := omega) only [↓RA, RB, simprocAttr, hn, g7, g8]
 refine iA (fun h => ?_) (fun h => ?_)
 ·simp (disch := omega) only [↓RA, RZ, simprocAttr, hn, g0, g1, g8, (hS1.sl hv).idx, (hS1.sl hv).ai, Cpl.cells, h]
  refine hS1.cF (hf j _ (by omega) hS1) fun H2 hS2 => ?_
  simp (disch := omega) only [↓RA, RZ, simprocAttr, hn, h]
  refine jM (fun hp => ?_) (fun hp => ?_)
  ·simp (disch := omega) only [↓RA, RZ, simprocAttr, hn, c0v, h, hp]
   exact ⟨by rw [a1l p xs.length j (by omega) hp h0], hS2⟩
  simp (disch := omega) only [↓RA, RZ, simprocAttr, hn, g0, g1, g7, g8, h, hp]
  exact ⟨n - 1, by omega, j + 1, ⟨by omega, fun q hq => by rcases dB.1 hq with e | e; (· exact h0 q e); (· rw [e]; exact hp)⟩, by simp, hS2⟩
 simp (disch := omega) only [↓RA, RZ, simprocAttr, hn, c0v, h]
 exact ⟨by rw [a1n p xs.length fun q hq => h0 q (by omega)], hS1⟩
theorem b9f (v : Value) (xs : List Cpl) (hv : Sl 5 Cpl.cells H v xs) (hl : xs.length < 1000000000) (k : FuncId) (caps : List Value) (p : Nat → Bool)
 (hf : ∀ j H1, j < xs.length → St prog H H1 [] → Fn prog k (.agg #[.string (iB xs j).name, I (iB xs j).src, I (iB xs j).dst, I (iB xs j).shift, .bool (iB xs j).thr] :: caps) H1 fun r H2 => r = .bool (p j) ∧ St prog H1 H2 []) :
 Fn prog 109 [v, .func (.func k) #[] caps.toArray] H fun r H' => r = .bool (decide (0 ≤ rE p xs.length)) ∧ St prog H H' [] := by
 refine .aM func109 rfl (by kernel_rfl) (m := 9) rfl fun l hn g0 g1 => ?_
 simp (disch := omega) only [↓RA, RZ, simprocAttr, hn, g0, g1]
 refine (sR H).cF (b9h v xs hv hl k caps p hf) fun H1 hS1 => ?_
 simp (disch := omega) only [↓RA, RZ, simprocAttr, hn, c3C]
 first | exact hS1 | exact ⟨rfl, hS1⟩
theorem a9t (c : Cpl) (A : Nat) (d : Cpl) (hA : Var H A 5 d.cells) : Fn prog 110 [.agg #[.string c.name, I c.src, I c.dst, I c.shift, .bool c.thr], ptr A 0 5] H fun r H' => r = .bool (decide (c.name = d.name)) ∧ St prog H H' [] := by
 refine .aM func110 rfl (by kernel_rfl) (m := 9) rfl fun l hn g0 g1 => ?_
 simp (disch := omega) only [↓RA, RB, simprocAttr, g0]
 refine (sR H).eNew 5 [(.string c.name), I c.src, I c.dst, I c.shift, (.bool c.thr)] rfl rfl rfl vJ fun A1 H1 hS1 => ?_
 simp only [RT] at hS1
 simp (disch := omega) only [↓RA, RZ, simprocAttr, hn, g1, hS1.ld 0 rfl, (hS1.va hA).ld, c3L, Cpl.cells]
 first | exact hS1.forget | exact ⟨rfl, hS1.forget⟩
def mM (m : Nat) (cs : List Cpl) (j : Nat) : Int :=
 let c := iB cs j
 if kX c.name = false then 8 else if ∃ q, q < j ∧ (iB cs q).name = c.name then 9 else if c.src < 0 ∨ m ≤ c.src ∨ c.dst < 0 ∨ m ≤ c.dst then 10 else if c.shift < -127 ∨ 127 < c.shift then 3 else if c.src = c.dst ∧ c.shift = 0 then 7 else 0
def sZ (ks : List (Int × Int)) (cs : List Cpl) : Int := if 8 < ks.length ∨ 40 < cs.length then 4 else if ∃ k ∈ ks, qS k.1 k.2 ≠ 0 then 23 else lL (mM ks.length cs) cs.length
def kpc (k : Int × Int) : List Value := [I k.1, I k.2]
theorem a7c {α : Type} [Inhabited α] (xs : List α) (i j : Nat) (h : j < i) : iB (xs.take i) j = iB xs j := by
 unfold iB
 rw [dj, dj, dX h]
theorem a5Z (kv cv : Value) (ks : List (Int × Int)) (cs : List Cpl) (hk : Sl 2 kpc H kv ks) (hc : Sl 5 Cpl.cells H cv cs) (hl : ks.length < 1000000000) (hl2 : cs.length < 1000000000) :
 Fn prog 59 [kv, cv] H fun v H' => v = I (sZ ks cs) ∧ St prog H H' [] := by
 refine .aM func59 rfl (by kernel_rfl) (m := 89) rfl fun l hn g0 g1 => ?_
 simp (disch := omega) only [↓RA, RZ, simprocAttr, hn, g0, ((sR H).sl hk).len]
 refine iN (fun p1 => ?_) (fun p1 => ?_)
 ·simp (disch := omega) only [↓RA, RZ, simprocAttr, hn, a0w, p1]
  exact ⟨by rw [sZ, if_pos (by omega)], (sR H)⟩
 simp (disch := omega) only [↓RA, RZ, simprocAttr, hn, g1, ((sR H).sl hc).len, p1]
 refine iA (fun p2 => ?_) (fun p2 => ?_)
 ·simp (disch := omega) only [↓RA, RZ, simprocAttr, hn, a0w, p1, p2]
  exact ⟨by rw [sZ, if_pos (by omega)], (sR H)⟩
 simp (disch := omega) only [↓RA, RZ, simprocAttr, hn, g0, ((sR H).sl hk).len, p1, p2]
 refine Wp.al (fun n l H' => l.length = 89 ∧ get l 0 = kv ∧ get l 1 = cv ∧ get l 17 = kv ∧ get l 18 = I ks.length ∧ ∃ (i : Nat), (n + i = ks.length ∧ ∀ j, j < i → qS (iB ks j).1 (iB ks j).2 = 0) ∧ get l 19 = I i ∧ St prog H H' []) ks.length ?_ ?_
 ·simp (disch := omega) only [RB, RC, simprocAttr, hn, g0, g1]
  exact ⟨0, ⟨by omega, by simp⟩, rfl, (sR H)⟩
 rintro n l H1 ⟨hn, g0, g1, g17, g18, i, ⟨hi1,h0⟩, g19, hS1⟩
 simp (disch := omega) only [↓RA, RB, simprocAttr, hn, g18, g19]
 refine iA (fun p3 => ?_) (fun p3 => ?_)
 ·simp (disch := omega) only [↓RA, RZ, simprocAttr, hn, g17, g19, (hS1.sl hk).idx, (hS1.sl hk).ai, kpc, p3]
  refine hS1.eNew 2 [I 0, I 0] rfl rfl rfl sA fun A1 H2 hS2 => ?_
  simp only [RT] at hS2
  simp (disch := omega) only [↓RA, RZ, simprocAttr, hn, p3]
  refine hS2.ab 0 rfl [I (iB ks i).1, I (iB ks i).2] rfl rfl sA (by simp) fun H3 hS3 => ?_
  simp only [RT] at hS3
  simp (disch := omega) only [↓RA, RZ, simprocAttr, hn, hS3.ai 0 rfl, p3]
  refine hS3.cF (a1h _ _) fun H4 hS4 => ?_
  simp (disch := omega) only [↓RA, RZ, simprocAttr, hn, p3]
  refine iA (fun p4 => ?_) (fun p4 => ?_)
  ·simp (disch := omega) only [↓RA, RZ, simprocAttr, hn, a0w, p3, p4]
   exact ⟨by rw [sZ, if_neg (by omega), if_pos ⟨_, iD (by omega), p4⟩], hS4.forget⟩
  simp (disch := omega) only [↓RA, RZ, simprocAttr, hn, g0, g1, g17, g18, g19, p3, p4]
  exact ⟨n - 1, by omega, i + 1, ⟨by omega, fun j hj => by rcases dB.1 hj with e | e; (· exact h0 j e); (· rw [e]; exact dD.1 p4)⟩, by simp, hS4.sub (by simp)⟩
 have hE : sZ ks cs = lL (mM ks.length cs) cs.length := by
  rw [sZ, if_neg (by omega), if_neg]
  rintro ⟨k, hk, hne⟩
  obtain ⟨j, hj, rfl⟩ := dW.1 hk
  rw [← kF ks j hj] at hne
  exact hne (h0 j (by omega))
 simp (disch := omega) only [↓RA, RZ, simprocAttr, hn, g1, (hS1.sl hc).len, p3]
 refine Wp.al (fun n l H' => l.length = 89 ∧ get l 0 = kv ∧ get l 1 = cv ∧ get l 27 = cv ∧ get l 28 = I cs.length ∧ ∃ (i : Nat), (n + i = cs.length ∧ ∀ j, j < i → mM ks.length cs j = 0) ∧ get l 29 = I i ∧ St prog H H' []) cs.length ?_ ?_
 ·simp (disch := omega) only [RB, RC, simprocAttr, hn, g0, g1]
  exact ⟨0, ⟨by omega, by simp⟩, rfl, hS1⟩
 rintro n l H5 ⟨hn, g0, g1, g27, g28, i, ⟨hi2,hz⟩, g29, hS5⟩
 simp (disch := omega) only [↓RA, RB, simprocAttr, hn, g28, g29]
 refine iA (fun q1 => ?_) (fun q1 => ?_)
 ·have key : mM ks.length cs i ≠ 0 → sZ ks cs = mM ks.length cs i := fun hne => by rw [hE, nD _ _ i (by omega) hne hz]
  simp (disch := omega) only [↓RA, RZ, simprocAttr, hn, g27, g29, (hS5.sl hc).idx, (hS5.sl hc).ai, Cpl.cells, q1]
  refine hS5.eNew 5 [(.string ⟨#[]⟩), I 0, I 0, I 0, (.bool false)] rfl rfl rfl vJ fun A2 H6 hS6 => ?_
  simp only [RT] at hS6
  simp (disch := omega) only [↓RA, RZ, simprocAttr, hn, q1]
  refine hS6.ab 0 rfl [(.string (iB cs i).name), I (iB cs i).src, I (iB cs i).dst, I (iB cs i).shift, (.bool (iB cs i).thr)] rfl rfl vJ (by simp) fun H7 hS7 => ?_
  simp only [RT] at hS7
  simp (disch := omega) only [↓RA, RZ, simprocAttr, hn, hS7.ld 0 rfl, q1]
  refine hS7.cF (pX _) fun H8 hS8 => ?_
  simp (disch := omega) only [↓RA, RZ, simprocAttr, hn, q1]
  refine jM (fun q2 => ?_) (fun q2 => ?_)
  ·have e1 : mM ks.length cs i = 8 := by unfold mM; simp only; rw [if_pos (by simpa using q2)]
   simp (disch := omega) only [↓RA, RZ, simprocAttr, hn, a0w, q1, q2]
   exact ⟨by rw [key (by rw [e1]; decide), e1], hS8.forget⟩
  have q2' : ¬ kX (iB cs i).name = false := by simpa using q2
  simp (disch := omega) only [↓RA, RZ, simprocAttr, hn, g1, (hS8.sl hc).aR, q1, q2]
  have hA := hS8.var 0 rfl
  refine hS8.cF (b9f _ (cs.take i) ((hS8.sl hc).bP i (by omega) (by omega)) (by simp; omega) 110 [ptr A2 0 5] (fun j => decide ((iB (cs.take i) j).name = (iB cs i).name)) (fun j H1 hj hS' => a9t _ A2 (iB cs i) (hS'.va hA))) fun H9 hS9 => ?_
  have hx : 0 ≤ rE (fun j => decide ((iB (cs.take i) j).name = (iB cs i).name)) (cs.take i).length ↔ ∃ q, q < i ∧ (iB cs q).name = (iB cs i).name := by
   rw [a4I]
   constructor
   ·rintro ⟨j, hj, hp⟩
    have hj' : j < i := by simp at hj; omega
    exact ⟨j, hj', by rw [← a7c cs i j hj']; exact of_decide_eq_true hp⟩
   ·rintro ⟨j, hj, hp⟩
    exact ⟨j, by simp; omega, decide_eq_true (by rw [a7c cs i j hj]; exact hp)⟩
  simp (disch := omega) only [↓RA, RZ, simprocAttr, hn, q1, q2]
  refine iA (fun q3 => ?_) (fun q3 => ?_)
  ·have e1 : mM ks.length cs i = 9 := by unfold mM; simp only; rw [if_neg q2', if_pos (hx.1 q3)]
   simp (disch := omega) only [↓RA, RZ, simprocAttr, hn, a0w, q1, q2, q3]
   exact ⟨by rw [key (by rw [e1]; decide), e1], hS9.forget⟩
  have q3' : ¬ ∃ q, q < i ∧ (iB cs q).name = (iB cs i).name := fun hh => q3 (hx.2 hh)
  have hC : mM ks.length cs i = if (iB cs i).src < 0 ∨ ks.length ≤ (iB cs i).src ∨ (iB cs i).dst < 0 ∨ ks.length ≤ (iB cs i).dst then 10 else if (iB cs i).shift < -127 ∨ 127 < (iB cs i).shift then 3 else if (iB cs i).src = (iB cs i).dst ∧ (iB cs i).shift = 0 then 7 else 0 := by
   unfold mM; simp only; rw [if_neg q2', if_neg q3']
  clear hx
  simp (disch := omega) only [↓RA, RZ, simprocAttr, hn, hS9.ld 0 rfl, q1, q2, q3]
  refine iN (fun h1 => ?_) (fun h1 => ?_)
  ·simp (disch := omega) only [↓RA, RZ, simprocAttr, hn, a0w, q1, q2, q3, h1]
   (first | (have e1 : mM ks.length cs i = 10 := by rw [hC, if_pos (by omega)]); exact ⟨by rw [key (by rw [e1]; decide), e1], hS9.forget⟩ | (have e1 : mM ks.length cs i = 3 := by rw [hC, if_neg (by omega), if_pos (by omega)]); exact ⟨by rw [key (by rw [e1]; decide), e1], hS9.forget⟩ | (have e1 : mM ks.length cs i = 7 := by rw [hC, if_neg (by omega), if_neg (by omega), if_pos (by omega)]); exact ⟨by rw [key (by rw [e1]; decide), e1], hS9.forget⟩)
  simp (disch := omega) only [↓RA, RZ, simprocAttr, hn, g0, hS9.ld 0 rfl, (hS9.sl hk).len, q1, q2, q3, h1]
  refine iN (fun h2 => ?_) (fun h2 => ?_)
  ·simp (disch := omega) only [↓RA, RZ, simprocAttr, hn, a0w, q1, q2, q3, h1, h2]
   (first | (have e1 : mM ks.length cs i = 10 := by rw [hC, if_pos (by omega)]); exact ⟨by rw [key (by rw [e1]; decide), e1], hS9.forget⟩ | (have e1 : mM ks.length cs i = 3 := by rw [hC, if_neg (by omega), if_pos (by omega)]); exact ⟨by rw [key (by rw [e1]; decide), e1], hS9.forget⟩ | (have e1 : mM ks.length cs i = 7 := by rw [hC, if_neg (by omega), if_neg (by omega), if_pos (by omega)]); exact ⟨by rw [key (by rw [e1]; decide), e1], hS9.forget⟩)
  simp (disch := omega) only [↓RA, RZ, simprocAttr, hn, hS9.ld 0 rfl, q1, q2, q3, h1, h2]
  refine iN (fun h3 => ?_) (fun h3 => ?_)
  ·simp (disch := omega) only [↓RA, RZ, simprocAttr, hn, a0w, q1, q2, q3, h1, h2, h3]
   (first | (have e1 : mM ks.length cs i = 10 := by rw [hC, if_pos (by omega)]); exact ⟨by rw [key (by rw [e1]; decide), e1], hS9.forget⟩ | (have e1 : mM ks.length cs i = 3 := by rw [hC, if_neg (by omega), if_pos (by omega)]); exact ⟨by rw [key (by rw [e1]; decide), e1], hS9.forget⟩ | (have e1 : mM ks.length cs i = 7 := by rw [hC, if_neg (by omega), if_neg (by omega), if_pos (by omega)]); exact ⟨by rw [key (by rw [e1]; decide), e1], hS9.forget⟩)
  simp (disch := omega) only [↓RA, RZ, simprocAttr, hn, g0, hS9.ld 0 rfl, (hS9.sl hk).len, q1, q2, q3, h1, h2, h3]
  refine iA (fun h4 => ?_) (fun h4 => ?_)
  ·simp (disch := omega) only [↓RA, RZ, simprocAttr, hn, a0w, q1, q2, q3, h1, h2, h3, h4]
   (first | (have e1 : mM ks.length cs i = 10 := by rw [hC, if_pos (by omega)]); exact ⟨by rw [key (by rw [e1]; decide), e1], hS9.forget⟩ | (have e1 : mM ks.length cs i = 3 := by rw [hC, if_neg (by omega), if_pos (by omega)]); exact ⟨by rw [key (by rw [e1]; decide), e1], hS9.forget⟩ | (have e1 : mM ks.length cs i = 7 := by rw [hC, if_neg (by omega), if_neg (by omega), if_pos (by omega)]); exact ⟨by rw [key (by rw [e1]; decide), e1], hS9.forget⟩)
  simp (disch := omega) only [↓RA, RZ, simprocAttr, hn, hS9.ld 0 rfl, q1, q2, q3, h1, h2, h3, h4]
  refine iN (fun h5 => ?_) (fun h5 => ?_)
  ·simp (disch := omega) only [↓RA, RZ, simprocAttr, hn, a0w, q1, q2, q3, h1, h2, h3, h4, h5]
   (first | (have e1 : mM ks.length cs i = 10 := by rw [hC, if_pos (by omega)]); exact ⟨by rw [key (by rw [e1]; decide), e1], hS9.forget⟩ | (have e1 : mM ks.length cs i = 3 := by rw [hC, if_neg (by omega), if_pos (by omega)]); exact ⟨by rw [key (by rw [e1]; decide), e1], hS9.forget⟩ | (have e1 : mM ks.length cs i = 7 := by rw [hC, if_neg (by omega), if_neg (by omega), if_pos (by omega)]); exact ⟨by rw [key (by rw [e1]; decide), e1], hS9.forget⟩)
  simp (disch := omega) only [↓RA, RZ, simprocAttr, hn, hS9.ld 0 rfl, q1, q2, q3, h1, h2, h3, h4, h5]
  refine iA (fun h6 => ?_) (fun h6 => ?_)
  ·simp (disch := omega) only [↓RA, RZ, simprocAttr, hn, a0w, q1, q2, q3, h1, h2, h3, h4, h5, h6]
   (first | (have e1 : mM ks.length cs i = 10 := by rw [hC, if_pos (by omega)]); exact ⟨by rw [key (by rw [e1]; decide), e1], hS9.forget⟩ | (have e1 : mM ks.length cs i = 3 := by rw [hC, if_neg (by omega), if_pos (by omega)]); exact ⟨by rw [key (by rw [e1]; decide), e1], hS9.forget⟩ | (have e1 : mM ks.length cs i = 7 := by rw [hC, if_neg (by omega), if_neg (by omega), if_pos (by omega)]); exact ⟨by rw [key (by rw [e1]; decide), e1], hS9.forget⟩)
  simp (disch := omega) only [↓RA, RZ, simprocAttr, hn, hS9.ld 0 rfl, q1, q2, q3, h1, h2, h3, h4, h5, h6]
  refine jP (fun h7 => ?_) (fun h7 => ?_)
  ·simp (disch := omega) only [↓RA, RZ, simprocAttr, hn, hS9.ld 0 rfl, q1, q2, q3, h3, h4, h5, h6, h7]
   refine iA (fun h8 => ?_) (fun h8 => ?_)
   ·simp (disch := omega) only [↓RA, RZ, simprocAttr, hn, a0w, q1, q2, q3, h3, h4, h7, h8]
    (first | (have e1 : mM ks.length cs i = 10 := by rw [hC, if_pos (by omega)]); exact ⟨by rw [key (by rw [e1]; decide), e1], hS9.forget⟩ | (have e1 : mM ks.length cs i = 3 := by rw [hC, if_neg (by omega), if_pos (by omega)]); exact ⟨by rw [key (by rw [e1]; decide), e1], hS9.forget⟩ | (have e1 : mM ks.length cs i = 7 := by rw [hC, if_neg (by omega), if_neg (by omega), if_pos (by omega)]); exact ⟨by rw [key (by rw [e1]; decide), e1], hS9.forget⟩)
   simp (disch := omega) only [↓RA, RZ, simprocAttr, hn, g0, g1, g27, g28, g29, q1, q2, q3, h3, h4, h5, h6, h7, h8]
   have e0 : mM ks.length cs i = 0 := by rw [hC, if_neg (by omega), if_neg (by omega), if_neg (by omega)]
   exact ⟨n - 1, by omega, i + 1, ⟨by omega, fun j hj => by rcases dB.1 hj with e | e; (· exact hz j e); (· rw [e]; exact e0)⟩, by simp, hS9.sub (by simp)⟩
  simp (disch := omega) only [↓RA, RZ, simprocAttr, hn, g0, g1, g27, g28, g29, q1, q2, q3, h1, h2, h3, h4, h5, h6, h7]
  have e0 : mM ks.length cs i = 0 := by rw [hC, if_neg (by omega), if_neg (by omega), if_neg (by omega)]
  exact ⟨n - 1, by omega, i + 1, ⟨by omega, fun j hj => by rcases dB.1 hj with e | e; (· exact hz j e); (· rw [e]; exact e0)⟩, by simp, hS9.sub (by simp)⟩
 simp (disch := omega) only [↓RA, RZ, simprocAttr, hn, a0w, q1]
 exact ⟨by rw [hE, kM _ _ fun j hj => hz j (by omega)], hS5.forget⟩
def oT (rs : List Rk) (lo hi : Int) (l : List Stp) (j : Nat) : Int := if stopE rs lo hi (iB l j) ≠ 0 then stopE rs lo hi (iB l j) else if ∃ q, q < j ∧ (iB l q).name = (iB l j).name then 9 else 0
def divE (rs : List Rk) (d : Dvn) : Int := if qS d.lo d.hi ≠ 0 then qS d.lo d.hi else if 60 < d.stops.length then 4 else lL (oT rs d.lo d.hi d.stops) d.stops.length
theorem zH {kvs kvs' : List (ByteArray × Bool)} {f : Nat → ByteArray} {i : Nat} (h : ∀ t, pV kvs t = true ↔ ∃ q, q < i ∧ f q = t) (h' : ∀ t, pV kvs' t = (pV kvs t || decide (t = f i))) : ∀ t, pV kvs' t = true ↔ ∃ q, q < i + 1 ∧ f q = t := by
 intro t
 rw [h', ez, h, decide_eq_true_iff]
 constructor
 ·rintro (⟨q, hq, e⟩ | e)
  ·exact ⟨q, by omega, e⟩
  ·exact ⟨i, by omega, e.symm⟩
 ·rintro ⟨q, hq, e⟩
  rcases dB.1 hq with hh | hh
  ·exact .inl ⟨q, hh, e⟩
  ·right; rw [← e, hh]
theorem a1z (t : ByteArray) : pV [] t = false := rfl
theorem c1f (o : Org) (ho : o.In H) (d : Dvn) (hd : d.In H) :
 Fn prog 58 [.agg #[.string o.name, o.rv, o.dv, o.cv], .agg #[.string d.name, .bool d.pedal, I d.lo, I d.hi, d.sv]] H fun v H' => v = I (divE o.ranks d) ∧ St prog H H' [] := by
 have hl := hd.2.2
 refine .aM func58 rfl (by kernel_rfl) (m := 47) rfl fun l hn g0 g1 => ?_
 simp (disch := omega) only [↓RA, RB, simprocAttr, g0]
 refine (sR H).eNew 4 [(.string o.name), o.rv, o.dv, o.cv] rfl rfl (by simp [OC, ((sR H).sl ho.1).cells.2.1, ((sR H).sl ho.2.2.1).cells.2.1, ((sR H).sl ho.2.2.2.2.1).cells.2.1]) mD fun A1 H1 hS1 => ?_
 simp only [RT] at hS1
 simp (disch := omega) only [↓RA, RB, simprocAttr, g1]
 refine hS1.eNew 5 [(.string d.name), (.bool d.pedal), I d.lo, I d.hi, d.sv] rfl rfl (by simp [OC, (hS1.sl hd.1).cells.2.1]) rP fun A2 H2 hS2 => ?_
 simp only [RT] at hS2
 simp (disch := omega) only [↓RA, RZ, simprocAttr, hn, hS2.ai 1 rfl]
 refine hS2.cF (a1h d.lo d.hi) fun H3 hS3 => ?_
 simp (disch := omega) only [↓RA, RB, simprocAttr, hn]
 refine iA (fun p1 => ?_) (fun p1 => ?_)
 ·simp (disch := omega) only [↓RA, RZ, simprocAttr, hn, b6w, p1]
  exact ⟨by rw [divE, if_pos p1], hS3.forget⟩
 simp (disch := omega) only [↓RA, RZ, simprocAttr, hn, hS3.ld 1 rfl, (hS3.sl hd.1).len, p1]
 refine iA (fun p2 => ?_) (fun p2 => ?_)
 ·simp (disch := omega) only [↓RA, RZ, simprocAttr, hn, b6w, p1, p2]
  exact ⟨by rw [divE, if_neg p1, if_pos (by omega)], hS3.forget⟩
 have hE : divE o.ranks d = lL (oT o.ranks d.lo d.hi d.stops) d.stops.length := by rw [divE, if_neg p1, if_neg (by omega)]
 simp (disch := omega) only [↓RA, simprocAttr]
 refine hS3.bW a5S fun M1 H4 hS4 => ?_
 simp only [RT] at hS4
 simp (disch := omega) only [↓RA, RZ, simprocAttr, hn, hS4.ld 1 rfl, (hS4.sl hd.1).len, p1, p2]
 refine Wp.al (fun n l H' => l.length = 47 ∧ get l 2 = (ptr A1 0 4) ∧ get l 3 = (ptr A2 0 5) ∧ get l 6 = (.map (some M1)) ∧ get l 23 = d.sv ∧ get l 24 = I d.stops.length ∧ ∃ (i : Nat) (kvs : List (ByteArray × Bool)), (n + i = d.stops.length ∧ (∀ j, j < i → oT o.ranks d.lo d.hi d.stops j = 0) ∧ (∀ t, pV kvs t = true ↔ ∃ q, q < i ∧ (iB d.stops q).name = t)) ∧ get l 25 = I i ∧ St prog H H' [⟨ptr A1 0 4, 0, [(.string o.name), o.rv, o.dv, o.cv]⟩, ⟨ptr A2 0 5, 0, [(.string d.name), (.bool d.pedal), I d.lo, I d.hi, d.sv]⟩, ⟨.map (some M1), 0, KS kvs⟩]) d.stops.length ?_ ?_
 ·simp (disch := omega) only [RB, RC, simprocAttr, hn]
  exact ⟨0, [], ⟨by omega, by simp, by simp [a1z]⟩, rfl, hS4⟩
 rintro n l H5 ⟨hn, g2, g3, g6, g23, g24, i, kvs, ⟨hi1,hz,hk⟩, g25, hS5⟩
 simp (disch := omega) only [↓RA, RB, simprocAttr, hn, g24, g25]
 refine iA (fun q1 => ?_) (fun q1 => ?_)
 ·have key : oT o.ranks d.lo d.hi d.stops i ≠ 0 → divE o.ranks d = oT o.ranks d.lo d.hi d.stops i := fun hne => by rw [hE, nD _ _ i (by omega) hne hz]
  simp (disch := omega) only [↓RA, RZ, simprocAttr, hn, g23, g25, (hS5.sl hd.1).idx, (hS5.sl hd.1).ai, Stp.cells, q1]
  refine hS5.eNew 4 [(.string ⟨#[]⟩), I 0, I 0, (.slice none 0 0)] rfl rfl rfl mR fun A3 H6 hS6 => ?_
  simp only [RT] at hS6
  simp (disch := omega) only [↓RA, RZ, simprocAttr, hn, q1]
  refine hS6.ab 3 rfl [(.string (iB d.stops i).name), I (iB d.stops i).num, I (iB d.stops i).den, (iB d.stops i).gv] rfl (by simp [OC, (hS6.sl (hd.2.1 (iB d.stops i) (iD (by omega))).1).cells.2.1]) mR (by simp) fun H7 hS7 => ?_
  simp only [RT] at hS7
  simp (disch := omega) only [↓RA, RZ, simprocAttr, hn, g2, g3, hS7.ld 0 rfl, hS7.ai 1 rfl, b3R (hS7.sl ho.1).cells, hS7.ai 3 rfl, q1]
  refine hS7.cF (b8T o.rv o.ranks d.lo d.hi (hS7.sl ho.1) (fun r h => (ho.2.1 r h).ae hS7) ho.2.2.2.2.2.1 (iB d.stops i) ((hd.2.1 _ (iD (by omega))).ae hS7)) fun H8 hS8 => ?_
  simp (disch := omega) only [↓RA, RZ, simprocAttr, hn, q1]
  refine iA (fun q2 => ?_) (fun q2 => ?_)
  ·have e1 : oT o.ranks d.lo d.hi d.stops i = stopE o.ranks d.lo d.hi (iB d.stops i) := by rw [oT, if_pos q2]
   simp (disch := omega) only [↓RA, RZ, simprocAttr, hn, b6w, q1, q2]
   exact ⟨by rw [key (by rw [e1]; exact q2), e1], hS8.forget⟩
  simp (disch := omega) only [↓RA, RZ, simprocAttr, hn, g6, hS8.ld 3 rfl, q1, q2]
  have hM1 := hS8.pick (os' := [⟨.map (some M1), 0, _⟩]) [2] (by decide) rfl
  have hR1 := hS8.pick (os' := [⟨.map (some M1), 0, _⟩, ⟨ptr A1 0 4, 0, _⟩, ⟨ptr A2 0 5, 0, _⟩, ⟨ptr A3 0 4, 0, _⟩]) [2, 0, 1, 3] (by decide) rfl
  refine iF (a2U _ M1 kvs (iB d.stops i).name hM1.aF) ?_
  rintro r H9 ⟨rfl, kvs', hk', hT3⟩
  have hS9 := hR1.frame hT3
  simp only [RT] at hS9
  simp (disch := omega) only [↓RA, RZ, simprocAttr, hn, q1, q2]
  refine iA (fun q3 => ?_) (fun q3 => ?_)
  ·have q3' : pV kvs (iB d.stops i).name = true := by
    by_cases hh : pV kvs (iB d.stops i).name = true
    ·exact hh
    ·rw [if_neg hh] at q3; exact absurd rfl q3
   have e1 : oT o.ranks d.lo d.hi d.stops i = 9 := by rw [oT, if_neg q2, if_pos ((hk _).1 q3')]
   simp (disch := omega) only [↓RA, RZ, simprocAttr, hn, b6w, q1, q2, q3]
   exact ⟨by rw [key (by rw [e1]; decide), e1, if_pos q3'], hS9.forget⟩
  have q3' : ¬ pV kvs (iB d.stops i).name = true := fun hh => q3 (by rw [if_pos hh]; decide)
  have e0 : oT o.ranks d.lo d.hi d.stops i = 0 := by rw [oT, if_neg q2, if_neg (fun hh => q3' ((hk _).2 hh))]
  simp (disch := omega) only [↓RA, RZ, simprocAttr, hn, g2, g3, g6, g23, g24, g25, q1, q2, q3]
  exact ⟨n - 1, by omega, i + 1, kvs', ⟨by omega, fun j hj => by rcases dB.1 hj with e | e; (· exact hz j e); (· rw [e]; exact e0), zH (f := fun q => (iB d.stops q).name) hk hk'⟩, by simp, hS9.pick [1, 2, 0] (by decide) rfl⟩
 simp (disch := omega) only [↓RA, RZ, simprocAttr, hn, b6w, q1]
 exact ⟨by rw [hE, kM _ _ fun j hj => hz j (by omega)], hS5.forget⟩
def nP (l : List Rk) (j : Nat) : Int := if rankE (iB l j) ≠ 0 then rankE (iB l j) else if ∃ q, q < j ∧ (iB l q).name = (iB l j).name then 9 else 0
def tJ (rs : List Rk) (l : List Dvn) (j : Nat) : Int := if kX (iB l j).name = false then 8 else if ∃ q, q < j ∧ (iB l q).name = (iB l j).name then 9 else divE rs (iB l j)
def kps (l : List Dvn) : List (Int × Int) := l.map fun d => (d.lo, d.hi)
def organE (o : Org) : Int := if kX o.name = false then 8 else if 60 < o.ranks.length then 4 else if lL (nP o.ranks) o.ranks.length ≠ 0 then lL (nP o.ranks) o.ranks.length else
 if o.dvs.length = 0 then 13 else if 8 < o.dvs.length then 4 else if lL (tJ o.ranks o.dvs) o.dvs.length ≠ 0 then lL (tJ o.ranks o.dvs) o.dvs.length else sZ (kps o.dvs) o.cpls
theorem uS (k : Int × Int) : (kpc k).length = 2 := rfl
theorem b6K (l : List Dvn) (i : Nat) (h : i < l.length) : (kps (l.take (i + 1))).flatMap kpc = (kps (l.take i)).flatMap kpc ++ [I (iB l i).lo, I (iB l i).hi] := by
 unfold kps
 rw [vI l i h, dZ, dM]
 rfl
theorem yL (o : Org) (ho : o.In H) : Fn prog 20 [.agg #[.string o.name, o.rv, o.dv, o.cv]] H fun v H' => v = I (organE o) ∧ St prog H H' [] := by
 have hlr := ho.2.2.2.2.2.1
 have hld := ho.2.2.2.2.2.2.1
 have hlc := ho.2.2.2.2.2.2.2
 refine .aW func20 rfl (by kernel_rfl) (m := 89) rfl fun l hn g0 => ?_
 simp (disch := omega) only [↓RA, RB, simprocAttr, g0]
 refine (sR H).eNew 4 [(.string o.name), o.rv, o.dv, o.cv] rfl rfl (by simp [OC, ((sR H).sl ho.1).cells.2.1, ((sR H).sl ho.2.2.1).cells.2.1, ((sR H).sl ho.2.2.2.2.1).cells.2.1]) mD fun A1 H1 hS1 => ?_
 simp only [RT] at hS1
 simp (disch := omega) only [↓RA, RZ, simprocAttr, hn, hS1.ld 0 rfl]
 refine hS1.cF (pX _) fun H2 hS2 => ?_
 simp (disch := omega) only [↓RA, RB, simprocAttr, hn]
 refine jM (fun p1 => ?_) (fun p1 => ?_)
 ·simp (disch := omega) only [↓RA, RB, simprocAttr, hn, a3a, p1]
  exact ⟨by rw [organE, if_pos (by simpa using p1)], hS2.forget⟩
 have p1' : ¬ kX o.name = false := by simpa using p1
 simp (disch := omega) only [↓RA, RZ, simprocAttr, hn, hS2.ld 0 rfl, (hS2.sl ho.1).len, p1]
 refine iA (fun p2 => ?_) (fun p2 => ?_)
 ·simp (disch := omega) only [↓RA, RZ, simprocAttr, hn, a3a, p1, p2]
  exact ⟨by rw [organE, if_neg p1', if_pos (by omega)], hS2.forget⟩
 simp (disch := omega) only [↓RA, simprocAttr]
 refine hS2.bW a5S fun M1 H3 hS3 => ?_
 simp only [RT] at hS3
 simp (disch := omega) only [↓RA, RZ, simprocAttr, hn, hS3.ld 0 rfl, (hS3.sl ho.1).len, p1, p2]
 refine Wp.al (fun n l H' => l.length = 89 ∧ get l 1 = (ptr A1 0 4) ∧ get l 3 = (.map (some M1)) ∧ get l 25 = o.rv ∧ get l 26 = I o.ranks.length ∧ ∃ (i : Nat) (kvs : List (ByteArray × Bool)), (n + i = o.ranks.length ∧ (∀ j, j < i → nP o.ranks j = 0) ∧ (∀ t, pV kvs t = true ↔ ∃ q, q < i ∧ (iB o.ranks q).name = t)) ∧ get l 27 = I i ∧ St prog H H' [⟨ptr A1 0 4, 0, [(.string o.name), o.rv, o.dv, o.cv]⟩, ⟨.map (some M1), 0, KS kvs⟩]) o.ranks.length ?_ ?_
 ·simp (disch := omega) only [RB, RC, simprocAttr, hn]
  exact ⟨0, [], ⟨by omega, by simp, by simp [a1z]⟩, rfl, hS3⟩
 rintro n l H4 ⟨hn, g1, g3, g25, g26, i, kvs, ⟨hi1,hz,hk⟩, g27, hS4⟩
 simp (disch := omega) only [↓RA, RB, simprocAttr, hn, g26, g27]
 refine iA (fun q1 => ?_) (fun q1 => ?_)
 ·have key : nP o.ranks i ≠ 0 → organE o = nP o.ranks i := fun hne => by rw [organE, if_neg p1', if_neg (by omega), nD _ _ i (by omega) hne hz, if_pos hne]
  simp (disch := omega) only [↓RA, RZ, simprocAttr, hn, g25, g27, (hS4.sl ho.1).idx, (hS4.sl ho.1).ai, Rk.cells, q1]
  refine hS4.eNew 6 [(.string ⟨#[]⟩), (.string ⟨#[]⟩), I 0, I 0, I 0, (.slice none 0 0)] rfl rfl rfl tI fun A2 H5 hS5 => ?_
  simp only [RT] at hS5
  simp (disch := omega) only [↓RA, RZ, simprocAttr, hn, q1]
  refine hS5.ab 2 rfl [(.string (iB o.ranks i).name), (.string (iB o.ranks i).tone), I (iB o.ranks i).num, I (iB o.ranks i).den, I (iB o.ranks i).first, (iB o.ranks i).wv] rfl (by simp [OC, (hS5.sl (ho.2.1 (iB o.ranks i) (iD (by omega))).1).cells.2.1]) tI (by simp) fun H6 hS6 => ?_
  simp only [RT] at hS6
  simp (disch := omega) only [↓RA, RZ, simprocAttr, hn, hS6.ai 2 rfl, q1]
  refine hS6.cF (b1l (iB o.ranks i) ((ho.2.1 _ (iD (by omega))).ae hS6)) fun H7 hS7 => ?_
  simp (disch := omega) only [↓RA, RZ, simprocAttr, hn, q1]
  refine iA (fun q2 => ?_) (fun q2 => ?_)
  ·have e1 : nP o.ranks i = rankE (iB o.ranks i) := by rw [nP, if_pos q2]
   simp (disch := omega) only [↓RA, RZ, simprocAttr, hn, a3a, q1, q2]
   exact ⟨by rw [key (by rw [e1]; exact q2), e1], hS7.forget⟩
  simp (disch := omega) only [↓RA, RZ, simprocAttr, hn, g3, hS7.ld 2 rfl, q1, q2]
  have hM1 := hS7.pick (os' := [⟨.map (some M1), 0, _⟩]) [1] (by decide) rfl
  have hR1 := hS7.pick (os' := [⟨.map (some M1), 0, _⟩, ⟨ptr A1 0 4, 0, _⟩, ⟨ptr A2 0 6, 0, _⟩]) [1, 0, 2] (by decide) rfl
  refine iF (a2U _ M1 kvs (iB o.ranks i).name hM1.aF) ?_
  rintro r H8 ⟨rfl, kvs', hk', hT3⟩
  have hS8 := hR1.frame hT3
  simp only [RT] at hS8
  simp (disch := omega) only [↓RA, RZ, simprocAttr, hn, q1, q2]
  refine iA (fun q3 => ?_) (fun q3 => ?_)
  ·have q3' : pV kvs (iB o.ranks i).name = true := by
    by_cases hh : pV kvs (iB o.ranks i).name = true
    ·exact hh
    ·rw [if_neg hh] at q3; exact absurd rfl q3
   have e1 : nP o.ranks i = 9 := by rw [nP, if_neg q2, if_pos ((hk _).1 q3')]
   simp (disch := omega) only [↓RA, RZ, simprocAttr, hn, a3a, q1, q2, q3]
   exact ⟨by rw [key (by rw [e1]; decide), e1, if_pos q3'], hS8.forget⟩
  have q3' : ¬ pV kvs (iB o.ranks i).name = true := fun hh => q3 (by rw [if_pos hh]; decide)
  have e0 : nP o.ranks i = 0 := by rw [nP, if_neg q2, if_neg (fun hh => q3' ((hk _).2 hh))]
  simp (disch := omega) only [↓RA, RZ, simprocAttr, hn, g1, g3, g25, g26, g27, q1, q2, q3]
  exact ⟨n - 1, by omega, i + 1, kvs', ⟨by omega, fun j hj => by rcases dB.1 hj with e | e; (· exact hz j e); (· rw [e]; exact e0), zH (f := fun q => (iB o.ranks q).name) hk hk'⟩, by simp, hS8.pick [1, 0] (by decide) rfl⟩
 have hR : lL (nP o.ranks) o.ranks.length = 0 := kM _ _ fun j hj => hz j (by omega)
 clear hk hz
 simp (disch := omega) only [↓RA, RZ, simprocAttr, hn, g1, hS4.ld 0 rfl, (hS4.sl ho.2.2.1).len, q1]
 refine iA (fun p4 => ?_) (fun p4 => ?_)
 ·simp (disch := omega) only [↓RA, RZ, simprocAttr, hn, a3a, q1, p4]
  exact ⟨by rw [organE, if_neg p1', if_neg (by omega), if_neg (by rw [hR]; simp), if_pos (by omega)], hS4.forget⟩
 simp (disch := omega) only [↓RA, RZ, simprocAttr, hn, g1, hS4.ld 0 rfl, (hS4.sl ho.2.2.1).len, q1, p4]
 refine iA (fun p5 => ?_) (fun p5 => ?_)
 ·simp (disch := omega) only [↓RA, RZ, simprocAttr, hn, a3a, q1, p4, p5]
  exact ⟨by rw [organE, if_neg p1', if_neg (by omega), if_neg (by rw [hR]; simp), if_neg (by omega), if_pos (by omega)], hS4.forget⟩
 have hE : organE o = if lL (tJ o.ranks o.dvs) o.dvs.length ≠ 0 then lL (tJ o.ranks o.dvs) o.dvs.length else sZ (kps o.dvs) o.cpls := by
  rw [organE, if_neg p1', if_neg (by omega), if_neg (by rw [hR]; simp), if_neg (by omega), if_neg (by omega)]
 clear hR
 simp (disch := omega) only [↓RA, simprocAttr]
 refine hS4.bW a5S fun M2 H9 hS9 => ?_
 simp only [RT] at hS9
 simp (disch := omega) only [↓RA, RZ, simprocAttr, hn, g1, hS9.ld 0 rfl, (hS9.sl ho.2.2.1).len, q1, p4, p5]
 have hS10 := hS9.pick (os' := [⟨ptr A1 0 4, 0, _⟩, ⟨.map (some M2), 0, _⟩]) [0, 2] (by decide) rfl
 have hS11 := hS10.nil 1
 simp only [RT] at hS11
 refine Wp.al (fun n l H' => l.length = 89 ∧ get l 1 = (ptr A1 0 4) ∧ get l 3 = (.map (some M2)) ∧ get l 56 = o.dv ∧ get l 57 = I o.dvs.length ∧ ∃ (i : Nat) (kvs : List (ByteArray × Bool)) (w : Value), (n + i = o.dvs.length ∧ (∀ j, j < i → tJ o.ranks o.dvs j = 0) ∧ (∀ t, pV kvs t = true ↔ ∃ q, q < i ∧ (iB o.dvs q).name = t)) ∧ get l 58 = I i ∧ get l 8 = w ∧ St prog H H' [⟨ptr A1 0 4, 0, [(.string o.name), o.rv, o.dv, o.cv]⟩, ⟨.map (some M2), 0, KS kvs⟩, ⟨w, 2, (kps (o.dvs.take i)).flatMap kpc⟩]) o.dvs.length ?_ ?_
 ·simp (disch := omega) only [RB, RC, simprocAttr, hn, g1]
  exact ⟨0, [], _, ⟨by omega, by simp, by simp [a1z]⟩, rfl, rfl, hS11⟩
 rintro n l H10 ⟨hn, g1, g3, g56, g57, i, kvs, w, ⟨hi1,hz,hk⟩, g58, g8, hS12⟩
 simp (disch := omega) only [↓RA, RB, simprocAttr, hn, g57, g58]
 refine iA (fun q1 => ?_) (fun q1 => ?_)
 ·have key : tJ o.ranks o.dvs i ≠ 0 → organE o = tJ o.ranks o.dvs i := fun hne => by rw [hE, nD _ _ i (by omega) hne hz, if_pos hne]
  simp (disch := omega) only [↓RA, RZ, simprocAttr, hn, g56, g58, (hS12.sl ho.2.2.1).idx, (hS12.sl ho.2.2.1).ai, Dvn.cells, q1]
  refine hS12.eNew 5 [(.string ⟨#[]⟩), (.bool false), I 0, I 0, (.slice none 0 0)] rfl rfl rfl rP fun A3 H11 hS13 => ?_
  simp only [RT] at hS13
  simp (disch := omega) only [↓RA, RZ, simprocAttr, hn, q1]
  refine hS13.ab 3 rfl [(.string (iB o.dvs i).name), (.bool (iB o.dvs i).pedal), I (iB o.dvs i).lo, I (iB o.dvs i).hi, (iB o.dvs i).sv] rfl (by simp [OC, (hS13.sl (ho.2.2.2.1 (iB o.dvs i) (iD (by omega))).1).cells.2.1]) rP (by simp) fun H12 hS14 => ?_
  simp only [RT] at hS14
  simp (disch := omega) only [↓RA, RZ, simprocAttr, hn, hS14.ld 3 rfl, q1]
  refine hS14.cF (pX _) fun H13 hS15 => ?_
  simp (disch := omega) only [↓RA, RZ, simprocAttr, hn, q1]
  refine jM (fun q2 => ?_) (fun q2 => ?_)
  ·have e1 : tJ o.ranks o.dvs i = 8 := by rw [tJ, if_pos (by simpa using q2)]
   simp (disch := omega) only [↓RA, RZ, simprocAttr, hn, a3a, q1, q2]
   exact ⟨by rw [key (by rw [e1]; decide), e1], hS15.forget⟩
  have q2' : ¬ kX (iB o.dvs i).name = false := by simpa using q2
  simp (disch := omega) only [↓RA, RZ, simprocAttr, hn, g3, hS15.ld 3 rfl, q1, q2]
  have hM2 := hS15.pick (os' := [⟨.map (some M2), 0, _⟩]) [1] (by decide) rfl
  have hR2 := hS15.pick (os' := [⟨.map (some M2), 0, _⟩, ⟨ptr A1 0 4, 0, _⟩, ⟨w, 2, _⟩, ⟨ptr A3 0 5, 0, _⟩]) [1, 0, 2, 3] (by decide) rfl
  refine iF (a2U _ M2 kvs (iB o.dvs i).name hM2.aF) ?_
  rintro r H14 ⟨rfl, kvs', hk', hT5⟩
  have hS16 := hR2.frame hT5
  simp only [RT] at hS16
  simp (disch := omega) only [↓RA, RZ, simprocAttr, hn, q1, q2]
  refine iA (fun q3 => ?_) (fun q3 => ?_)
  ·have q3' : pV kvs (iB o.dvs i).name = true := by
    by_cases hh : pV kvs (iB o.dvs i).name = true
    ·exact hh
    ·rw [if_neg hh] at q3; exact absurd rfl q3
   have e1 : tJ o.ranks o.dvs i = 9 := by rw [tJ, if_neg q2', if_pos ((hk _).1 q3')]
   simp (disch := omega) only [↓RA, RZ, simprocAttr, hn, a3a, q1, q2, q3]
   exact ⟨by rw [key (by rw [e1]; decide), e1, if_pos q3'], hS16.forget⟩
  have q3' : ¬ pV kvs (iB o.dvs i).name = true := fun hh => q3 (by rw [if_pos hh]; decide)
  simp (disch := omega) only [↓RA, RZ, simprocAttr, hn, g1, hS16.ai 1 rfl, hS16.ai 3 rfl, q1, q2, q3]
  refine hS16.cF (c1f o (ho.ae hS16) (iB o.dvs i) ((ho.2.2.2.1 _ (iD (by omega))).ae hS16)) fun H15 hS17 => ?_
  have e0 : tJ o.ranks o.dvs i = divE o.ranks (iB o.dvs i) := by rw [tJ, if_neg q2', if_neg (fun hh => q3' ((hk _).2 hh))]
  simp (disch := omega) only [↓RA, RZ, simprocAttr, hn, q1, q2, q3]
  refine iA (fun q4 => ?_) (fun q4 => ?_)
  ·simp (disch := omega) only [↓RA, RZ, simprocAttr, hn, a3a, q1, q2, q3, q4]
   exact ⟨by rw [key (by rw [e0]; exact q4), e0], hS17.forget⟩
  have e2 : tJ o.ranks o.dvs i = 0 := by rw [e0]; exact dD.1 q4
  simp (disch := omega) only [↓RA, RZ, simprocAttr, hn, g8, hS17.ai 3 rfl, q1, q2, q3, q4]
  refine hS17.ag [I (iB o.dvs i).lo, I (iB o.dvs i).hi] b4j c0F rfl rfl (by simp [Value.cells]) rfl rfl (by decide) (by decide) fun w1 H16 hS18 => ?_
  simp only [RT] at hS18
  simp (disch := omega) only [↓RA, RZ, simprocAttr, hn, q1, q2, q3, q4]
  refine hS18.ar 2 rfl (hS18.rd 4 rfl) b4j (by rw [iG uS]; simp [kps]; omega) fun w2 H17 hS19 => ?_
  simp only [RT] at hS19
  simp (disch := omega) only [↓RA, RZ, simprocAttr, hn, g1, g3, g56, g57, g58, q1, q2, q3, q4]
  refine ⟨n - 1, by omega, i + 1, kvs', _, ⟨by omega, fun j hj => by rcases dB.1 hj with e | e; (· exact hz j e); (· rw [e]; exact e2), zH (f := fun q => (iB o.dvs q).name) hk hk'⟩, by simp, rfl, ?_⟩
  rw [b6K _ _ (by omega)]
  exact hS19.pick [1, 0, 2] (by decide) rfl
 have hD : lL (tJ o.ranks o.dvs) o.dvs.length = 0 := kM _ _ fun j hj => hz j (by omega)
 have hi : i = o.dvs.length := by omega
 subst hi
 rw [eJ] at hS12
 simp (disch := omega) only [↓RA, RZ, simprocAttr, hn, g1, g8, hS12.ld 0 rfl, q1]
 refine hS12.cF (a5Z w o.cv (kps o.dvs) o.cpls (hS12.aw 2 rfl uS) (hS12.sl ho.2.2.2.2.1) (by simp [kps]; omega) hlc) fun H18 hS20 => ?_
 simp (disch := omega) only [↓RA, RZ, simprocAttr, hn, a3a, q1]
 exact ⟨by rw [hE, if_neg (by rw [hD]; simp)], hS20.forget⟩
def kY : List (Int × Int) := [(8, 1), (4, 1), (16, 1), (8, 3), (2, 1), (8, 5)]
def lO : List (Int × Int) := [(8, 1), (4, 1), (16, 1), (2, 1), (8, 3), (8, 5), (4, 3), (1, 1), (32, 1), (16, 3), (16, 5), (32, 3), (8, 7), (2, 3), (1, 2), (64, 1)]
theorem a6E (k : Nat) : Fn prog 97 [.int .u8 k] H fun r H' => r = .agg #[I (iB kY (k % 6)).1, I (iB kY (k % 6)).2] ∧ St prog H H' [] := by
 refine .aW func97 rfl (by kernel_rfl) (m := 14) rfl fun l hn g0 => ?_
 simp (disch := omega) only [↓RA, RZ, simprocAttr]
 refine (sR H).eNew 2 [I 0, I 0] rfl rfl rfl zY fun A1 H1 hS1 => ?_
 simp only [RT] at hS1
 simp (disch := omega) only [↓RA, RB, simprocAttr, hn, rR]
 refine hS1.ag [I 8, I 1, I 4, I 1, I 16, I 1, I 8, I 3, I 2, I 1, I 8, I 5] c0B c0A rfl rfl (by simp [Value.cells]) rfl rfl (by decide) (by decide) fun w1 H2 hS2 => ?_
 simp only [RT] at hS2
 simp (disch := omega) only [↓RA, RZ, simprocAttr, hn, g0]
 have hR : St prog H H2 [⟨ptr A1 0 2, 0, _⟩, ⟨w1, 2, kY.flatMap kpc⟩] := hS2
 have hL : kY.length = 6 := rfl
 have hk : k % 6 < 6 := eI _ (by decide)
 have hk2 : (k : Int).tmod 6 = ((k % 6 : Nat) : Int) := (dU k 6).symm
 try rw [hk2]
 simp (disch := omega) only [↓RA, RZ, simprocAttr, hn, (hR.aw 1 rfl uS).idx, (hR.aw 1 rfl uS).ai, kpc]
 refine hR.ab 0 rfl [I (iB kY (k % 6 : Nat)).1, I (iB kY (k % 6 : Nat)).2] rfl rfl zY (by simp) fun H3 hS3 => ?_
 simp only [RT] at hS3
 simp (disch := omega) only [↓RA, RZ, simprocAttr, hn, c6i, hS3.ai 0 rfl]
 first | exact hS3.forget | exact ⟨rfl, hS3.forget⟩
theorem a6B (k : Nat) : Fn prog 96 [.int .u8 k] H fun r H' => r = .agg #[I (iB lO (k % 16)).1, I (iB lO (k % 16)).2] ∧ St prog H H' [] := by
 refine .aW func96 rfl (by kernel_rfl) (m := 24) rfl fun l hn g0 => ?_
 simp (disch := omega) only [↓RA, RZ, simprocAttr]
 refine (sR H).eNew 2 [I 0, I 0] rfl rfl rfl zY fun A1 H1 hS1 => ?_
 simp only [RT] at hS1
 simp (disch := omega) only [↓RA, RB, simprocAttr, hn, rR]
 refine hS1.ag [I 8, I 1, I 4, I 1, I 16, I 1, I 2, I 1, I 8, I 3, I 8, I 5, I 4, I 3, I 1, I 1, I 32, I 1, I 16, I 3, I 16, I 5, I 32, I 3, I 8, I 7, I 2, I 3, I 1, I 2, I 64, I 1] c0B c0A rfl rfl (by simp [Value.cells]) rfl rfl (by decide) (by decide) fun w1 H2 hS2 => ?_
 simp only [RT] at hS2
 simp (disch := omega) only [↓RA, RZ, simprocAttr, hn, g0]
 have hR : St prog H H2 [⟨ptr A1 0 2, 0, _⟩, ⟨w1, 2, lO.flatMap kpc⟩] := hS2
 have hL : lO.length = 16 := rfl
 have hk : k % 16 < 16 := eI _ (by decide)
 have hk2 : (k : Int).tmod 16 = ((k % 16 : Nat) : Int) := (dU k 16).symm
 try rw [hk2]
 simp (disch := omega) only [↓RA, RZ, simprocAttr, hn, (hR.aw 1 rfl uS).idx, (hR.aw 1 rfl uS).ai, kpc]
 refine hR.ab 0 rfl [I (iB lO (k % 16 : Nat)).1, I (iB lO (k % 16 : Nat)).2] rfl rfl zY (by simp) fun H3 hS3 => ?_
 simp only [RT] at hS3
 simp (disch := omega) only [↓RA, RZ, simprocAttr, hn, c6D, hS3.ai 0 rfl]
 first | exact hS3.forget | exact ⟨rfl, hS3.forget⟩
end Go.Ds
namespace Go.Ds
open Go.Proofs Go.Proofs.Tryz
variable {H : Heap}
set_option maxRecDepth 10000
structure RPl where
 tone : Nat
 feet : Nat
 first : Int
 pipes : Nat
 w0 : Nat
 w1 : Nat
 w2 : Nat
 w3 : Nat
 w4 : Nat
 deriving Inhabited
def RPl.cells (p : RPl) : List Value := [.int .u8 p.tone, .int .u8 p.feet, .int .i8 p.first, .int .u8 p.pipes, .int .u8 p.w0, .int .u8 p.w1, .int .u8 p.w2, .int .u8 p.w3, .int .u8 p.w4]
def RPl.Ok (p : RPl) : Prop := p.tone < 256 ∧ p.feet < 256 ∧ -128 ≤ p.first ∧ p.first < 128 ∧ p.pipes < 256 ∧ p.w0 < 256 ∧ p.w1 < 256 ∧ p.w2 < 256 ∧ p.w3 < 256 ∧ p.w4 < 256
def RPl.wind (p : RPl) (j : Nat) : Nat := iB [p.w0, p.w1, p.w2, p.w3, p.w4] (j % 5)
theorem RPl.Ok.wind {p : RPl} (hp : p.Ok) (j : Nat) : p.wind j < 256 := by
 obtain ⟨_, _, _, _, _, h0, h1, h2, h3, h4⟩ := hp
 have : j % 5 = 0 ∨ j % 5 = 1 ∨ j % 5 = 2 ∨ j % 5 = 3 ∨ j % 5 = 4 := by omega
 unfold RPl.wind
 rcases this with e | e | e | e | e <;> rw [e] <;> assumption
def tA : List ByteArray := [⟨#[79, 112, 101, 110]⟩, ⟨#[70, 108, 117, 116, 101]⟩, ⟨#[82, 101, 101, 100]⟩]
theorem b3F (p : RPl) (hp : p.Ok) (i : Nat) (hi : i < 10) : Fn prog 47 [.agg #[.int .u8 p.tone, .int .u8 p.feet, .int .i8 p.first, .int .u8 p.pipes, .int .u8 p.w0, .int .u8 p.w1, .int .u8 p.w2, .int .u8 p.w3, .int .u8 p.w4], I i] H fun r H' =>
 ∃ wv, r = .agg #[.string ⟨#[82, UInt8.ofNat (48 + i)]⟩, .string (iB tA (p.tone % 3)), I (iB lO (p.feet % 16)).1, I (iB lO (p.feet % 16)).2, I p.first, wv] ∧
   St prog H H' [⟨wv, 1, (List.range (1 + p.pipes % 25)).map fun j => I (p.wind j)⟩] := by
 have hwb := fun j => hp.wind j
 obtain ⟨h1, h2, h3, h4, h5, _⟩ := hp
 refine .aM func47 rfl (by kernel_rfl) (m := 48) rfl fun l hn g0 g1 => ?_
 have hm : (i : Int).tmod 10 = i := ((dU i 10).symm).trans (by rw [gC hi])
 have ht : (p.tone : Int).tmod 3 = ((p.tone % 3 : Nat) : Int) := (dU p.tone 3).symm
 have ht3 : p.tone % 3 < 3 := eI _ (by decide)
 have htl : tA.length = 3 := rfl
 simp (disch := omega) only [↓RA, RB, simprocAttr, g0]
 refine (sR H).eNew 9 [(.int .u8 p.tone), (.int .u8 p.feet), (.int .i8 p.first), (.int .u8 p.pipes), (.int .u8 p.w0), (.int .u8 p.w1), (.int .u8 p.w2), (.int .u8 p.w3), (.int .u8 p.w4)] rfl rfl rfl b4I fun A1 H1 hS1 => ?_
 simp only [RT] at hS1
 simp (disch := omega) only [↓RA, RZ, simprocAttr]
 refine hS1.eNew 6 [(.string ⟨#[]⟩), (.string ⟨#[]⟩), I 0, I 0, I 0, (.slice none 0 0)] rfl rfl rfl tI fun A2 H2 hS2 => ?_
 simp only [RT] at hS2
 simp (disch := omega) only [↓RA, simprocAttr]
 refine Wp.cu jV [13, 14, 15, 16, 17, 18, 0, 1, 2, 3, 4, 5, 6, 7, 8, 9, 10, 11, 12, 19, 20, 21] [6, 7, 8, 9, 10, 11, 12, 13, 14, 15, 16, 17, 18, 0, 1, 2, 3, 4, 5, 19, 20, 21] ⟨true, [], [(11, 10), (17, 13), (18, 13)]⟩ [(4, 0), (5, 0), (9, 0), (15, 0), (15, 3)] (by kernel_rfl) (by kernel_rfl) (by kernel_rfl) ?_
 simp (disch := omega) only [↓RA, RZ, simprocAttr, hn, hS2.ld 0 rfl]
 refine hS2.cF (a6B p.feet) fun H3 hS3 => ?_
 simp (disch := omega) only [↓RA, RZ, simprocAttr, hn, g1, hS3.ld 0 rfl, hm]
 refine hS3.ag [_] a2J a1E rfl rfl (by simp [Value.cells]) rfl rfl (by decide) (by decide) fun w1 H4 hS4 => ?_
 simp only [RT] at hS4
 simp (disch := omega) only [↓RA, RB, simprocAttr, hn, rM (hS4.rd 2 rfl) kV.1 kV.2.1 kV.2.2, qD]
 refine hS4.ag [(.string ⟨#[79, 112, 101, 110]⟩), (.string ⟨#[70, 108, 117, 116, 101]⟩), (.string ⟨#[82, 101, 101, 100]⟩)] a3U a3t rfl rfl (by simp [Value.cells]) rfl rfl (by decide) (by decide) fun w2 H5 hS5 => ?_
 simp only [RT] at hS5
 simp (disch := omega) only [↓RA, RZ, simprocAttr, hn, hS5.ld 0 rfl, ht]
 have hR : St prog H H5 [⟨ptr A1 0 9, 0, _⟩, ⟨ptr A2 0 6, 0, _⟩, ⟨w1, 1, _⟩, ⟨w2, 1, tA.flatMap (one Value.string)⟩] := hS5
 simp (disch := omega) only [↓RA, RZ, simprocAttr, hn, (hR.aw 3 rfl (lP _)).idx, (hR.aw 3 rfl (lP _)).ld, one, a4M]
 refine hR.eNew 6 [(.string ⟨#[]⟩), (.string ⟨#[]⟩), I 0, I 0, I 0, (.slice none 0 0)] rfl rfl rfl tI fun A3 H6 hS6 => ?_
 simp only [RT] at hS6
 simp (disch := omega) only [↓RA, RB, simprocAttr, hn]
 refine hS6.ab 4 rfl [(.string ⟨#[82, UInt8.ofNat (48 + (i : Int)).toNat]⟩), (.string (iB tA (p.tone % 3 : Nat))), I (iB lO (p.feet % 16)).1, I (iB lO (p.feet % 16)).2, _, (.slice none 0 0)] rfl rfl tI (by simp) fun H7 hS7 => ?_
 simp only [RT] at hS7
 simp (disch := omega) only [↓RA, RZ, simprocAttr, hn, hS2.ld 0 rfl, hS3.ld 0 rfl]
 have hN : St prog H H7 [⟨ptr A1 0 9, 0, _⟩, ⟨ptr A2 0 6, 0, _⟩, ⟨ptr A3 0 6, 0, [.string ⟨#[82, UInt8.ofNat (48 + (i : Int)).toNat]⟩, .string (iB tA (p.tone % 3)), I (iB lO (p.feet % 16)).1, I (iB lO (p.feet % 16)).2, I p.first, .slice none 0 0]⟩, ⟨.slice none 0 0, 1, []⟩] := (hS7.nil 0).pick [0, 1, 4, 5] (by decide) rfl
 refine Wp.al (fun n l H' => l.length = 48 ∧ get l 2 = (ptr A1 0 9) ∧ get l 4 = (ptr A2 0 6) ∧ get l 5 = (ptr A3 0 6) ∧ ∃ (j : Nat) (wv : Value), (n + j = 1 + p.pipes % 25) ∧ get l 6 = I j ∧ St prog H H' [⟨ptr A1 0 9, 0, [(.int .u8 p.tone), (.int .u8 p.feet), (.int .i8 p.first), (.int .u8 p.pipes), (.int .u8 p.w0), (.int .u8 p.w1), (.int .u8 p.w2), (.int .u8 p.w3), (.int .u8 p.w4)]⟩, ⟨ptr A2 0 6, 0, [(.string ⟨#[]⟩), (.string ⟨#[]⟩), I 0, I 0, I 0, (.slice none 0 0)]⟩, ⟨ptr A3 0 6, 0, [.string ⟨#[82, UInt8.ofNat (48 + (i : Int)).toNat]⟩, .string (iB tA (p.tone % 3)), I (iB lO (p.feet % 16)).1, I (iB lO (p.feet % 16)).2, I p.first, wv]⟩, ⟨wv, 1, (List.range j).map fun q => I (p.wind q)⟩]) (1 + p.pipes % 25) ?_ ?_
 ·simp (disch := omega) only [RB, RC, simprocAttr, hn]
  exact ⟨0, _, by omega, rfl, hN⟩
 rintro n l H8 ⟨hn, g2, g4, g5, j, wv, hj, g6, hS8⟩
 have hpp : (p.pipes : Int).tmod 25 = ((p.pipes % 25 : Nat) : Int) := (dU p.pipes 25).symm
 have hj5 : (j : Int).tmod 5 = ((j % 5 : Nat) : Int) := (dU j 5).symm
 have hw : (p.cells)[4 + j % 5]? = some (.int .u8 (p.wind j)) := by
  have : j % 5 = 0 ∨ j % 5 = 1 ∨ j % 5 = 2 ∨ j % 5 = 3 ∨ j % 5 = 4 := by omega
  unfold RPl.wind
  rcases this with e | e | e | e | e <;> rw [e] <;> rfl
 simp only [RPl.cells] at hw
 have hwj := hwb j
 simp (disch := omega) only [↓RA, RZ, simprocAttr, hn, g2, g6, hS8.ld 0 rfl, hpp]
 refine iA (fun q => ?_) (fun q => ?_)
 ·simp (disch := omega) only [↓RA, RC, simprocAttr, q]
  refine Wp.aQ jV [(1, 9)] (by kernel_rfl) (by kernel_rfl) ?_
  simp (disch := omega) only [↓RA, RZ, simprocAttr, hn, g2, g5, g6, hS8.ld 2 rfl, hS8.ld 0 rfl, hw, hj5]
  refine hS8.ag [_] a1A a6c rfl rfl (by simp [Value.cells]) rfl rfl (by decide) (by decide) fun w3 H9 hS9 => ?_
  simp only [RT] at hS9
  simp (disch := omega) only [↓RA, RZ, simprocAttr, hn]
  refine hS9.ar 3 rfl (hS9.rd 4 rfl) a1A (by first | (simp; done) | (simp; omega)) fun w4 H10 hS10 => ?_
  simp only [RT] at hS10
  simp (disch := omega) only [↓RA, RZ, simprocAttr, hn, g5]
  refine hS10.ab 2 rfl [w4] (by rw [(hS10.rd 3 rfl).cells.1]) (by simp [(hS10.rd 3 rfl).cells.2.1]) b7m (by simp) fun H11 hS11 => ?_
  simp only [RT] at hS11
  simp (disch := omega) only [↓RA, RZ, simprocAttr, hn, g2, g4, g5, g6, hS9.ld 2 rfl]
  refine ⟨n - 1, by omega, j + 1, w4, by omega, rfl, ?_⟩
  rw [eO, dZ]
  exact hS11.pick [0, 1, 2, 3] (by decide) rfl
 simp (disch := omega) only [↓RA, RZ, simprocAttr, hn, g4, g5, hS8.ai 2 rfl, q]
 refine hS8.ab 1 rfl [(.string ⟨#[82, UInt8.ofNat (48 + (i : Int)).toNat]⟩), (.string (iB tA (p.tone % 3))), I (iB lO (p.feet % 16)).1, I (iB lO (p.feet % 16)).2, I p.first, wv] rfl (by simp [OC, (hS8.rd 3 rfl).cells.2.1]) tI (by simp) fun H12 hS12 => ?_
 simp only [RT] at hS12
 simp (disch := omega) only [↓RA, RZ, simprocAttr, g4, c6m, hS12.ai 1 rfl, q]
 have hjj : j = 1 + p.pipes % 25 := by omega
 subst hjj
 have he : (48 + (i : Int)).toNat = 48 + i := by omega
 exact ⟨wv, by rw [he], hS12.pick [3] (by decide) rfl⟩
end Go.Ds
namespace Go.Ds
open Go.Proofs
variable {P : Program} {H : Heap} {α : Type} {n : Nat} {cel : α → List Value} {v : Value} {xs : List α} {X Y : Nat → Prop}
theorem RdAt.lt {size : Nat} {cs : List Value} (h : RdAt H v size cs) {B : Nat} (hb : kK v = some B) : B < H.length := by
 rcases h with ⟨h1, _⟩ | ⟨A, i, e, row, ty, rw, lo, ver, n, h, _, _, _, _, _, h7⟩
 ·rw [h1] at hb; simp [kK] at hb
 ·rw [h7] at hb
  simp [kK] at hb
  exact hb ▸ jK h
theorem RdAt.cM {H' : Heap} {size : Nat} {cs : List Value} (h : RdAt H v size cs) (hk : ∀ B, kK v = some B → iQ H' B = iQ H B) : RdAt H' v size cs := by
 rcases h with h | ⟨A, i, e, row, ty, rw, lo, ver, n, h, h2, h3, h4, h5, h6, h7⟩
 ·exact .inl h
 ·exact .inr ⟨A, i, e, row, ty, rw, lo, ver, n, by rw [hk A (by rw [h7]; rfl), h], h2, h3, h4, h5, h6, h7⟩
theorem St.aB {B0 : Base} {os : List Ob} (hS : St P B0 H os) : ∃ B : Base, B = ⟨H, pN os⟩ ∧ St P B H os := ⟨_, rfl, hS.aF⟩
theorem St.aj {B0 B : Base} {H1 : Heap} {os os1 : List Ob} (hS : St P B0 H os) (hB : B = ⟨H, pN os⟩) (h1 : St P B H1 os1) : St P B0 H1 os1 := by
 subst hB
 exact hS.bC h1
def Slx (n : Nat) (cel : α → List Value) (H : Heap) (X : Nat → Prop) (v : Value) (xs : List α) : Prop := Sl n cel H v xs ∧ ∀ B, kK v = some B → X B
def Kept (H : Heap) (X : Nat → Prop) (H' : Heap) (Y : Nat → Prop) : Prop := ∀ B, X B → B < H.length → iQ H' B = iQ H B ∧ Y B
theorem Slx.step {H' : Heap} (h : Slx n cel H X v xs) (hk : Kept H X H' Y) : Slx n cel H' Y v xs :=
 ⟨⟨h.1.rd.cM fun B hb => (hk B (h.2 B hb) (h.1.rd.lt hb)).1, h.1.hc, h.1.pos⟩, fun B hb => (hk B (h.2 B hb) (h.1.rd.lt hb)).2⟩
def nb (vs : List Value) : Nat → Prop := fun B => ∀ v ∈ vs, kK v ≠ some B
theorem a9T (os : List Ob) (B : Nat) : nb (os.map (·.v)) B ↔ ¬ pN os B := by
 unfold nb pN
 constructor
 ·rintro h ⟨o, ho, hb⟩
  exact h o.v (fP ho) hb
 ·intro h v hv hb
  obtain ⟨o, ho, rfl⟩ := dK.1 hv
  exact h ⟨o, ho, hb⟩
theorem St.kept {B : Base} {H' : Heap} {os os' : List Ob} (hS : St P B H' os') (hB : B = ⟨H, pN os⟩) : Kept H (nb (os.map (·.v))) H' (nb (os'.map (·.v))) := by
 subst hB
 intro B hX hB
 rw [a9T] at hX ⊢
 exact ⟨hS.old B hB hX, fun ⟨o, ho, hb⟩ => by
  rcases hS.new o ho B hb with h | h
  ·have h : H.length ≤ B := h
   omega
  ·exact hX h⟩
theorem St.aI {H0 : Base} {H' : Heap} {os : List Ob} (hS : St P H0 H os) : Kept H' (fun B => H.length ≤ B) H' (nb (os.map (·.v))) := by
 intro B hX hB
 rw [a9T]
 exact ⟨rfl, fun ⟨o, ho, hb⟩ => by
  have := (hS.own o ho).lt hb
  omega⟩
theorem Kept.trans {H' H'' : Heap} {X Y Z : Nat → Prop} (h : Kept H X H' Y) (h' : Kept H' Y H'' Z) (hl : H.length ≤ H'.length) : Kept H X H'' Z :=
 fun B hX hB => by
  obtain ⟨e, hY⟩ := h B hX hB
  obtain ⟨e', hZ⟩ := h' B hY (dQ hB hl)
  exact ⟨e'.trans e, hZ⟩
theorem Slx.any (h : Slx n cel H X v xs) : Slx n cel H (fun _ => True) v xs := ⟨h.1, fun _ _ => trivial⟩
theorem St.cg {H0 : Base} {os os' : List Ob} (hS : St P H0 H os) (i : Nat) {m : Nat} (ho : os[i]? = some ⟨v, m + 1, xs.flatMap cel⟩) (hc : ∀ x, (cel x).length = m + 1) (idx : List Nat) (hi : i ∉ idx) (h : idx.map (os[·]?) = os'.map some) :
 Slx (m + 1) cel H (nb (os'.map (·.v))) v xs := by
 refine ⟨hS.aw i ho hc, fun B hb => ?_⟩
 rw [a9T]
 rintro ⟨o, hmem, hob⟩
 have : some o ∈ idx.map (os[·]?) := by rw [h]; exact fP hmem
 obtain ⟨j, hj, hj2⟩ := dK.1 this
 have hne : i ≠ j := fun e => hi (e ▸ hj)
 have hpw := eF.1 hS.sep
 obtain ⟨hi1, ei⟩ := dA.1 ho
 obtain ⟨hj1, ej⟩ := dA.1 hj2
 rcases fR hne with hh | hh
 ·have := hpw i j hi1 hj1 hh B (by rw [ei]; exact hb)
  rw [ej] at this
  exact this hob
 ·have := hpw j i hj1 hi1 hh B (by rw [ej]; exact hob)
  rw [ei] at this
  exact this hb
theorem St.bQ {H0 : Heap} {os : List Ob} (hS : St P H0 H os) (i : Nat) {m : Nat} (ho : os[i]? = some ⟨v, m + 1, xs.flatMap cel⟩) (hc : ∀ x, (cel x).length = m + 1) : Slx (m + 1) cel H (fun B => H0.length ≤ B) v xs :=
 ⟨hS.aw i ho hc, fun B hb => by
  rcases hS.new _ (dT ho) B hb with h | h
  ·exact h
  ·exact h.elim⟩
def Seg.Ix (H : Heap) (X : Nat → Prop) (s : Seg) : Prop := Slx 2 Drw.cells H X s.dv s.draws ∧ s.draws.length < 1000000000
def Stp.Ix (H : Heap) (X : Nat → Prop) (s : Stp) : Prop := Slx 3 Seg.cells H X s.gv s.segs ∧ (∀ g ∈ s.segs, g.Ix H X) ∧ s.segs.length < 1000000000
def Dvn.Ix (H : Heap) (X : Nat → Prop) (d : Dvn) : Prop := Slx 4 Stp.cells H X d.sv d.stops ∧ (∀ s ∈ d.stops, s.Ix H X) ∧ d.stops.length < 1000000000
def Rk.Ix (H : Heap) (X : Nat → Prop) (r : Rk) : Prop := Slx 1 (one I) H X r.wv r.wind ∧ r.wind.length < 1000000000
section
variable {H' : Heap}
theorem Seg.Ix.step {s : Seg} (h : s.Ix H X) (hk : Kept H X H' Y) : s.Ix H' Y := ⟨h.1.step hk, h.2⟩
theorem Stp.Ix.step {s : Stp} (h : s.Ix H X) (hk : Kept H X H' Y) : s.Ix H' Y := ⟨h.1.step hk, fun g hg => (h.2.1 g hg).step hk, h.2.2⟩
theorem Dvn.Ix.step {d : Dvn} (h : d.Ix H X) (hk : Kept H X H' Y) : d.Ix H' Y := ⟨h.1.step hk, fun g hg => (h.2.1 g hg).step hk, h.2.2⟩
theorem Rk.Ix.step {r : Rk} (h : r.Ix H X) (hk : Kept H X H' Y) : r.Ix H' Y := ⟨h.1.step hk, h.2⟩
theorem Seg.Ix.in {s : Seg} (h : s.Ix H X) : s.In H := ⟨h.1.1, h.2⟩
theorem Stp.Ix.in {s : Stp} (h : s.Ix H X) : s.In H := ⟨h.1.1, fun g hg => (h.2.1 g hg).in, h.2.2⟩
theorem Dvn.Ix.in {d : Dvn} (h : d.Ix H X) : d.In H := ⟨h.1.1, fun g hg => (h.2.1 g hg).in, h.2.2⟩
theorem Rk.Ix.in {r : Rk} (h : r.Ix H X) : r.In H := ⟨h.1.1, h.2⟩
end
theorem yY {α : Type} (f : α → Value) (l : List α) : l.flatMap (one f) = l.map f := by
 induction l with
 | nil => rfl
 | cons a l ih => rw [dR, ih]; rfl
end Go.Ds
namespace Go.Ds
open Go.Proofs
theorem a9l (m : Nat) (n s : Int) (h0 : 0 ≤ n) (h1 : n < m) (h2 : -127 ≤ s) (h3 : s ≤ 127) : lH m [⟨n, s⟩] = 0 := by
 rw [lH, if_neg (by simp)]
 refine kM _ _ fun j hj => ?_
 have hj0 : j = 0 := by simpa using hj
 subst hj0
 have e : iB ([⟨n, s⟩] : List Drw) 0 = ⟨n, s⟩ := rfl
 unfold kL
 rw [e, if_neg (by simp only; omega), if_neg (by simp only; omega), if_neg (by simp)]
theorem c1S (m : Nat) (n s t : Int) (h0 : 0 ≤ n) (h1 : n < m) (h2 : -127 ≤ s) (h3 : s ≤ 127) (h4 : -127 ≤ t) (h5 : t ≤ 127) (hne : s ≠ t) : lH m [⟨n, s⟩, ⟨n, t⟩] = 0 := by
 rw [lH, if_neg (by simp)]
 refine kM _ _ fun j hj => ?_
 have hj0 : j = 0 ∨ j = 1 := by
  have : j < 2 := by simpa using hj
  omega
 rcases hj0 with rfl | rfl
 ·have e : iB ([⟨n, s⟩, ⟨n, t⟩] : List Drw) 0 = ⟨n, s⟩ := rfl
  unfold kL
  rw [e, if_neg (by simp only; omega), if_neg (by simp only; omega), if_neg (by simp)]
 ·have e : iB ([⟨n, s⟩, ⟨n, t⟩] : List Drw) 1 = ⟨n, t⟩ := rfl
  unfold kL
  rw [e, if_neg (by simp only; omega), if_neg (by simp only; omega), if_neg (by simp [fc hne])]
theorem a6M (lo hi a b : Int) (m : Nat) (dv : Value) (ds : List Drw) (h1 : lo ≤ a) (h2 : a ≤ b) (h3 : b ≤ hi) (hd : lH m ds = 0) : lL (lA lo hi m [⟨a, b, dv, ds⟩]) 1 = 0 := by
 refine kM _ _ fun j hj => ?_
 have hj0 : j = 0 := by omega
 subst hj0
 have e : iB ([⟨a, b, dv, ds⟩] : List Seg) 0 = ⟨a, b, dv, ds⟩ := rfl
 unfold lA
 rw [e, if_neg (by simp only; omega), if_neg (by simp only; omega)]
 exact hd
theorem c0f (lo hi c : Int) (m : Nat) (dv dv' : Value) (ds ds' : List Drw) (h1 : lo < c) (h2 : c ≤ hi) (hd : lH m ds = 0) (hd' : lH m ds' = 0) : lL (lA lo hi m [⟨lo, c - 1, dv, ds⟩, ⟨c, hi, dv', ds'⟩]) 2 = 0 := by
 refine kM _ _ fun j hj => ?_
 have e0 : iB ([⟨lo, c - 1, dv, ds⟩, ⟨c, hi, dv', ds'⟩] : List Seg) 0 = ⟨lo, c - 1, dv, ds⟩ := rfl
 have e1 : iB ([⟨lo, c - 1, dv, ds⟩, ⟨c, hi, dv', ds'⟩] : List Seg) 1 = ⟨c, hi, dv', ds'⟩ := rfl
 have hj0 : j = 0 ∨ j = 1 := by omega
 rcases hj0 with rfl | rfl
 ·unfold lA
  rw [e0, if_neg (by simp only; omega), if_neg (by simp only; omega)]
  exact hd
 ·unfold lA
  rw [e1, show (1 : Nat) - 1 = 0 from rfl, e0, if_neg (by simp only; omega), if_neg (by simp only; omega)]
  exact hd'
def nm (c : UInt8) (i : Nat) : ByteArray := ⟨#[c, UInt8.ofNat (48 + i)]⟩
theorem a4X {c : UInt8} {i j : Nat} (hi : i < 10) (hj : j < 10) (h : nm c i = nm c j) : i = j := by
 unfold nm at h
 have h2 : (#[c, UInt8.ofNat (48 + i)] : Array UInt8) = #[c, UInt8.ofNat (48 + j)] := congrArg ByteArray.data h
 have h3 : UInt8.ofNat (48 + i) = UInt8.ofNat (48 + j) := by simpa using h2
 have h4 := congrArg UInt8.toNat h3
 simp only [UInt8.toNat_ofNat'] at h4
 omega
theorem a1p {c : UInt8} (hc : c = 82 ∨ c = 68 ∨ c = 83 ∨ c = 67) {i : Nat} (hi : i < 10) : kX (nm c i) = true := by
 have h : i = 0 ∨ i = 1 ∨ i = 2 ∨ i = 3 ∨ i = 4 ∨ i = 5 ∨ i = 6 ∨ i = 7 ∨ i = 8 ∨ i = 9 := by omega
 rcases hc with rfl | rfl | rfl | rfl <;> rcases h with rfl | rfl | rfl | rfl | rfl | rfl | rfl | rfl | rfl | rfl <;> decide
structure StpOk (m : Nat) (lo hi : Int) (i : Nat) (s : Stp) : Prop where
 name : s.name = nm 83 i
 feet : (s.num, s.den) ∈ kY
 pos : 0 < s.segs.length
 len : s.segs.length ≤ 2
 segs : lL (lA lo hi m s.segs) s.segs.length = 0
theorem b4W {p : Int × Int} (h : p ∈ kY) : mP p.1 p.2 = 0 := by
 have : kY.all (fun p => decide (mP p.1 p.2 = 0)) = true := by decide
 exact of_decide_eq_true (dy.1 this p h)
theorem b7r {p : Int × Int} (h : p ∈ lO) : mP p.1 p.2 = 0 := by
 have : lO.all (fun p => decide (mP p.1 p.2 = 0)) = true := by decide
 exact of_decide_eq_true (dy.1 this p h)
theorem StpOk.stopE {rs : List Rk} {lo hi : Int} {i : Nat} {s : Stp} (h : StpOk rs.length lo hi i s) (hi10 : i < 10) (hp : sK rs lo hi = 0) : stopE rs lo hi s = 0 := by
 unfold Go.Ds.stopE
 rw [if_neg (by rw [hp]; simp), if_neg (by rw [h.name, a1p (by simp) hi10]; simp), if_neg (by rw [b4W h.feet]; simp), if_neg (by have := h.pos; omega), if_neg (by have := h.len; omega)]
 exact h.segs
structure RkOk (i : Nat) (r : Rk) : Prop where
 name : r.name = nm 82 i
 tone : r.tone ∈ tA
 feet : (r.num, r.den) ∈ lO
 first : -128 ≤ r.first ∧ r.first < 128
 pos : 0 < r.wind.length
 len : r.wind.length ≤ 25
 wind : ∀ x ∈ r.wind, 0 ≤ x ∧ x < 256
theorem b4o {s : ByteArray} (h : s ∈ tA) : kX s = true := by
 have : tA.all (fun s => kX s) = true := by decide
 exact dy.1 this s h
theorem RkOk.rankE {i : Nat} {r : Rk} (h : RkOk i r) (hi : i < 10) : rankE r = 0 := by
 have hf := h.first
 have hp := h.pos
 have hl := h.len
 have hw : a0p r.wind = 0 := by
  unfold a0p
  rw [if_neg]
  intro hh
  rw [gD] at hh
  obtain ⟨x, hx, hp⟩ := hh
  have := h.wind x hx
  simp only [ez, decide_eq_true_eq] at hp
  omega
 unfold Go.Ds.rankE
 rw [if_neg (by rw [h.name, a1p (by simp) hi, b4o h.tone]; simp), if_neg (by rw [b7r h.feet]; simp), if_neg (by omega), if_neg (by omega), if_neg (by omega), hw]
theorem a1V {lo hi : Int} (h0 : 0 ≤ lo) (h1 : lo ≤ hi) (h2 : hi ≤ 127) : qS lo hi = 0 := by
 unfold qS
 rw [if_neg (by omega), if_neg (by omega)]
theorem c1h {rs : List Rk} {lo hi : Int} (hl : rs.length ≤ 3) (hr : ∀ j, j < rs.length → RkOk j (iB rs j)) (h0 : 0 ≤ lo) (h1 : lo ≤ hi) (h2 : hi ≤ 127) : sK rs lo hi = 0 := by
 have e := kM (fun j => Go.Ds.rankE (iB rs j)) rs.length fun j hj => (hr j hj).rankE (by omega)
 unfold sK
 rw [if_neg (by omega), if_neg (by rw [e]; simp)]
 exact a1V h0 h1 h2
structure DvOk (m i : Nat) (d : Dvn) : Prop where
 name : d.name = nm 68 i
 lo : 36 ≤ d.lo
 le : d.lo ≤ d.hi
 hi : d.hi ≤ 60
 wide : d.hi ≤ d.lo + 8
 len : d.stops.length ≤ 3
 stops : ∀ k, k < d.stops.length → StpOk m d.lo d.hi k (iB d.stops k)
structure CpOk (n i : Nat) (c : Cpl) : Prop where
 name : c.name = nm 67 i
 src : 0 ≤ c.src ∧ c.src < n
 dst : 0 ≤ c.dst ∧ c.dst < n
 shift : -24 ≤ c.shift ∧ c.shift ≤ 24
 ne : ¬ (c.src = c.dst ∧ c.shift = 0)
def b6v : ByteArray := ⟨#[79, 114, 103, 97, 110]⟩
structure OrgOk (o : Org) : Prop where
 name : o.name = b6v
 rpos : 0 < o.ranks.length
 rlen : o.ranks.length ≤ 3
 ranks : ∀ j, j < o.ranks.length → RkOk j (iB o.ranks j)
 dpos : 0 < o.dvs.length
 dlen : o.dvs.length ≤ 3
 dvs : ∀ j, j < o.dvs.length → DvOk o.ranks.length j (iB o.dvs j)
 clen : o.cpls.length ≤ 3
 cpls : ∀ j, j < o.cpls.length → CpOk o.dvs.length j (iB o.cpls j)
theorem b2A : kX b6v = true := by decide
theorem DvOk.divE {rs : List Rk} {i : Nat} {d : Dvn} (h : DvOk rs.length i d) (hl : rs.length ≤ 3) (hr : ∀ j, j < rs.length → RkOk j (iB rs j)) : divE rs d = 0 := by
 have h1 := h.lo
 have h2 := h.le
 have h3 := h.hi
 have h4 := h.len
 unfold Go.Ds.divE
 rw [if_neg (by rw [a1V (by omega) h2 (by omega)]; simp), if_neg (by omega)]
 refine kM _ _ fun j hj => ?_
 have hs := h.stops j hj
 unfold oT
 rw [if_neg (by rw [hs.stopE (by omega) (c1h hl hr (by omega) h2 (by omega))]; simp), if_neg]
 rintro ⟨q, hq, e⟩
 rw [hs.name, (h.stops q (by omega)).name] at e
 have := a4X (by omega) (by omega) e
 omega
theorem OrgOk.organE {o : Org} (h : OrgOk o) : organE o = 0 := by
 have h1 := h.rpos
 have h2 := h.rlen
 have h3 := h.dpos
 have h4 := h.dlen
 have h5 := h.clen
 have e1 : lL (nP o.ranks) o.ranks.length = 0 := kM _ _ fun j hj => by
  unfold nP
  rw [if_neg (by rw [(h.ranks j hj).rankE (by omega)]; simp), if_neg]
  rintro ⟨q, hq, e⟩
  rw [(h.ranks j hj).name, (h.ranks q (by omega)).name] at e
  have := a4X (by omega) (by omega) e
  omega
 have e2 : lL (tJ o.ranks o.dvs) o.dvs.length = 0 := kM _ _ fun j hj => by
  unfold tJ
  rw [if_neg (by rw [(h.dvs j hj).name, a1p (by simp) (by omega)]; simp), if_neg]
  ·exact (h.dvs j hj).divE h2 h.ranks
  rintro ⟨q, hq, e⟩
  rw [(h.dvs j hj).name, (h.dvs q (by omega)).name] at e
  have := a4X (by omega) (by omega) e
  omega
 have e3 : sZ (kps o.dvs) o.cpls = 0 := by
  have hk : (kps o.dvs).length = o.dvs.length := by simp [kps]
  unfold sZ
  rw [if_neg (by omega), if_neg]
  ·refine kM _ _ fun j hj => ?_
   have hc := h.cpls j hj
   have c1 := hc.src
   have c2 := hc.dst
   have c3 := hc.shift
   unfold mM
   simp only
   rw [if_neg (by rw [hc.name, a1p (by simp) (by omega)]; simp), if_neg, if_neg (by rw [hk]; omega), if_neg (by omega), if_neg hc.ne]
   rintro ⟨q, hq, e⟩
   rw [hc.name, (h.cpls q (by omega)).name] at e
   have := a4X (by omega) (by omega) e
   omega
  ·rintro ⟨k, hk, hne⟩
   unfold kps at hk
   obtain ⟨d, hd, rfl⟩ := dK.1 hk
   obtain ⟨j, hj, rfl⟩ := dW.1 hd
   have hd := h.dvs j hj
   rw [kF o.dvs j hj] at hd
   have h1 := hd.lo
   have h2 := hd.le
   have h3 := hd.hi
   exact hne (a1V (by omega) h2 (by omega))
 unfold Go.Ds.organE
 rw [if_neg (by rw [h.name, b2A]; simp), if_neg (by omega), if_neg (by rw [e1]; simp), if_neg (by omega), if_neg (by omega), if_neg (by rw [e2]; simp)]
 exact e3
def kA (x : Int × Int) : List Value := [I x.1, I x.2]
def pr (l : List (Int × Int)) : List Value := l.flatMap kA
theorem jU (x : Int × Int) : (kA x).length = 2 := rfl
theorem iK (l : List (Int × Int)) : (pr l).length = l.length * 2 := iG jU l
def le2 (x y : Int × Int) : Bool := decide (x.1 < y.1) || (decide (x.1 = y.1) && decide (x.2 ≤ y.2))
theorem oJ (x y : Int × Int) : le2 x y = true ↔ x.1 < y.1 ∨ (x.1 = y.1 ∧ x.2 ≤ y.2) := by
 unfold le2
 simp only [ez, de, decide_eq_true_eq]
def uV (es : List (Int × Int)) : List (Int × Int) := es.mergeSort le2
theorem oB (es : List (Int × Int)) : (uV es).Perm es := List.mergeSort_perm _ _
theorem oW (es : List (Int × Int)) : (uV es).length = es.length := (oB es).length_eq
theorem vV (es : List (Int × Int)) : (uV es).Pairwise fun a b => le2 a b = true := by
 unfold uV
 refine List.pairwise_mergeSort ?_ ?_ _
 ·intro a b c h1 h2
  rw [oJ] at *
  omega
 ·intro a b
  rw [ez, oJ, oJ]
  omega
def cf2 (x y : Int × Int) : Int := if x.1 < y.1 then -1 else if y.1 < x.1 then 1 else if x.2 < y.2 then -1 else if y.2 < x.2 then 1 else 0
def xP {α : Type} [Inhabited α] [DecidableEq α] (es : List α) (m : Nat) : List α := ((List.range m).filter fun i => decide (i = 0 ∨ iB es i ≠ iB es (i - 1))).map fun i => iB es i
def dd {α : Type} [Inhabited α] [DecidableEq α] (es : List α) : List α := xP es es.length
section
variable {α : Type} [Inhabited α] [DecidableEq α]
theorem rN (es : List α) (m : Nat) : xP es (m + 1) = xP es m ++ (if m = 0 ∨ iB es m ≠ iB es (m - 1) then [iB es m] else []) := by
 unfold xP
 rw [eO, fb, dZ]
 congr 1
 by_cases h : m = 0 ∨ iB es m ≠ iB es (m - 1)
 ·rw [if_pos h]
  simp only [List.filter_cons, List.filter_nil, decide_eq_true h, if_true, eu, gm]
 ·rw [if_neg h]
  simp only [List.filter_cons, List.filter_nil, decide_eq_false h, dV, if_false, gm]
theorem c1N (es : List α) (m : Nat) : (xP es m).length ≤ m := by
 unfold xP
 rw [ed]
 refine dJ (ey _ _) ?_
 simp
theorem mF (es : List α) (m : Nat) (h : m < es.length) : es.take (m + 1) = es.take m ++ [iB es m] := by
 rw [kF es m h, List.take_succ_eq_append_getElem h]
theorem sT (es : List α) : ∀ m, m ≤ es.length → (∀ j, 0 < j → j < m → iB es j ≠ iB es (j - 1)) → xP es m = es.take m
 | 0, _, _ => by simp [xP]
 | m + 1, hm, h => by
   have ih := sT es m (by omega) fun j h1 h2 => h j h1 (by omega)
   rw [rN, ih, mF es m (by omega), if_pos]
   by_cases h0 : m = 0
   ·exact .inl h0
   ·exact .inr (h m (by omega) (by omega))
end
theorem xY {v : Value} {n lo k b : Nat} (h : kK (mK v n lo k) = some b) : kK v = some b := by
 unfold mK at h
 split at h <;> exact h
theorem kG (a b : List (Int × Int)) : pr (a ++ b) = pr a ++ pr b := dM
structure Reg where
 stops : List Nat
 cpl : Nat
 off : Nat
 deriving Inhabited, DecidableEq
def u64 (n : Nat) : Value := .int .u64 n
def Reg.cells (r : Reg) (sv : Value) : List Value := [sv, u64 r.cpl, u64 r.off]
def Reg.Ok (r : Reg) : Prop := r.stops.length < 1000000000 ∧ (∀ x ∈ r.stops, x < 18446744073709551616) ∧ r.cpl < 18446744073709551616 ∧ r.off < 18446744073709551616
def Reg.In (H : Heap) (r : Reg) (sv : Value) : Prop := Sl 1 (one u64) H sv r.stops ∧ r.Ok
theorem Reg.In.ae {P : Program} {H H0 : Heap} {os : List Ob} {r : Reg} {sv : Value} (h : r.In H0 sv) (hS : St P H0 H os) : r.In H sv := ⟨hS.sl h.1, h.2⟩
abbrev Ct := Int × Int
abbrev vD (n : Int) : Int := IntKind.wrap .i64 n
def qN (o : Org) (c : Ct) : Bool := decide (0 ≤ c.1) && decide (c.1 < o.dvs.length) && decide ((iB o.dvs c.1.toNat).lo ≤ c.2) && decide (c.2 ≤ (iB o.dvs c.1.toNat).hi)
def vP (o : Org) (c : Ct) : Int := if c.1 < 0 ∨ o.dvs.length ≤ c.1 then 10 else if c.2 < (iB o.dvs c.1.toNat).lo ∨ (iB o.dvs c.1.toNat).hi < c.2 then 23 else 0
theorem uI (o : Org) (c : Ct) : vP o c = 0 ↔ qN o c = true := by
 unfold vP qN
 by_cases h1 : c.1 < 0 ∨ o.dvs.length ≤ c.1
 ·rw [if_pos h1]
  simp
  omega
 ·rw [if_neg h1]
  by_cases h2 : c.2 < (iB o.dvs c.1.toNat).lo ∨ (iB o.dvs c.1.toNat).hi < c.2
  ·rw [if_pos h2]
   simp
   omega
  ·rw [if_neg h2]
   simp
   omega
def to1 (x : Cpl) (c : Ct) : Ct := (x.dst, vD (c.2 + x.shift))
def a0Z (cp : Nat) (thr : Bool) (c : Ct) (x : Cpl) (i : Nat) : Bool := cp.testBit i && decide (x.src = c.1) && (!thr || x.thr)
def step1 (o : Org) (cp : Nat) (thr : Bool) (c : Ct) (q : List Ct) (i : Nat) : List Ct :=
 if a0Z cp thr c (iB o.cpls i) i && qN o (to1 (iB o.cpls i) c) && !decide (to1 (iB o.cpls i) c ∈ q) then q ++ [to1 (iB o.cpls i) c] else q
def stepN (o : Org) (cp : Nat) (thr : Bool) (c : Ct) (q : List Ct) (n : Nat) : List Ct := (List.range n).foldl (step1 o cp thr c) q
def stepF (o : Org) (cp : Nat) (thr : Bool) (c : Ct) (q : List Ct) : List Ct := stepN o cp thr c q o.cpls.length
theorem nM (o : Org) (cp : Nat) (thr : Bool) (c : Ct) (q : List Ct) (n : Nat) : stepN o cp thr c q (n + 1) = step1 o cp thr c (stepN o cp thr c q n) n := by
 unfold stepN
 rw [eO, gY]
 rfl
def Que (o : Org) (q : List Ct) : Prop := q.Nodup ∧ ∀ c ∈ q, qN o c = true
theorem Que.nil (o : Org) : Que o [] := ⟨.nil, by simp⟩
theorem Que.step1 {o : Org} {q : List Ct} (h : Que o q) (cp : Nat) (thr : Bool) (c : Ct) (i : Nat) : Que o (step1 o cp thr c q i) := by
 unfold Go.Ds.step1
 split
 ·rename_i hh
  simp only [de, dF, decide_eq_false_iff_not] at hh
  refine ⟨?_, ?_⟩
  ·rw [List.nodup_append]
   exact ⟨h.1, by simp, fun a ha b hb e => hh.2 (by simp at hb; rw [← hb, ← e]; exact ha)⟩
  ·intro x hx
   rcases dN.1 hx with hx | hx
   ·exact h.2 x hx
   ·simp at hx
    rw [hx]
    exact hh.1.2
 ·exact h
theorem Que.stepN {o : Org} {q : List Ct} (h : Que o q) (cp : Nat) (thr : Bool) (c : Ct) : ∀ n, Que o (stepN o cp thr c q n)
 | 0 => h
 | n + 1 => by rw [nM]; exact (h.stepN cp thr c n).step1 cp thr c n
theorem Que.stepF {o : Org} {q : List Ct} (h : Que o q) (cp : Nat) (thr : Bool) (c : Ct) : Que o (stepF o cp thr c q) := h.stepN cp thr c _
theorem a2i : ∀ (N : Nat) (l : List Nat), l.Nodup → (∀ i ∈ l, i < N) → l.length ≤ N
 | 0, l, hn, h => by
   cases l with
   | nil => simp
   | cons a l => exact absurd (h a (by simp)) (dS _)
 | N + 1, l, hn, h => by
   have h1 : (l.erase N).length ≤ N := by
    refine a2i N _ (hn.erase N) fun i hi => ?_
    have h2 := (List.Nodup.mem_erase_iff hn).1 hi
    have := h i h2.2
    omega
   rw [List.length_erase] at h1
   split at h1 <;> omega
theorem rW {f : Nat → Int} {n : Nat} (h : lL f n = 0) : ∀ j, j < n → f j = 0 := by
 intro j hj
 unfold lL at h
 cases hf : (List.range n).find? (fun j => decide (f j ≠ 0)) with
 | some i =>
   rw [hf] at h
   have := List.find?_some hf
   simp only [decide_eq_true_eq] at this
   exact absurd h this
 | none =>
   rw [gn] at hf
   have := hf j (dH.2 hj)
   simpa using this
structure Org.Fine (o : Org) : Prop where
 dpos : 0 < o.dvs.length
 dlen : o.dvs.length ≤ 8
 rlen : o.ranks.length ≤ 60
 keys : ∀ j, j < o.dvs.length → 0 ≤ (iB o.dvs j).lo ∧ (iB o.dvs j).lo ≤ (iB o.dvs j).hi ∧ (iB o.dvs j).hi ≤ 127
 stops : ∀ j, j < o.dvs.length → (iB o.dvs j).stops.length ≤ 60
 clen : o.cpls.length ≤ 40
 draws : ∀ j, j < o.dvs.length → ∀ s ∈ (iB o.dvs j).stops, ∀ g ∈ s.segs, g.draws.length ≤ 8
theorem Org.bm {o : Org} (h : organE o = 0) : o.Fine := by
 unfold organE at h
 split at h
 ·omega
 split at h
 ·omega
 rename_i _ h2
 split at h
 ·rename_i hh; exact absurd h hh
 split at h
 ·omega
 rename_i h4
 split at h
 ·omega
 rename_i h5
 split at h
 ·rename_i hh; exact absurd h hh
 rename_i h6
 have h6 := dD.1 h6
 have hd : ∀ j, j < o.dvs.length → (0 ≤ (iB o.dvs j).lo ∧ (iB o.dvs j).lo ≤ (iB o.dvs j).hi ∧ (iB o.dvs j).hi ≤ 127) ∧ (iB o.dvs j).stops.length ≤ 60 ∧ ∀ s ∈ (iB o.dvs j).stops, ∀ g ∈ s.segs, g.draws.length ≤ 8 := by
  intro j hj
  have e := rW h6 j hj
  unfold tJ at e
  split at e
  ·omega
  split at e
  ·omega
  unfold divE at e
  split at e
  ·rename_i hh; exact absurd e hh
  rename_i hc
  have hc := dD.1 hc
  split at e
  ·omega
  unfold qS at hc
  split at hc
  ·omega
  split at hc
  ·omega
  refine ⟨by omega, by omega, fun s hs g hg => ?_⟩
  obtain ⟨k, hk, rfl⟩ := dW.1 hs
  obtain ⟨i, hi, rfl⟩ := dW.1 hg
  have e2 := rW e k hk
  unfold oT at e2
  rw [kF _ k hk] at e2
  split at e2
  ·rename_i hh; exact absurd e2 hh
  rename_i e3
  have e3 := dD.1 e3
  unfold stopE at e3
  split at e3
  ·rename_i hh; exact absurd e3 hh
  split at e3
  ·omega
  split at e3
  ·rename_i hh; exact absurd e3 hh
  split at e3
  ·omega
  split at e3
  ·omega
  have e4 := rW e3 i hi
  unfold lA at e4
  rw [kF _ i hi] at e4
  split at e4
  ·omega
  split at e4
  ·omega
  unfold lH at e4
  split at e4
  ·omega
  omega
 refine ⟨by omega, by omega, by omega, fun j hj => (hd j hj).1, fun j hj => (hd j hj).2.1, ?_, fun j hj => (hd j hj).2.2⟩
 unfold sZ at h
 split at h <;> omega
theorem tL (o : Org) (c : Ct) : qN o c = true ↔ 0 ≤ c.1 ∧ c.1 < o.dvs.length ∧ (iB o.dvs c.1.toNat).lo ≤ c.2 ∧ c.2 ≤ (iB o.dvs c.1.toNat).hi := by
 unfold qN
 simp only [de, decide_eq_true_eq, and_assoc]
theorem a2r {o : Org} (ho : o.Fine) {c : Ct} (h : qN o c = true) : 0 ≤ c.1 ∧ c.1 < 8 ∧ 0 ≤ c.2 ∧ c.2 ≤ 127 := by
 have h := (tL o c).1 h
 have hk := ho.keys c.1.toNat (by omega)
 have := ho.dlen
 omega
theorem Que.len {o : Org} {q : List Ct} (h : Que o q) (ho : o.Fine) : q.length ≤ 1024 := by
 have h1 := a2i 1024 (q.map fun c => c.1.toNat * 128 + c.2.toNat) ?_ ?_
 ·simpa using h1
 ·unfold List.Nodup
  rw [List.pairwise_map]
  refine List.Pairwise.imp_of_mem (fun {a b} ha hb hne e => hne ?_) h.1
  have h1 := a2r ho (h.2 a ha)
  have h2 := a2r ho (h.2 b hb)
  apply gz <;> omega
 ·intro i hi
  obtain ⟨c, hc, rfl⟩ := dK.1 hi
  have h1 := a2r ho (h.2 c hc)
  omega
def bfs (o : Org) (cp : Nat) : Nat → Nat → List Ct → List Ct
 | 0, _, q => q
 | n + 1, i, q => if i < q.length then bfs o cp n (i + 1) (stepF o cp true (iB q i) q) else q
def oC (o : Org) (cp : Nat) (l : List Ct) : List Ct := l.foldl (fun q c => stepF o cp false c q) []
def oH (o : Org) (r : Reg) (l : List Ct) : List Ct := dd (uV (l.filter (fun c => !r.off.testBit c.1.toNat) ++ bfs o r.cpl 1100 0 (oC o r.cpl l)))
def oI (rs : List Rk) (d : Drw) (key : Int) : Ct := if d.rank < 0 ∨ rs.length ≤ d.rank then (0, 0) else (d.rank, vD (vD (key + d.shift) - (iB rs d.rank.toNat).first))
def yK (rs : List Rk) (d : Drw) (key : Int) : Bool := !decide (d.rank < 0 ∨ rs.length ≤ d.rank) && decide (0 ≤ (oI rs d key).2) && decide ((oI rs d key).2 < (iB rs d.rank.toNat).wind.length)
def a8r (s : Stp) (key : Int) (j : Nat) : Bool := decide ((iB s.segs j).lo ≤ key) && decide (key ≤ (iB s.segs j).hi)
def a9k (s : Stp) (key : Int) : List Drw := if rE (a8r s key) s.segs.length < 0 then [] else (iB s.segs (rE (a8r s key) s.segs.length).toNat).draws
def qC (rs : List Rk) (s : Stp) (key : Int) : List Ct := dd (uV (((a9k s key).filter fun d => yK rs d key).map fun d => oI rs d key))
def nW (o : Org) (r : Reg) (c : Ct) : List Ct := (List.range (iB o.dvs c.1.toNat).stops.length).flatMap fun i => if (iB r.stops c.1.toNat).testBit i then qC o.ranks (iB (iB o.dvs c.1.toNat).stops i) c.2 else []
def wV (o : Org) (r : Reg) (l : List Ct) : List Ct := dd (uV (l.flatMap (nW o r)))
def kU (o : Org) (r : Reg) (l : List Ct) : List Ct := wV o r (oH o r l)
end Go.Ds
namespace Go.Ds
open Go.Proofs Go.Proofs.Tryz
variable {H : Heap}
theorem a7w (a b : Nat) (h : a < 18446744073709551616) : ((a : Nat) : Int).fdiv (2 ^ min b (IntKind.bits .u64)) = ((a >>> b : Nat) : Int) := by
 have e : IntKind.bits .u64 = 64 := rfl
 rw [e]
 have h1 : ((a : Nat) : Int).fdiv (2 ^ min b 64) = ((a / 2 ^ min b 64 : Nat) : Int) := by
  rw [gA _ (by exact Int.le_of_lt (Int.pow_pos (by decide)))]
  simp
 rw [h1, eU]
 by_cases hb : b ≤ 64
 ·rw [fW hb]
 ·rw [Nat.min_eq_right (by omega)]
  have h2 : a / 2 ^ 64 = 0 := ij (by simpa using h)
  have h3 : a / 2 ^ b = 0 := ij (dQ (by simpa using h) (fM (by decide) (show 64 ≤ b by omega)))
  rw [h2, h3]
theorem b1G (n : Nat) (h : n < 18446744073709551616) : IntKind.wrap .u64 ((BitVec.ofInt (IntKind.bits .u64) (n : Int) &&& BitVec.ofInt (IntKind.bits .u64) 1).toNat : Int) = ((n % 2 : Nat) : Int) := by
 have e : (BitVec.ofInt (IntKind.bits .u64) (n : Int) &&& BitVec.ofInt (IntKind.bits .u64) 1).toNat = n % 2 := by
  show (BitVec.ofInt 64 (n : Int) &&& BitVec.ofInt 64 1).toNat = n % 2
  rw [gI]
  have h1 : (BitVec.ofInt 64 (n : Int)).toNat = n := by
   rw [fZ, BitVec.toNat_ofNat]
   exact gC (by simpa using h)
  have h2 : (BitVec.ofInt 64 1).toNat = 1 := rfl
  rw [h1, h2, Nat.and_one_is_mod]
 rw [e]
 have : n % 2 < 2 := eI _ (by decide)
 have hh : n % 2 = 0 ∨ n % 2 = 1 := by omega
 rcases hh with h | h <;> rw [h] <;> rfl
theorem tb (a i : Nat) : a.testBit i = decide (a >>> i % 2 = 1) := by
 rw [Nat.testBit_eq_decide_div_mod_eq, eU]
theorem a4L {a : Nat} (b : Nat) (h : a < 18446744073709551616) : a >>> b < 18446744073709551616 := by
 rw [eU]
 exact Nat.lt_of_le_of_lt (Nat.div_le_self _ _) h
theorem wQ (o : Org) (ho : o.In H) (c : Ct) : Fn prog 66 [.agg #[.string o.name, o.rv, o.dv, o.cv], .agg #[I c.1, I c.2]] H fun r H' => r = I (vP o c) ∧ St prog H H' [] := by
 have hl := ho.2.2.2.2.2.2.1
 refine .aM func66 rfl (by kernel_rfl) (m := 36) rfl fun l hn g0 g1 => ?_
 simp (disch := omega) only [↓RA, RB, simprocAttr, g0]
 refine (sR H).eNew 4 [(.string o.name), o.rv, o.dv, o.cv] rfl rfl (by simp [OC, ((sR H).sl ho.1).cells.2.1, ((sR H).sl ho.2.2.1).cells.2.1, ((sR H).sl ho.2.2.2.2.1).cells.2.1]) mD fun A1 H1 hS1 => ?_
 simp only [RT] at hS1
 simp (disch := omega) only [↓RA, RB, simprocAttr, g1]
 refine hS1.eNew 2 [I c.1, I c.2] rfl rfl rfl rC fun A2 H2 hS2 => ?_
 simp only [RT] at hS2
 simp (disch := omega) only [↓RA, RZ, simprocAttr, hn, hS2.ld 1 rfl]
 refine iN (fun h1 => ?_) (fun h1 => ?_)
 ·simp (disch := omega) only [↓RA, RZ, simprocAttr, hn, b4i, h1]
  exact ⟨by rw [vP, if_pos (by omega)], hS2.forget⟩
 simp (disch := omega) only [↓RA, RZ, simprocAttr, hn, hS2.ld 1 rfl, hS2.ld 0 rfl, (hS2.sl ho.2.2.1).len, h1]
 refine iA (fun h2 => ?_) (fun h2 => ?_)
 ·simp (disch := omega) only [↓RA, RZ, simprocAttr, hn, b4i, h1, h2]
  exact ⟨by rw [vP, if_pos (by omega)], hS2.forget⟩
 obtain ⟨j, hj⟩ : ∃ j : Nat, c.1 = j := ⟨c.1.toNat, by omega⟩
 have hc : vP o c = if c.2 < (iB o.dvs j).lo ∨ (iB o.dvs j).hi < c.2 then 23 else 0 := by
  rw [vP, if_neg (by omega), hj]
  rfl
 rw [hj] at h1 h2
 simp (disch := omega) only [↓RA, RZ, simprocAttr, hn, hS2.ld 0 rfl, h1, h2, hj]
 simp (disch := omega) only [↓RA, RZ, simprocAttr, hn, hS2.ld 1 rfl, (hS2.sl ho.2.2.1).idx, (hS2.sl ho.2.2.1).bz, (hS2.sl ho.2.2.1).cO 2, Dvn.cells, h1, h2, hj]
 refine hS2.eNew 2 [I 0, I 0] rfl rfl rfl sA fun A3 H3 hS3 => ?_
 simp only [RT] at hS3
 simp (disch := omega) only [↓RA, RZ, simprocAttr, hn, h1, h2, hj]
 refine hS3.ab 2 rfl [I (iB o.dvs j).lo, I (iB o.dvs j).hi] rfl rfl sA (by simp) fun H4 hS4 => ?_
 simp only [RT] at hS4
 simp (disch := omega) only [↓RA, RZ, simprocAttr, hn, hS4.ld 1 rfl, hS4.ld 2 rfl, h1, h2, hj]
 refine iN (fun h3 => ?_) (fun h3 => ?_)
 ·simp (disch := omega) only [↓RA, RZ, simprocAttr, hn, b4i, h1, h2, hj, h3]
  exact ⟨by rw [hc, if_pos (by omega)], hS4.forget⟩
 simp (disch := omega) only [↓RA, RZ, simprocAttr, hn, hS4.ld 1 rfl, hS4.ld 2 rfl, h1, h2, hj, h3]
 refine iA (fun h4 => ?_) (fun h4 => ?_)
 ·simp (disch := omega) only [↓RA, RZ, simprocAttr, hn, b4i, h1, h2, hj, h3, h4]
  exact ⟨by rw [hc, if_pos (by omega)], hS4.forget⟩
 simp (disch := omega) only [↓RA, RZ, simprocAttr, hn, b4i, h1, h2, hj, h3, h4]
 exact ⟨by rw [hc, if_neg (by omega)], hS4.forget⟩
def mZ (o : Org) (r : Reg) : Int := if organE o ≠ 0 then organE o else if r.stops.length ≠ o.dvs.length then 5 else if ∃ j, j < o.dvs.length ∧ iB r.stops j >>> (iB o.dvs j).stops.length ≠ 0 then 3 else if r.cpl >>> o.cpls.length ≠ 0 ∨ r.off >>> o.dvs.length ≠ 0 then 3 else 0
theorem b6l (o : Org) (ho : o.In H) (r : Reg) (sv : Value) (hr : r.In H sv) : Fn prog 13 [.agg #[.string o.name, o.rv, o.dv, o.cv], .agg #[sv, .int .u64 r.cpl, .int .u64 r.off]] H fun v H' => v = I (mZ o r) ∧ St prog H H' [] := by
 have hl := ho.2.2.2.2.2.2.1
 have hlc := ho.2.2.2.2.2.2.2
 obtain ⟨hr1, hr2, hr3, hr4, hr5⟩ := hr
 refine .aM func13 rfl (by kernel_rfl) (m := 55) rfl fun l hn g0 g1 => ?_
 simp (disch := omega) only [↓RA, RB, simprocAttr, g0]
 refine (sR H).eNew 4 [(.string o.name), o.rv, o.dv, o.cv] rfl rfl (by simp [OC, ((sR H).sl ho.1).cells.2.1, ((sR H).sl ho.2.2.1).cells.2.1, ((sR H).sl ho.2.2.2.2.1).cells.2.1]) mD fun A1 H1 hS1 => ?_
 simp only [RT] at hS1
 simp (disch := omega) only [↓RA, RB, simprocAttr, g1]
 refine hS1.eNew 3 [sv, (.int .u64 r.cpl), (.int .u64 r.off)] rfl rfl (by simp [OC, (hS1.sl hr1).cells.2.1]) pG fun A2 H2 hS2 => ?_
 simp only [RT] at hS2
 simp (disch := omega) only [↓RA, RZ, simprocAttr, hn, hS2.ai 0 rfl]
 refine hS2.cF (yL o (ho.ae hS2)) fun H3 hS3 => ?_
 simp (disch := omega) only [↓RA, RB, simprocAttr, hn]
 refine iA (fun h1 => ?_) (fun h1 => ?_)
 ·simp (disch := omega) only [↓RA, RZ, simprocAttr, hn, b3x, h1]
  exact ⟨by rw [mZ, if_pos h1], hS3.forget⟩
 simp (disch := omega) only [↓RA, RZ, simprocAttr, hn, hS3.ld 1 rfl, (hS3.sl hr1).len, hS3.ld 0 rfl, (hS3.sl ho.2.2.1).len, h1]
 refine iA (fun h2 => ?_) (fun h2 => ?_)
 ·simp (disch := omega) only [↓RA, RZ, simprocAttr, hn, b3x, h1, h2]
  exact ⟨by rw [mZ, if_neg h1, if_pos (by omega)], hS3.forget⟩
 simp (disch := omega) only [↓RA, RZ, simprocAttr, hn, hS3.ld 0 rfl, (hS3.sl ho.2.2.1).len, h1, h2]
 have hE : mZ o r = if ∃ j, j < o.dvs.length ∧ iB r.stops j >>> (iB o.dvs j).stops.length ≠ 0 then 3 else if r.cpl >>> o.cpls.length ≠ 0 ∨ r.off >>> o.dvs.length ≠ 0 then 3 else 0 := by rw [mZ, if_neg h1, if_neg (by omega)]
 refine Wp.al (fun n l H' => l.length = 55 ∧ get l 2 = (ptr A1 0 4) ∧ get l 3 = (ptr A2 0 3) ∧ get l 21 = o.dv ∧ get l 22 = I o.dvs.length ∧ ∃ (j : Nat), (n + j = o.dvs.length ∧ ∀ q, q < j → iB r.stops q >>> (iB o.dvs q).stops.length = 0) ∧ get l 23 = I j ∧ St prog H H' [⟨ptr A1 0 4, 0, [(.string o.name), o.rv, o.dv, o.cv]⟩, ⟨ptr A2 0 3, 0, [sv, (.int .u64 r.cpl), (.int .u64 r.off)]⟩]) o.dvs.length ?_ ?_
 ·simp (disch := omega) only [RB, RC, simprocAttr, hn]
  exact ⟨0, ⟨by omega, fun q hq => absurd hq (dS _)⟩, rfl, hS3⟩
 rintro n l H4 ⟨hn, g2, g3, g21, g22, j, ⟨hj,hz⟩, g23, hS4⟩
 have e1 := a7w r.cpl o.cpls.length hr4
 have e2 := a7w r.off o.dvs.length hr5
 simp (disch := omega) only [↓RA, RB, simprocAttr, hn, g22, g23]
 refine iA (fun q1 => ?_) (fun q1 => ?_)
 ·have hst := (ho.2.2.2.1 _ (iD (xs := o.dvs) (j := j) (by omega))).2.2
  have e3 := a7w (iB r.stops j) (iB o.dvs j).stops.length (hr3 _ (iD (by omega)))
  simp (disch := omega) only [↓RA, RZ, simprocAttr, hn, g21, g23, (hS4.sl ho.2.2.1).idx, (hS4.sl ho.2.2.1).ai, Dvn.cells, q1]
  refine hS4.eNew 5 [(.string ⟨#[]⟩), (.bool false), I 0, I 0, (.slice none 0 0)] rfl rfl rfl rP fun A3 H5 hS5 => ?_
  simp only [RT] at hS5
  simp (disch := omega) only [↓RA, RZ, simprocAttr, hn, q1]
  refine hS5.ab 2 rfl [(.string (iB o.dvs j).name), (.bool (iB o.dvs j).pedal), I (iB o.dvs j).lo, I (iB o.dvs j).hi, (iB o.dvs j).sv] rfl (by simp [OC, (hS5.sl (ho.2.2.2.1 (iB o.dvs j) (iD (by omega))).1).cells.2.1]) rP (by simp) fun H6 hS6 => ?_
  simp only [RT] at hS6
  simp (disch := omega) only [↓RA, RZ, simprocAttr, q1]
  refine Wp.drw jV (by kernel_rfl) ?_
  simp (disch := omega) only [↓RA, RZ, simprocAttr, hn, g3, hS6.ld 1 rfl, (hS6.sl hr1).idx, (hS6.sl hr1).ld, one, u64, hS6.ld 2 rfl, (hS6.sl (ho.2.2.2.1 (iB o.dvs j) (iD (by omega))).1).len, e3]
  refine iA (fun q2 => ?_) (fun q2 => ?_)
  ·simp (disch := omega) only [↓RA, RZ, simprocAttr, hn, b3x, q2]
   exact ⟨by rw [hE, if_pos ⟨j, by omega, by omega⟩], hS6.forget⟩
  simp (disch := omega) only [↓RA, RZ, simprocAttr, hn, g2, g3, g21, g22, g23, q2]
  exact ⟨n - 1, by omega, j + 1, ⟨by omega, fun q hq => by rcases dB.1 hq with e | e; (· exact hz q e); (· rw [e]; omega)⟩, by simp, hS6.sub (by simp)⟩
 simp (disch := omega) only [↓RA, RZ, simprocAttr, hn, g2, g3, hS4.ld 1 rfl, hS4.ld 0 rfl, (hS4.sl ho.2.2.2.2.1).len, q1, e1]
 have hno : ¬ ∃ j, j < o.dvs.length ∧ iB r.stops j >>> (iB o.dvs j).stops.length ≠ 0 := by
  rintro ⟨q, hq, hne⟩
  exact hne (hz q (by omega))
 rw [if_neg hno] at hE
 clear hno
 refine iN (fun q3 => ?_) (fun q3 => ?_)
 ·simp (disch := omega) only [↓RA, RZ, simprocAttr, hn, b3x, q1, q3]
  exact ⟨by rw [hE, if_pos (by omega)], hS4.forget⟩
 simp (disch := omega) only [↓RA, RZ, simprocAttr, hn, g2, g3, hS4.ld 1 rfl, hS4.ld 0 rfl, (hS4.sl ho.2.2.1).len, q1, e2, q3]
 refine iA (fun q4 => ?_) (fun q4 => ?_)
 ·simp (disch := omega) only [↓RA, RZ, simprocAttr, hn, b3x, q1, q3, q4]
  exact ⟨by rw [hE, if_pos (by omega)], hS4.forget⟩
 simp (disch := omega) only [↓RA, RZ, simprocAttr, hn, b3x, q1, q3, q4]
 exact ⟨by rw [hE, if_neg (by omega)], hS4.forget⟩
def a0g (o : Org) (b : Nat → Nat) : Reg := ⟨(List.range o.dvs.length).map fun i => b (i % 3) % 2 ^ (iB o.dvs i).stops.length, b 3 % 2 ^ o.cpls.length, b 4 % 2 ^ o.dvs.length⟩
theorem uH (n : Nat) (h : n < 18446744073709551616) : (BitVec.ofInt (IntKind.bits .u64) (n : Int)).toNat = n := by
 show (BitVec.ofInt 64 (n : Int)).toNat = n
 rw [fZ, BitVec.toNat_ofNat]
 exact gC (by simpa using h)
theorem b6Z (b n : Nat) (h : n ≤ 8) (hb : b < 256) : IntKind.wrap .u64 ((BitVec.ofInt (IntKind.bits .u64) (b : Int) &&& BitVec.ofInt (IntKind.bits .u64) (IntKind.wrap .u64 (IntKind.wrap .u64 (1 * 2 ^ min n (IntKind.bits .u64)) - 1))).toNat : Int) = ((b % 2 ^ n : Nat) : Int) := by
 have key : IntKind.wrap .u64 (IntKind.wrap .u64 (1 * 2 ^ min n (IntKind.bits .u64)) - 1) = ((2 ^ n - 1 : Nat) : Int) := by
  have : n = 0 ∨ n = 1 ∨ n = 2 ∨ n = 3 ∨ n = 4 ∨ n = 5 ∨ n = 6 ∨ n = 7 ∨ n = 8 := by omega
  rcases this with rfl | rfl | rfl | rfl | rfl | rfl | rfl | rfl | rfl <;> rfl
 have hp : 2 ^ n ≤ 2 ^ 8 := fM (by decide) h
 have e8 : 2 ^ 8 = 256 := rfl
 rw [key, gI, uH b (by omega), uH _ (by omega), Nat.and_two_pow_sub_one_eq_mod]
 have : b % 2 ^ n ≤ b := Nat.mod_le _ _
 exact pJ _ (by omega) (by omega)
theorem a9o (o : Org) (ho : o.In H) (h1 : o.cpls.length ≤ 3) (h2 : o.dvs.length ≤ 3) (h3 : ∀ j, j < o.dvs.length → (iB o.dvs j).stops.length ≤ 3) (b : Nat → Nat) (hb : ∀ i, b i < 256) :
 Fn prog 17 [.agg #[.string o.name, o.rv, o.dv, o.cv], .agg #[.int .u8 (b 0), .int .u8 (b 1), .int .u8 (b 2), .int .u8 (b 3), .int .u8 (b 4)]] H fun r H' =>
  ∃ sv, r = .agg #[sv, .int .u64 (a0g o b).cpl, .int .u64 (a0g o b).off] ∧ St prog H H' [⟨sv, 1, ((a0g o b).stops).flatMap (one u64)⟩] := by
 have k0 := hb 0
 have k1 := hb 1
 have k2 := hb 2
 have k3 := hb 3
 have k4 := hb 4
 refine .aM func17 rfl (by kernel_rfl) (m := 57) rfl fun l hn g0 g1 => ?_
 simp (disch := omega) only [↓RA, RB, simprocAttr, g0]
 refine (sR H).eNew 4 [(.string o.name), o.rv, o.dv, o.cv] rfl rfl (by simp [OC, ((sR H).sl ho.1).cells.2.1, ((sR H).sl ho.2.2.1).cells.2.1, ((sR H).sl ho.2.2.2.2.1).cells.2.1]) mD fun A1 H1 hS1 => ?_
 simp only [RT] at hS1
 simp (disch := omega) only [↓RA, RB, simprocAttr, g1]
 refine hS1.eNew 5 [(.int .u8 (b 0)), (.int .u8 (b 1)), (.int .u8 (b 2)), (.int .u8 (b 3)), (.int .u8 (b 4))] rfl rfl rfl c2c fun A2 H2 hS2 => ?_
 simp only [RT] at hS2
 simp (disch := omega) only [↓RA, RZ, simprocAttr]
 refine hS2.eNew 3 [(.slice none 0 0), (.int .u64 0), (.int .u64 0)] rfl rfl rfl pG fun A3 H3 hS3 => ?_
 simp only [RT] at hS3
 simp (disch := omega) only [↓RA, RZ, simprocAttr, hn, hS3.ld 1 rfl, hS3.ld 0 rfl, (hS3.sl ho.2.2.2.2.1).len, (hS3.sl ho.2.2.1).len, b5E]
 refine hS3.eNew 3 [(.slice none 0 0), (.int .u64 0), (.int .u64 0)] rfl rfl rfl pG fun A4 H4 hS4 => ?_
 simp only [RT] at hS4
 simp (disch := omega) only [↓RA, RB, simprocAttr, hn]
 refine hS4.ab 3 rfl [(.slice none 0 0), _, _] rfl rfl pG (by simp) fun H5 hS5 => ?_
 simp only [RT] at hS5
 simp (disch := omega) only [↓RA, RB, simprocAttr]
 have m1 := b6Z (b 3) o.cpls.length (by omega) (hb 3)
 have m2 := b6Z (b 4) o.dvs.length (by omega) (hb 4)
 have hS6 := hS5.nil 0
 simp only [RT] at hS6
 simp only [m1, m2] at hS6
 refine Wp.al (fun n l H' => l.length = 57 ∧ get l 2 = (ptr A1 0 4) ∧ get l 3 = (ptr A2 0 5) ∧ get l 4 = (ptr A3 0 3) ∧ get l 5 = (ptr A4 0 3) ∧ ∃ (i : Nat) (sv : Value), (n + i = o.dvs.length) ∧ get l 6 = I i ∧ St prog H H' [⟨ptr A1 0 4, 0, [(.string o.name), o.rv, o.dv, o.cv]⟩, ⟨ptr A2 0 5, 0, [(.int .u8 (b 0)), (.int .u8 (b 1)), (.int .u8 (b 2)), (.int .u8 (b 3)), (.int .u8 (b 4))]⟩, ⟨ptr A3 0 3, 0, [(.slice none 0 0), (.int .u64 0), (.int .u64 0)]⟩, ⟨ptr A4 0 3, 0, [sv, .int .u64 (b 3 % 2 ^ o.cpls.length : Nat), .int .u64 (b 4 % 2 ^ o.dvs.length : Nat)]⟩, ⟨sv, 1, ((List.range i).map fun i => b (i % 3) % 2 ^ (iB o.dvs i).stops.length).flatMap (one u64)⟩]) o.dvs.length ?_ ?_
 ·simp (disch := omega) only [RB, RC, simprocAttr, hn]
  exact ⟨0, _, by omega, rfl, hS6⟩
 rintro n l H6 ⟨hn, g2, g3, g4, g5, i, sv, hi, g6, hS7⟩
 simp (disch := omega) only [↓RA, RZ, simprocAttr, hn, g2, g6, hS7.ld 0 rfl, (hS7.sl ho.2.2.1).len]
 refine iA (fun q => ?_) (fun q => ?_)
 ·have hi3 : (i : Int).tmod 3 = ((i % 3 : Nat) : Int) := (dU i 3).symm
  have hw : ([Value.int .u8 (b 0), .int .u8 (b 1), .int .u8 (b 2), .int .u8 (b 3), .int .u8 (b 4)] : List Value)[i % 3]? = some (.int .u8 (b (i % 3))) := by
   have : i % 3 = 0 ∨ i % 3 = 1 ∨ i % 3 = 2 := by omega
   rcases this with e | e | e <;> rw [e] <;> rfl
  have hst := h3 i (by omega)
  have hbi := hb (i % 3)
  have m3 := b6Z (b (i % 3)) (iB o.dvs i).stops.length (by omega) (hb _)
  simp (disch := omega) only [↓RA, RC, simprocAttr, q]
  refine Wp.aQ jV [(1, 19)] (by kernel_rfl) (by kernel_rfl) ?_
  simp (disch := omega) only [↓RA, RZ, simprocAttr, hn, g2, g3, g5, g6, hS7.ld 3 rfl, hS7.ld 1 rfl, hw, hS7.ld 0 rfl, (hS7.sl ho.2.2.1).idx, (hS7.sl ho.2.2.1).bz, (hS7.sl ho.2.2.1).ld, Dvn.cells, (hS7.sl (ho.2.2.2.1 (iB o.dvs i) (iD (by omega))).1).len, hi3, m3]
  refine hS7.ag [_] c2v c3H rfl rfl (by simp [Value.cells]) rfl rfl (by decide) (by decide) fun w1 H7 hS8 => ?_
  simp only [RT] at hS8
  simp (disch := omega) only [↓RA, RZ, simprocAttr, hn]
  refine hS8.ar 4 rfl (hS8.rd 5 rfl) c2v (by rw [iG (n := 1) (cel := one u64) (fun _ => rfl)]; simp; omega) fun w2 H8 hS9 => ?_
  simp only [RT] at hS9
  simp (disch := omega) only [↓RA, RZ, simprocAttr, hn, g5]
  refine hS9.ab 3 rfl [w2] (by rw [(hS9.rd 4 rfl).cells.1]) (by simp [(hS9.rd 4 rfl).cells.2.1]) c3v (by simp) fun H9 hS10 => ?_
  simp only [RT] at hS10
  simp (disch := omega) only [↓RA, RZ, simprocAttr, hn, g2, g3, g4, g5, g6, hS8.ld 3 rfl]
  refine ⟨n - 1, by omega, i + 1, w2, by omega, rfl, ?_⟩
  rw [eO, dZ, dM]
  exact hS10.pick [0, 1, 2, 3, 4] (by decide) rfl
 simp (disch := omega) only [↓RA, RZ, simprocAttr, hn, g4, g5, hS7.ai 3 rfl, q]
 refine hS7.ab 2 rfl [sv, (.int .u64 (b 3 % 2 ^ o.cpls.length : Nat)), (.int .u64 (b 4 % 2 ^ o.dvs.length : Nat))] rfl (by simp [OC, (hS7.rd 4 rfl).cells.2.1]) pG (by simp) fun H10 hS11 => ?_
 simp only [RT] at hS11
 simp (disch := omega) only [↓RA, RZ, simprocAttr, g4, c6s, hS11.ai 2 rfl, q]
 have hii : i = o.dvs.length := by omega
 subst hii
 exact ⟨sv, rfl, hS11.pick [4] (by decide) rfl⟩
end Go.Ds
namespace Go.Ds
open Go.Proofs Go.Proofs.Tryz
variable {H : Heap}
set_option maxRecDepth 10000
theorem RdAt.sub_self {v : Value} {size n : Nat} {cs : List Value} (h : RdAt H v (size + 1) cs) (hn : cs.length = n * (size + 1)) : mK v (size + 1) 0 n = v := by
 rcases h with ⟨rfl, _⟩ | ⟨A, i, e, row, ty, rw, lo, ver, m, _, _, _, _, _, h6, rfl⟩
 ·rfl
 ·have : m = n := fx (fI size) (h6.symm.trans hn)
  subst this
  simp [mK]
theorem xO {v : Value} {xs : List (Int × Int)} {rest : List Value} (h : RdAt H v 2 (pr xs ++ rest)) : RdAt H (mK v 2 0 xs.length) 2 (pr xs) := by
 by_cases h0 : pr xs ++ rest = []
 ·have hx : xs.length = 0 := by
   have := congrArg List.length h0
   rw [dw, iK, dC] at this
   omega
  have e := RdAt.sub_self (size := 1) (n := 0) h (by rw [h0]; rfl)
  obtain rfl := fN.1 hx
  show RdAt H (mK v 2 0 0) 2 []
  rw [show mK v 2 0 0 = v from e]
  rwa [h0] at h
 ·have h5 := RdAt.sub h 0 xs.length (by rw [dw, iK]; omega) h0
  rw [Nat.zero_mul, List.drop_zero, show xs.length * 2 = (pr xs).length from (iK xs).symm, List.take_left' rfl] at h5
  exact h5
theorem yW {H0 : Heap} {v : Value} {xs : List (Int × Int)} {rest : List Value} (h : St prog H0 H [⟨v, 2, pr xs ++ rest⟩]) : Slx 2 kA H (fun B => H0.length ≤ B) (mK v 2 0 xs.length) xs := by
 refine ⟨⟨xO (h.rd 0 rfl), jU, by decide⟩, fun b hb => ?_⟩
 rcases h.new _ (eH ..) b (xY hb) with h | h
 ·exact h
 ·exact h.elim
theorem c1J : b1u prog 60 = some (1 + 1) := by kernel_rfl
theorem c5b : b1u prog 45 = some (1 + 1) := by kernel_rfl
theorem a5B {B : Base} {v : Value} {es : List (Int × Int)} (hS : St prog B H [⟨v, 2, pr es⟩]) (hl : es.length < 100000000000) :
 Fn prog 114 [v] H fun r H' => ∃ rest : List Value, r = mK v 2 0 (dd es).length ∧ St prog B H' [⟨v, 2, pr (dd es) ++ rest⟩] := by
 refine .aW func114 rfl (by kernel_rfl) (m := 61) rfl fun l hn g0 => ?_
 simp (disch := omega) only [↓RA, RZ, simprocAttr, hn, g0, (hS.aw 0 rfl (fun _ => rfl)).len]
 refine iA (fun h => ?_) (fun h => ?_)
 ·have hd := sT es es.length (dq _) fun j h1 h2 => by omega
  rw [eJ] at hd
  simp (disch := omega) only [↓RA, RZ, simprocAttr, hn, g0, b4S, h]
  exact ⟨[], by unfold dd; rw [hd]; exact (RdAt.sub_self (size := 1) (hS.rd 0 rfl) (iK es)).symm, by unfold dd; rw [hd, dG]; exact hS⟩
 simp (disch := omega) only [↓RA, RZ, simprocAttr, h]
 refine Wp.al (fun n l H' => l.length = 61 ∧ get l 0 = v ∧ ∃ (k : Nat), (0 < k ∧ n + k = es.length ∧ ∀ j, 0 < j → j < k → iB es j ≠ iB es (j - 1)) ∧ get l 3 = I k ∧ St prog B H' [⟨v, 2, pr es⟩]) (es.length - 1) ?_ ?_
 ·simp (disch := omega) only [RB, RC, simprocAttr, hn, g0]
  exact ⟨1, ⟨by omega, by omega, fun j h1 h2 => by omega⟩, rfl, hS⟩
 rintro n l H1 ⟨hn, g0, k, ⟨hk0,hk,hdis⟩, g3, hS1⟩
 simp (disch := omega) only [↓RA, RZ, simprocAttr, hn, g0, g3, (hS1.aw 0 rfl (fun _ => rfl)).len]
 refine iA (fun h2 => ?_) (fun h2 => ?_)
 ·have hkl : k < es.length := by omega
  have hpre : (k : Int) - 1 = ((k - 1 : Nat) : Int) := by omega
  simp (disch := omega) only [↓RA, RC, simprocAttr, h2]
  refine Wp.drw jV (by kernel_rfl) ?_
  simp (disch := omega) only [↓RA, RZ, simprocAttr, hn, g0, g3, (hS1.aw 0 rfl (fun _ => rfl)).idx, (hS1.aw 0 rfl (fun _ => rfl)).ai, kA, hpre]
  refine iA (fun h3 => ?_) (fun h3 => ?_)
  ·have h3 : iB es k = iB es (k - 1) := gz h3.1 h3.2
   have hlen : (pr es).length = es.length * (1 + 1) := iK es
   have hpos : 0 < es.length := by omega
   have hdk := sT es k (by omega) hdis
   have hdk1 : xP es (k + 1) = es.take k := by rw [rN, hdk, if_neg (by rintro (h4 | h4); omega; exact h4 h3), dG]
   have hrow : St prog B H1 [⟨v, 2, pr (xP es (k + 1) ++ es.drop k)⟩] := by rw [hdk1, List.take_append_drop]; exact hS1
   have hdl : (xP es (k + 1)).length = k := by rw [hdk1, gj]; omega
   simp (disch := omega) only [↓RA, RZ, simprocAttr, hn, g0, g3, (hS1.aw 0 rfl (fun _ => rfl)).aV, h3]
   refine Wp.al (fun n l H' => l.length = 61 ∧ get l 0 = v ∧ ∃ k2 : Nat, (0 < k2 ∧ n + k + k2 = es.length ∧ (xP es (k + k2)).length < k + k2) ∧ get l 3 = I (xP es (k + k2)).length ∧ get l 4 = mK v 2 k (es.length - k) ∧ get l 5 = I k2 ∧ St prog B H' [⟨v, 2, pr (xP es (k + k2) ++ es.drop (xP es (k + k2)).length)⟩]) (es.length - k - 1) ?_ ?_
   ·simp (disch := omega) only [RB, RC, simprocAttr, hn, g0, g3]
    refine ⟨1, ⟨by omega, by omega, by omega⟩, by rw [hdl], by congr 1; omega, rfl, ?_⟩
    rw [hdl]
    exact hrow
   clear hrow hdk hdk1 hdl hdis
   rintro n l H9 ⟨hn, g0, k2, ⟨hk20, hk2, hlt⟩, g3, g4, g5, hS9⟩
   have hsucc := rN es (k + k2)
   generalize hD : xP es (k + k2) = D at g3 hlt hS9 hsucc
   have hrl : (D ++ es.drop D.length).length = es.length := by rw [dw, fG]; omega
   have hv : Sl 2 kA H9 v (D ++ es.drop D.length) := hS9.aw 0 rfl jU
   have hat : ∀ j, D.length ≤ j → iB (D ++ es.drop D.length) j = iB es j := fun j hj => by
    unfold iB
    rw [dj, eG hj, dL, dj]
    congr 2; omega
   have hsub : Sl 2 kA H9 (mK v 2 k ((D ++ es.drop D.length).length - k)) ((D ++ es.drop D.length).drop k) := hv.cJ k (by omega) (by omega)
   rw [hrl] at hsub
   have hsl : ((D ++ es.drop D.length).drop k).length = es.length - k := by rw [fG, hrl]
   have hsat : ∀ j, D.length ≤ k + j → iB ((D ++ es.drop D.length).drop k) j = iB es (k + j) := fun j hj => by
    rw [← hat (k + j) hj]
    unfold iB
    rw [dj, dL, dj]
   have hbd : ((es.length - k : Nat) : Int) = (es.length : Int) - k := by omega
   simp (disch := omega) only [↓RA, RZ, simprocAttr, hn, g4, g5, hsub.len, hsl, hbd]
   refine iA (fun h4 => ?_) (fun h4 => ?_)
   ·have hj : k + k2 < es.length := by omega
    have hpre2 : (k2 : Int) - 1 = ((k2 - 1 : Nat) : Int) := by omega
    have e1 := hsat k2 (by omega)
    have e2 := hsat (k2 - 1) (by omega)
    rw [show k + (k2 - 1) = k + k2 - 1 from by omega] at e2
    simp (disch := omega) only [↓RA, RC, simprocAttr, h4]
    refine Wp.drw jV (by kernel_rfl) ?_
    simp (disch := omega) only [↓RA, RZ, simprocAttr, hn, g4, g5, hsub.idx, hsub.ai, kA, hpre2, e1, e2]
    refine iA (fun h5 => ?_) (fun h5 => ?_)
    ·have hne : iB es (k + k2) ≠ iB es (k + k2 - 1) := fun e => h5 (by rw [e]; exact ⟨rfl, rfl⟩)
     rw [if_pos (.inr hne)] at hsucc
     simp (disch := omega) only [↓RA, RZ, simprocAttr, hn, g0, g3, g4, g5, hsub.idx, hsub.ai, kA, e1, h5]
     simp (disch := omega) only [↓RA, RZ, simprocAttr, hn, (hS9.aw 0 rfl (fun _ => rfl)).idx, h5]
     refine hS9.aA 0 rfl [I (iB es (k + k2)).1, I (iB es (k + k2)).2] rfl rfl rC (by simp) (by rw [iK, hrl]; simp; omega) fun H2 hS2 => ?_
     simp only [RT] at hS2
     simp (disch := omega) only [↓RA, RZ, simprocAttr, hn, g0, g3, g4, g5, h5]
     refine ⟨n - 1, by omega, k2 + 1, ?_⟩
     rw [show k + (k2 + 1) = k + k2 + 1 from by omega, hsucc]
     refine ⟨⟨by omega, by omega, by simp; omega⟩, by simp, by simp, ?_⟩
     have e3 : pr (D ++ [iB es (k + k2)] ++ es.drop (D ++ [iB es (k + k2)]).length) = ((pr (D ++ es.drop D.length)).set (D.length * 2) (I (iB es (k + k2)).1)).set (D.length * 2 + 1) (I (iB es (k + k2)).2) := by
      have hx : es.drop D.length = iB es D.length :: es.drop (D.length + 1) := by
       rw [kF es _ (by omega)]
       exact fD (by omega)
      rw [hx, dw, List.length_singleton, kG, kG, kG]
      have e4 : pr (iB es D.length :: es.drop (D.length + 1)) = I (iB es D.length).1 :: I (iB es D.length).2 :: pr (es.drop (D.length + 1)) := rfl
      have e5 : pr [iB es (k + k2)] = [I (iB es (k + k2)).1, I (iB es (k + k2)).2] := rfl
      have e6 : (pr D).length = D.length * 2 := iK D
      rw [e4, e5, fE _ _ (by omega), fE _ _ (by omega), e6, Nat.sub_self, gi]
      simp
     rw [e3]
     exact hS2
    have heq : iB es (k + k2) = iB es (k + k2 - 1) := by
     have h6 := dD.1 h5
     exact gz h6.1 h6.2
    rw [if_neg (by rintro (h6 | h6); omega; exact h6 heq), dG] at hsucc
    simp (disch := omega) only [↓RA, RZ, simprocAttr, hn, g0, g3, g4, g5, h5]
    refine ⟨n - 1, by omega, k2 + 1, ?_⟩
    rw [show k + (k2 + 1) = k + k2 + 1 from by omega, hsucc]
    exact ⟨⟨by omega, by omega, by omega⟩, rfl, by simp, hS9⟩
   have hke : k + k2 = es.length := by omega
   rw [hke] at hD
   have hcl : (pr (D ++ es.drop D.length)).length = es.length * (1 + 1) := by rw [iK, hrl]
   have hDn : D.length ≤ es.length := by omega
   simp (disch := omega) only [↓RA, RZ, simprocAttr, hn, g0, g3, (hS9.aw 0 rfl (fun _ => rfl)).aV, h4]
   rw [show (((D ++ es.drop D.length).length : Int) - D.length).toNat = es.length - D.length from by rw [hrl]; omega]
   refine hS9.bN (size := 1) 0 rfl D.length (es.length - D.length) (by rw [hcl]; omega) (by
    intro e
    have h2 : (pr (D ++ es.drop D.length)).length = 0 := by rw [e]; rfl
    rw [iK, hrl] at h2; omega) c1J fun z H3 hz hSc => ?_
   simp only [RT] at hSc
   have e3 : iX (pr (D ++ es.drop D.length)) (D.length * 2) z = pr D ++ z := by
    rw [kG, show D.length * 2 = (pr D).length from (iK D).symm, mV z (pr D) (pr (es.drop D.length)) (by rw [iK, fG]; omega)]
    rw [List.drop_of_length_le (by rw [iK, fG]; omega), dG]
   rw [show D.length * (1 + 1) = D.length * 2 from rfl, e3] at hSc
   have hw : RdAt H3 v (1 + 1) (pr D ++ z) := hSc.rd 0 rfl
   have hwl : (pr D ++ z).length = es.length * (1 + 1) := by rw [dw, iK, hz]; omega
   simp (disch := omega) only [↓RA, RZ, simprocAttr, hn, g0, g3, hw.aR hwl, b4S, h4]
   exact ⟨z, by unfold dd; rw [hD], by unfold dd; rw [hD]; exact hSc⟩
  have hne : iB es k ≠ iB es (k - 1) := fun e => h3 (by rw [e]; exact ⟨rfl, rfl⟩)
  simp (disch := omega) only [↓RA, RZ, simprocAttr, hn, g0, g3, h3]
  refine ⟨n - 1, by omega, k + 1, ⟨by omega, by omega, fun j h4 h5 => ?_⟩, by simp, hS1⟩
  by_cases e : j = k
  ·rw [e]; exact hne
  ·exact hdis j h4 (by omega)
 have hke : k = es.length := by omega
 have hd := sT es es.length (dq _) (hke ▸ hdis)
 rw [eJ] at hd
 simp (disch := omega) only [↓RA, RZ, simprocAttr, hn, g0, b4S, h2]
 exact ⟨[], by unfold dd; rw [hd]; exact (RdAt.sub_self (size := 1) (hS.rd 0 rfl) (iK es)).symm, by unfold dd; rw [hd, dG]; exact hS1⟩
theorem a7g {B : Base} {v : Value} {es : List (Int × Int)} (hS : St prog B H [⟨v, 2, pr es⟩]) (hl : es.length < 100000000000) :
 Fn prog 114 [v] H fun r H' => ∃ rest : List Value, (∀ b, kK r = some b → kK v = some b) ∧ (∀ H2, RdAt H2 v 2 (pr (dd es) ++ rest) → RdAt H2 r 2 (pr (dd es))) ∧ St prog B H' [⟨v, 2, pr (dd es) ++ rest⟩] :=
 (a5B hS hl).mono fun _ _ ⟨rest, e, h⟩ => ⟨rest, fun _ h => xY (e ▸ h), fun _ h => e ▸ xO h, h⟩
theorem yT {B : Base} {v : Value} {es : List (Int × Int)} (hS : St prog B H [⟨v, 2, pr es⟩]) (hl : es.length < 100000000000) :
 Fn prog 72 [v] H fun r H' => ∃ rest : List Value, r = mK v 2 0 (dd es).length ∧ St prog B H' [⟨v, 2, pr (dd es) ++ rest⟩] := by
 refine .aW func72 rfl (by kernel_rfl) (m := 61) rfl fun l hn g0 => ?_
 simp (disch := omega) only [↓RA, RZ, simprocAttr, hn, g0, (hS.aw 0 rfl (fun _ => rfl)).len]
 refine iA (fun h => ?_) (fun h => ?_)
 ·have hd := sT es es.length (dq _) fun j h1 h2 => by omega
  rw [eJ] at hd
  simp (disch := omega) only [↓RA, RZ, simprocAttr, hn, g0, c1F, h]
  exact ⟨[], by unfold dd; rw [hd]; exact (RdAt.sub_self (size := 1) (hS.rd 0 rfl) (iK es)).symm, by unfold dd; rw [hd, dG]; exact hS⟩
 simp (disch := omega) only [↓RA, RZ, simprocAttr, h]
 refine Wp.al (fun n l H' => l.length = 61 ∧ get l 0 = v ∧ ∃ (k : Nat), (0 < k ∧ n + k = es.length ∧ ∀ j, 0 < j → j < k → iB es j ≠ iB es (j - 1)) ∧ get l 3 = I k ∧ St prog B H' [⟨v, 2, pr es⟩]) (es.length - 1) ?_ ?_
 ·simp (disch := omega) only [RB, RC, simprocAttr, hn, g0]
  exact ⟨1, ⟨by omega, by omega, fun j h1 h2 => by omega⟩, rfl, hS⟩
 rintro n l H1 ⟨hn, g0, k, ⟨hk0,hk,hdis⟩, g3, hS1⟩
 simp (disch := omega) only [↓RA, RZ, simprocAttr, hn, g0, g3, (hS1.aw 0 rfl (fun _ => rfl)).len]
 refine iA (fun h2 => ?_) (fun h2 => ?_)
 ·have hkl : k < es.length := by omega
  have hpre : (k : Int) - 1 = ((k - 1 : Nat) : Int) := by omega
  simp (disch := omega) only [↓RA, RC, simprocAttr, h2]
  refine Wp.drw jV (by kernel_rfl) ?_
  simp (disch := omega) only [↓RA, RZ, simprocAttr, hn, g0, g3, (hS1.aw 0 rfl (fun _ => rfl)).idx, (hS1.aw 0 rfl (fun _ => rfl)).ai, kA, hpre]
  refine iA (fun h3 => ?_) (fun h3 => ?_)
  ·have h3 : iB es k = iB es (k - 1) := gz h3.1 h3.2
   have hlen : (pr es).length = es.length * (1 + 1) := iK es
   have hpos : 0 < es.length := by omega
   have hdk := sT es k (by omega) hdis
   have hdk1 : xP es (k + 1) = es.take k := by rw [rN, hdk, if_neg (by rintro (h4 | h4); omega; exact h4 h3), dG]
   have hrow : St prog B H1 [⟨v, 2, pr (xP es (k + 1) ++ es.drop k)⟩] := by rw [hdk1, List.take_append_drop]; exact hS1
   have hdl : (xP es (k + 1)).length = k := by rw [hdk1, gj]; omega
   simp (disch := omega) only [↓RA, RZ, simprocAttr, hn, g0, g3, (hS1.aw 0 rfl (fun _ => rfl)).aV, h3]
   refine Wp.al (fun n l H' => l.length = 61 ∧ get l 0 = v ∧ ∃ k2 : Nat, (0 < k2 ∧ n + k + k2 = es.length ∧ (xP es (k + k2)).length < k + k2) ∧ get l 3 = I (xP es (k + k2)).length ∧ get l 4 = mK v 2 k (es.length - k) ∧ get l 5 = I k2 ∧ St prog B H' [⟨v, 2, pr (xP es (k + k2) ++ es.drop (xP es (k + k2)).length)⟩]) (es.length - k - 1) ?_ ?_
   ·simp (disch := omega) only [RB, RC, simprocAttr, hn, g0, g3]
    refine ⟨1, ⟨by omega, by omega, by omega⟩, by rw [hdl], by congr 1; omega, rfl, ?_⟩
    rw [hdl]
    exact hrow
   clear hrow hdk hdk1 hdl hdis
   rintro n l H9 ⟨hn, g0, k2, ⟨hk20, hk2, hlt⟩, g3, g4, g5, hS9⟩
   have hsucc := rN es (k + k2)
   generalize hD : xP es (k + k2) = D at g3 hlt hS9 hsucc
   have hrl : (D ++ es.drop D.length).length = es.length := by rw [dw, fG]; omega
   have hv : Sl 2 kA H9 v (D ++ es.drop D.length) := hS9.aw 0 rfl jU
   have hat : ∀ j, D.length ≤ j → iB (D ++ es.drop D.length) j = iB es j := fun j hj => by
    unfold iB
    rw [dj, eG hj, dL, dj]
    congr 2; omega
   have hsub : Sl 2 kA H9 (mK v 2 k ((D ++ es.drop D.length).length - k)) ((D ++ es.drop D.length).drop k) := hv.cJ k (by omega) (by omega)
   rw [hrl] at hsub
   have hsl : ((D ++ es.drop D.length).drop k).length = es.length - k := by rw [fG, hrl]
   have hsat : ∀ j, D.length ≤ k + j → iB ((D ++ es.drop D.length).drop k) j = iB es (k + j) := fun j hj => by
    rw [← hat (k + j) hj]
    unfold iB
    rw [dj, dL, dj]
   have hbd : ((es.length - k : Nat) : Int) = (es.length : Int) - k := by omega
   simp (disch := omega) only [↓RA, RZ, simprocAttr, hn, g4, g5, hsub.len, hsl, hbd]
   refine iA (fun h4 => ?_) (fun h4 => ?_)
   ·have hj : k + k2 < es.length := by omega
    have hpre2 : (k2 : Int) - 1 = ((k2 - 1 : Nat) : Int) := by omega
    have e1 := hsat k2 (by omega)
    have e2 := hsat (k2 - 1) (by omega)
    rw [show k + (k2 - 1) = k + k2 - 1 from by omega] at e2
    simp (disch := omega) only [↓RA, RC, simprocAttr, h4]
    refine Wp.drw jV (by kernel_rfl) ?_
    simp (disch := omega) only [↓RA, RZ, simprocAttr, hn, g4, g5, hsub.idx, hsub.ai, kA, hpre2, e1, e2]
    refine iA (fun h5 => ?_) (fun h5 => ?_)
    ·have hne : iB es (k + k2) ≠ iB es (k + k2 - 1) := fun e => h5 (by rw [e]; exact ⟨rfl, rfl⟩)
     rw [if_pos (.inr hne)] at hsucc
     simp (disch := omega) only [↓RA, RZ, simprocAttr, hn, g0, g3, g4, g5, hsub.idx, hsub.ai, kA, e1, h5]
     simp (disch := omega) only [↓RA, RZ, simprocAttr, hn, (hS9.aw 0 rfl (fun _ => rfl)).idx, h5]
     refine hS9.aA 0 rfl [I (iB es (k + k2)).1, I (iB es (k + k2)).2] rfl rfl rO (by simp) (by rw [iK, hrl]; simp; omega) fun H2 hS2 => ?_
     simp only [RT] at hS2
     simp (disch := omega) only [↓RA, RZ, simprocAttr, hn, g0, g3, g4, g5, h5]
     refine ⟨n - 1, by omega, k2 + 1, ?_⟩
     rw [show k + (k2 + 1) = k + k2 + 1 from by omega, hsucc]
     refine ⟨⟨by omega, by omega, by simp; omega⟩, by simp, by simp, ?_⟩
     have e3 : pr (D ++ [iB es (k + k2)] ++ es.drop (D ++ [iB es (k + k2)]).length) = ((pr (D ++ es.drop D.length)).set (D.length * 2) (I (iB es (k + k2)).1)).set (D.length * 2 + 1) (I (iB es (k + k2)).2) := by
      have hx : es.drop D.length = iB es D.length :: es.drop (D.length + 1) := by
       rw [kF es _ (by omega)]
       exact fD (by omega)
      rw [hx, dw, List.length_singleton, kG, kG, kG]
      have e4 : pr (iB es D.length :: es.drop (D.length + 1)) = I (iB es D.length).1 :: I (iB es D.length).2 :: pr (es.drop (D.length + 1)) := rfl
      have e5 : pr [iB es (k + k2)] = [I (iB es (k + k2)).1, I (iB es (k + k2)).2] := rfl
      have e6 : (pr D).length = D.length * 2 := iK D
      rw [e4, e5, fE _ _ (by omega), fE _ _ (by omega), e6, Nat.sub_self, gi]
      simp
     rw [e3]
     exact hS2
    have heq : iB es (k + k2) = iB es (k + k2 - 1) := by
     have h6 := dD.1 h5
     exact gz h6.1 h6.2
    rw [if_neg (by rintro (h6 | h6); omega; exact h6 heq), dG] at hsucc
    simp (disch := omega) only [↓RA, RZ, simprocAttr, hn, g0, g3, g4, g5, h5]
    refine ⟨n - 1, by omega, k2 + 1, ?_⟩
    rw [show k + (k2 + 1) = k + k2 + 1 from by omega, hsucc]
    exact ⟨⟨by omega, by omega, by omega⟩, rfl, by simp, hS9⟩
   have hke : k + k2 = es.length := by omega
   rw [hke] at hD
   have hcl : (pr (D ++ es.drop D.length)).length = es.length * (1 + 1) := by rw [iK, hrl]
   have hDn : D.length ≤ es.length := by omega
   simp (disch := omega) only [↓RA, RZ, simprocAttr, hn, g0, g3, (hS9.aw 0 rfl (fun _ => rfl)).aV, h4]
   rw [show (((D ++ es.drop D.length).length : Int) - D.length).toNat = es.length - D.length from by rw [hrl]; omega]
   refine hS9.bN (size := 1) 0 rfl D.length (es.length - D.length) (by rw [hcl]; omega) (by
    intro e
    have h2 : (pr (D ++ es.drop D.length)).length = 0 := by rw [e]; rfl
    rw [iK, hrl] at h2; omega) c5b fun z H3 hz hSc => ?_
   simp only [RT] at hSc
   have e3 : iX (pr (D ++ es.drop D.length)) (D.length * 2) z = pr D ++ z := by
    rw [kG, show D.length * 2 = (pr D).length from (iK D).symm, mV z (pr D) (pr (es.drop D.length)) (by rw [iK, fG]; omega)]
    rw [List.drop_of_length_le (by rw [iK, fG]; omega), dG]
   rw [show D.length * (1 + 1) = D.length * 2 from rfl, e3] at hSc
   have hw : RdAt H3 v (1 + 1) (pr D ++ z) := hSc.rd 0 rfl
   have hwl : (pr D ++ z).length = es.length * (1 + 1) := by rw [dw, iK, hz]; omega
   simp (disch := omega) only [↓RA, RZ, simprocAttr, hn, g0, g3, hw.aR hwl, c1F, h4]
   exact ⟨z, by unfold dd; rw [hD], by unfold dd; rw [hD]; exact hSc⟩
  have hne : iB es k ≠ iB es (k - 1) := fun e => h3 (by rw [e]; exact ⟨rfl, rfl⟩)
  simp (disch := omega) only [↓RA, RZ, simprocAttr, hn, g0, g3, h3]
  refine ⟨n - 1, by omega, k + 1, ⟨by omega, by omega, fun j h4 h5 => ?_⟩, by simp, hS1⟩
  by_cases e : j = k
  ·rw [e]; exact hne
  ·exact hdis j h4 (by omega)
 have hke : k = es.length := by omega
 have hd := sT es es.length (dq _) (hke ▸ hdis)
 rw [eJ] at hd
 simp (disch := omega) only [↓RA, RZ, simprocAttr, hn, g0, c1F, h2]
 exact ⟨[], by unfold dd; rw [hd]; exact (RdAt.sub_self (size := 1) (hS.rd 0 rfl) (iK es)).symm, by unfold dd; rw [hd, dG]; exact hS1⟩
theorem a6n {B : Base} {v : Value} {es : List (Int × Int)} (hS : St prog B H [⟨v, 2, pr es⟩]) (hl : es.length < 100000000000) :
 Fn prog 72 [v] H fun r H' => ∃ rest : List Value, (∀ b, kK r = some b → kK v = some b) ∧ (∀ H2, RdAt H2 v 2 (pr (dd es) ++ rest) → RdAt H2 r 2 (pr (dd es))) ∧ St prog B H' [⟨v, 2, pr (dd es) ++ rest⟩] :=
 (yT hS hl).mono fun _ _ ⟨rest, e, h⟩ => ⟨rest, fun _ h => xY (e ▸ h), fun _ h => e ▸ xO h, h⟩
end Go.Ds
namespace Go.Ds
open Go.Proofs Go.Proofs.Tryz
variable {H : Heap}
theorem a7B (a : Int) : Fn prog 117 [I a] H fun r H' => r = .bool false ∧ St prog H H' [] := by
 refine .aW func117 rfl (by kernel_rfl) (m := 6) rfl fun l hn g0 => ?_
 simp (disch := omega) only [↓RA, RZ, simprocAttr, hn, g0, c4U]
 exact .refl _ _
def qG (a b : Int) : Int := if a < b then -1 else if b < a then 1 else 0
theorem sI (a b : Int) : Fn prog 63 [I a, I b] H fun r H' => r = I (qG a b) ∧ St prog H H' [] := by
 refine .aM func63 rfl (by kernel_rfl) (m := 20) rfl fun l hn g0 g1 => ?_
 simp (disch := omega) only [↓RA, RZ, simprocAttr, hn, g0]
 refine (sR H).cF (a7B _) fun H1 hS1 => ?_
 simp (disch := omega) only [↓RA, RZ, simprocAttr, hn, g1]
 refine hS1.cF (a7B _) fun H2 hS2 => ?_
 simp (disch := omega) only [↓RA, RB, simprocAttr, hn, g0, g1]
 refine iA (fun h => ?_) (fun h => ?_)
 ·simp (disch := omega) only [↓RA, RZ, simprocAttr, hn, c0T, h]
  exact ⟨by simp [qG, h], hS2⟩
 simp (disch := omega) only [↓RA, RZ, simprocAttr, hn, g0, g1, h]
 refine iA (fun h2 => ?_) (fun h2 => ?_)
 ·simp (disch := omega) only [↓RA, RZ, simprocAttr, hn, c0T, h, h2]
  exact ⟨by simp [qG, h, h2], hS2⟩
 simp (disch := omega) only [↓RA, RZ, simprocAttr, hn, c0T, h, h2]
 exact ⟨by simp [qG, h, h2], hS2⟩
def orI : List Int → Int
 | [] => 0
 | a :: l => if a = 0 then orI l else a
theorem a2p (xs : List Int) : ∀ i, i ≤ xs.length → (∀ j, j < i → iB xs j = 0) → orI xs = orI (xs.drop i)
 | 0, _, _ => rfl
 | i + 1, hi, h => by
   rw [a2p xs i (by omega) (fun j hj => h j (by omega)), xC xs i (by omega), orI, if_pos (h i (by omega))]
theorem b4E (v : Value) (xs : List Int) (hv : Sl 1 (one I) H v xs) (hl : xs.length < 1000000) : Fn prog 141 [v] H fun r H' => r = I (orI xs) ∧ St prog H H' [] := by
 refine .aW func141 rfl (by kernel_rfl) (m := 18) rfl fun l hn g0 => ?_
 simp (disch := omega) only [↓RA, RZ, simprocAttr, hn, g0, ((sR H).sl hv).len]
 refine Wp.al (fun n l H' => l.length = 18 ∧ get l 3 = I 0 ∧ get l 6 = v ∧ get l 7 = I xs.length ∧ ∃ (i : Nat), (n + i = xs.length ∧ ∀ j, j < i → iB xs j = 0) ∧ get l 8 = I i ∧ St prog H H' []) xs.length ?_ ?_
 ·simp (disch := omega) only [RB, RC, simprocAttr, hn]
  exact ⟨0, ⟨by omega, by simp⟩, rfl, (sR H)⟩
 rintro n l H1 ⟨hn, g3, g6, g7, i, ⟨hi,h0⟩, g8, hS1⟩
 simp (disch := omega) only [↓RA, RB, simprocAttr, hn, g7, g8]
 refine iA (fun h => ?_) (fun h => ?_)
 ·simp (disch := omega) only [↓RA, RZ, simprocAttr, hn, g3, g6, g8, (hS1.sl hv).idx, (hS1.sl hv).ld, one, h]
  refine iA (fun h2 => ?_) (fun h2 => ?_)
  ·simp (disch := omega) only [↓RA, RZ, simprocAttr, hn, c0u, h, h2]
   refine ⟨?_, hS1⟩
   rw [a2p xs i (by omega) h0, xC xs i (by omega), orI, if_neg h2]
  simp (disch := omega) only [↓RA, RZ, simprocAttr, hn, g3, g6, g7, g8, h, h2]
  exact ⟨n - 1, by omega, i + 1, ⟨by omega, fun j hj => by by_cases e : j = i; (· subst e; exact dD.1 h2); exact h0 j (by omega)⟩, by simp, hS1⟩
 simp (disch := omega) only [↓RA, RZ, simprocAttr, hn, g3, c0u, h]
 refine ⟨?_, hS1⟩
 rw [a2p xs i (by omega) h0, List.drop_eq_nil_of_le (by omega), orI]
theorem b0r (x y : Int × Int) : orI [qG x.1 y.1, qG x.2 y.2] = cf2 x y := by
 unfold cf2 qG orI orI orI
 split
 ·simp
 ·split
  ·simp
  ·simp
   intro h
   exact h.symm
theorem b9w (x y : Int × Int) : Fn prog 113 [.agg #[I x.1, I x.2], .agg #[I y.1, I y.2]] H fun r H' => r = I (cf2 x y) ∧ St prog H H' [] := by
 refine .aM func113 rfl (by kernel_rfl) (m := 17) rfl fun l hn g0 g1 => ?_
 simp (disch := omega) only [↓RA, RB, simprocAttr, g0]
 refine (sR H).eNew 2 [I x.1, I x.2] rfl rfl rfl rC fun A1 H1 hS1 => ?_
 simp only [RT] at hS1
 simp (disch := omega) only [↓RA, RB, simprocAttr, g1]
 refine hS1.eNew 2 [I y.1, I y.2] rfl rfl rfl rC fun A2 H2 hS2 => ?_
 simp only [RT] at hS2
 simp (disch := omega) only [↓RA, RB, simprocAttr]
 refine Wp.aQ jV [(6, 0), (8, 0)] (by kernel_rfl) (by kernel_rfl) ?_
 simp (disch := omega) only [↓RA, RZ, simprocAttr, hn, hS2.ld 0 rfl, hS2.ld 1 rfl]
 refine hS2.cF (sI x.1 y.1) fun H3 hS3 => ?_
 simp (disch := omega) only [↓RA, RZ, simprocAttr, hn, hS3.ld 0 rfl, hS3.ld 1 rfl]
 refine hS3.cF (sI x.2 y.2) fun H4 hS4 => ?_
 simp (disch := omega) only [↓RA, RB, simprocAttr, hn]
 refine hS4.ag [I (qG x.1 y.1), I (qG x.2 y.2)] a1A a6c rfl rfl (by simp [Value.cells]) rfl rfl (by decide) (by decide) fun w1 H5 hS5 => ?_
 simp only [RT] at hS5
 simp (disch := omega) only [↓RA, RZ, simprocAttr, hn]
 refine hS5.cF (b4E w1 [qG x.1 y.1, qG x.2 y.2] (hS5.aw 2 rfl (lP _)) (by simp)) fun H6 hS6 => ?_
 simp (disch := omega) only [↓RA, RZ, simprocAttr, hn, hS2.ld 0 rfl, hS2.ld 1 rfl, c3Z]
 exact ⟨by rw [b0r], hS6.forget⟩
theorem a4T (x y : Int × Int) : Fn prog 103 [.agg #[I x.1, I x.2], .agg #[I y.1, I y.2]] H fun r H' => r = I (cf2 x y) ∧ St prog H H' [] := by
 refine .aM func103 rfl (by kernel_rfl) (m := 17) rfl fun l hn g0 g1 => ?_
 simp (disch := omega) only [↓RA, RB, simprocAttr, g0]
 refine (sR H).eNew 2 [I x.1, I x.2] rfl rfl rfl rO fun A1 H1 hS1 => ?_
 simp only [RT] at hS1
 simp (disch := omega) only [↓RA, RB, simprocAttr, g1]
 refine hS1.eNew 2 [I y.1, I y.2] rfl rfl rfl rO fun A2 H2 hS2 => ?_
 simp only [RT] at hS2
 simp (disch := omega) only [↓RA, RB, simprocAttr]
 refine Wp.aQ jV [(6, 0), (8, 0)] (by kernel_rfl) (by kernel_rfl) ?_
 simp (disch := omega) only [↓RA, RZ, simprocAttr, hn, hS2.ld 0 rfl, hS2.ld 1 rfl]
 refine hS2.cF (sI x.1 y.1) fun H3 hS3 => ?_
 simp (disch := omega) only [↓RA, RZ, simprocAttr, hn, hS3.ld 0 rfl, hS3.ld 1 rfl]
 refine hS3.cF (sI x.2 y.2) fun H4 hS4 => ?_
 simp (disch := omega) only [↓RA, RB, simprocAttr, hn]
 refine hS4.ag [I (qG x.1 y.1), I (qG x.2 y.2)] a1A a6c rfl rfl (by simp [Value.cells]) rfl rfl (by decide) (by decide) fun w1 H5 hS5 => ?_
 simp only [RT] at hS5
 simp (disch := omega) only [↓RA, RZ, simprocAttr, hn]
 refine hS5.cF (b4E w1 [qG x.1 y.1, qG x.2 y.2] (hS5.aw 2 rfl (lP _)) (by simp)) fun H6 hS6 => ?_
 simp (disch := omega) only [↓RA, RZ, simprocAttr, hn, hS2.ld 0 rfl, hS2.ld 1 rfl, c3i]
 exact ⟨by rw [b0r], hS6.forget⟩
theorem b9q (x y : Int × Int) : Fn prog 213 [.agg #[I x.1, I x.2], .agg #[I y.1, I y.2]] H fun r H' => r = I (cf2 x y) ∧ St prog H H' [] := by
 refine .aM func213 rfl (by kernel_rfl) (m := 17) rfl fun l hn g0 g1 => ?_
 simp (disch := omega) only [↓RA, RB, simprocAttr, g0]
 refine (sR H).eNew 2 [I x.1, I x.2] rfl rfl rfl rO fun A1 H1 hS1 => ?_
 simp only [RT] at hS1
 simp (disch := omega) only [↓RA, RB, simprocAttr, g1]
 refine hS1.eNew 2 [I y.1, I y.2] rfl rfl rfl rO fun A2 H2 hS2 => ?_
 simp only [RT] at hS2
 simp (disch := omega) only [↓RA, RB, simprocAttr]
 refine Wp.aQ jV [(6, 0), (8, 0)] (by kernel_rfl) (by kernel_rfl) ?_
 simp (disch := omega) only [↓RA, RZ, simprocAttr, hn, hS2.ld 0 rfl, hS2.ld 1 rfl]
 refine hS2.cF (sI x.1 y.1) fun H3 hS3 => ?_
 simp (disch := omega) only [↓RA, RZ, simprocAttr, hn, hS3.ld 0 rfl, hS3.ld 1 rfl]
 refine hS3.cF (sI x.2 y.2) fun H4 hS4 => ?_
 simp (disch := omega) only [↓RA, RB, simprocAttr, hn]
 refine hS4.ag [I (qG x.1 y.1), I (qG x.2 y.2)] a1A a6c rfl rfl (by simp [Value.cells]) rfl rfl (by decide) (by decide) fun w1 H5 hS5 => ?_
 simp only [RT] at hS5
 simp (disch := omega) only [↓RA, RZ, simprocAttr, hn]
 refine hS5.cF (b4E w1 [qG x.1 y.1, qG x.2 y.2] (hS5.aw 2 rfl (lP _)) (by simp)) fun H6 hS6 => ?_
 simp (disch := omega) only [↓RA, RZ, simprocAttr, hn, hS2.ld 0 rfl, hS2.ld 1 rfl, c4n]
 exact ⟨by rw [b0r], hS6.forget⟩
end Go.Ds
namespace Go.Ds
open Go.Proofs
open Go.Shelf Go.RowKit Go.Lib Go.Sort
theorem lt2 (x y : Int × Int) : ltOf cf2 x y = decide (x.1 < y.1 ∨ (x.1 = y.1 ∧ x.2 < y.2)) := by
 unfold ltOf cf2
 congr 1
 apply propext
 split
 ·omega
 ·split
  ·omega
  ·split
   ·omega
   ·split <;> omega
theorem c4l : SWO (ltOf cf2) where
 irrefl x := by rw [lt2]; simp
 trans x y z h1 h2 := by rw [lt2] at *; simp at *; omega
 ntrans x y z h1 h2 := by rw [lt2] at *; simp at *; omega
theorem c3z (x y : Int × Int) (h1 : ltOf cf2 x y = false) (h2 : ltOf cf2 y x = false) : x = y := by
 rw [lt2] at *
 simp at h1 h2
 apply gz <;> omega
theorem b6B : (fun x y => !(ltOf cf2) y x) = le2 := by
 funext x y
 rw [lt2]
 by_cases h : le2 x y = true
 ·rw [h]
  rw [oJ] at h
  rw [dF, decide_eq_false_iff_not]
  omega
 ·rw [ek] at h
  rw [h]
  rw [← ek, oJ] at h
  rw [Bool.not_eq_false', decide_eq_true_eq]
  omega
def a4Q (P : Program) (K kc : FuncId) (sm : Int × Int → Prop) : Prop := ∀ (kK off cap : Nat) (d : Array (Int × Int)) (w : World), (∀ x ∈ d.toList, sm x) → HoldsK kA 2 w kK off d → kK < w.heap.size → d.size < 4611686018427387904 →
    Calls P K #[.slice (some ⟨kK, off, none⟩) d.size cap, .func (.func kc) #[] #[]] w fun e w' => e = .returned (.tuple #[]) ∧ ∃ n os, w' = sortWorldK kA 2 w kK off n (d.toList.mergeSort le2).toArray os
def a1q (P : Program) (K : FuncId) : Prop := ∀ (p : Option Addr) (cap : Nat) (fv : Value) (w : World), Calls P K #[.slice p 0 cap, fv] w fun e w' => e = .returned (.tuple #[]) ∧ w' = w
theorem b5x {P : Program} {kc : FuncId} {α : Type} [Inhabited α] (val : α → Int × Int) (cf : α → α → Int) (hf : ∀ x y, Fn P kc [.agg #[I (val x).1, I (val x).2], .agg #[I (val y).1, I (val y).2]] .nil fun r H' => r = I (cf x y) ∧ St P (.nil : Heap) H' []) (kK off size : Nat) (w : World) : CmpLays P kc #[] (fun x => kA (val x)) 2 cf kK off size w := by
 intro m os dk hdk x y
 generalize sortWorldK (fun x => kA (val x)) 2 w kK off m dk os = W
 obtain ⟨_, v, H1, h1, hr, _⟩ := hf x y
 have ha : All2 (V (fun _ _ => none)) [.agg #[I (val x).1, I (val x).2], .agg #[I (val y).1, I (val y).2]] (#[.agg #[I (val x).1, I (val x).2], .agg #[I (val y).1, I (val y).2]] : Array Value).toList := ⟨.of_flat rfl, .of_flat rfl, trivial⟩
 have hc := CallOk.calls (f := kc) h1 (HRel.none W) ha
 have hargs : (#[.agg (kA (val x)).toArray, .agg (kA (val y)).toArray] ++ #[] : Array Value) = #[.agg #[I (val x).1, I (val x).2], .agg #[I (val y).1, I (val y).2]] := rfl
 rw [hargs]
 refine hc.mono ?_
 rintro e w' ⟨ρ', v', rfl, hp, hv⟩
 subst hr
 have hfr : ∀ b, b < W.heap.size → w'.heap[b]? = W.heap[b]? := fun b hb => (hp.frame b hb (by rintro ⟨A, e, p, kK, hq, _⟩; cases hq)).1
 refine ⟨by rw [hv.ak rfl], w'.drawn - W.drawn, w'.heap.extract W.heap.size w'.heap.size, ?_⟩
 have h1 := hp.os
 have h2 := hp.tape
 have h3 := hp.output
 have h4 := hp.size
 clear hp hv
 obtain ⟨wh, wt, wd, wo, wu⟩ := W
 obtain ⟨ah, at', ad, ao, au⟩ := w'
 simp only at h1 h2 h3 h4 hfr
 simp only [grow, World.drewN, World.mk.injEq]
 refine ⟨?_, h2.1, by omega, h1, h3⟩
 apply Array.ext_getElem?
 intro i
 rw [Array.getElem?_append]
 split
 ·exact hfr i (by assumption)
 ·rw [Array.getElem?_extract]
  split
  ·congr 1; omega
  ·rw [Array.getElem?_eq_none (by omega)]
theorem a7b {P : Program} {kc : FuncId} (hf : ∀ x y, Fn P kc [.agg #[I x.1, I x.2], .agg #[I y.1, I y.2]] .nil fun r H' => r = I (cf2 x y) ∧ St P (.nil : Heap) H' []) (kK off size : Nat) (w : World) : CmpLays P kc #[] kA 2 cf2 kK off size w := b5x (fun x => x) cf2 hf kK off size w
section
variable {P : Program} {H : Heap} {ρ ρ' : Rho} {H' : Heap} {w w1 w2 : World}
theorem Post.cR (h : Post P ρ H w ρ' H' w1) (hsz : w1.heap.size ≤ w2.heap.size) (hb : ∀ b, b < w1.heap.size → w2.heap[b]? = w1.heap[b]?) (h1 : w2.os = w1.os) (h2 : w2.tape = w1.tape ∧ w1.drawn ≤ w2.drawn) (h3 : w2.output = w1.output) : Post P ρ H w ρ' H' w2 where
 le := h.le
 rel := h.rel.other hsz fun A e p hp => hb _ (h.rel.dom _ _ _ hp).2
 len := h.len
 size := dJ h.size hsz
 os := h1.trans h.os
 tape := ⟨h2.1.trans h.tape.1, dJ h.tape.2 h2.2⟩
 output := h3.trans h.output
 frame b hlt hw := by
  obtain ⟨e, hw'⟩ := h.frame b hlt hw
  exact ⟨(hb b (dQ hlt h.size)).trans e, hw'⟩
 loops b r hr := by
  obtain ⟨r', hr'⟩ := h.loops b r hr
  exact ⟨r', by rw [hb b (mG hr')]; exact hr'⟩
 img := h.img
theorem c0l : ∀ (l : List (Int × Int)) (j : Nat), j < l.length * 2 → (kA (l.toArray[j / 2]!))[j % 2]! = (pr l).getD j undef := by
 intro l
 induction l with
 | nil => intro j hj; simp at hj
 | cons x l ih =>
   intro j hj
   have e : pr (x :: l) = I x.1 :: I x.2 :: pr l := rfl
   rw [e]
   match j with
   | 0 => rfl
   | 1 => rfl
   | j + 2 =>
     have h1 : (j + 2) / 2 = j / 2 + 1 := by omega
     have h2 : (j + 2) % 2 = j % 2 := by omega
     have := ih j (by simp at hj; omega)
     rw [h1, h2]
     simp only [List.getD_cons_succ]
     rw [← this]
     congr 2
     simp only [List.getElem!_toArray]
     simp
end
theorem V.func0 {ρ : Rho} {k : FuncId} {v' : Value} (h : V ρ (.func (.func k) #[] #[]) v') : v' = .func (.func k) #[] #[] := by
 cases h with
 | v1 h => cases h with
   | c1 h => cases h with
     | c0 h => cases h with
       | flat h => rfl
     | fn ha hb =>
       rename_i a' b'
       have e1 : a' = #[] := by
        obtain ⟨l⟩ := a'
        cases l with
        | nil => rfl
        | cons => exact ha.elim
       have e2 : b' = #[] := by
        obtain ⟨l⟩ := b'
        cases l with
        | nil => rfl
        | cons => exact hb.elim
       rw [e1, e2]
theorem a9Q (es : List (Int × Int)) : kJ (pr es) = true := by
 unfold kJ
 rw [dy]
 intro c hc
 obtain ⟨x, _, hx⟩ := fp.1 hc
 simp only [kA, eo, eK, or_false] at hx
 rcases hx with rfl | rfl <;> rfl
set_option maxRecDepth 10000 in
theorem b7K {P : Program} {K kc : FuncId} {sm : Int × Int → Prop} (hso : a4Q P K kc sm) {H : Heap} {A i lo ver n : Nat} {ty : TypeId} {pre : List Value} {es : List (Int × Int)} (hg : iQ H A = some (.cells (pre ++ pr es) ty true lo ver)) (hlo : lo ≤ i + (pr es).length) (hpre : pre.length = i)
 (hn : (pr es).length = n * 2) (hty : iE P ty = some 2) (hl : es.length < 100000000000) (h0 : es ≠ []) (hsm : ∀ x ∈ es, sm x) :
 CallOk P K [.slice (some ⟨A, i, some (i + (pr es).length)⟩) n 2, .func (.func kc) #[] #[]] H (.tuple #[]) (hset H A (.cells (iX (pre ++ pr es) i (pr (uV es))) ty true (pre ++ pr es).length ver)) := by
 intro k ρ w args' hr ha
 obtain ⟨l⟩ := args'
 match l, ha with
 | [x, f], ⟨hx, hf, _⟩ =>
   obtain rfl := V.func0 hf
   have hlen : (pre ++ pr es).length = i + (pr es).length := by rw [dw, hpre]
   obtain ⟨p, c', a, hp, h0', hin, hnc, hac, hpk, rfl⟩ := hx.ay
   rw [iK] at hn
   have hne : 0 < es.length := gb.2 h0
   have hnn : n = es.length := by omega
   subst hnn
   have ha' : a = ⟨p.b, p.at i, none⟩ := by
    rcases hac with h | h
    ·exact h.1
    ·omega
   subst ha'
   have hp2 : ρ A (pre ++ pr es).length = some p := by rw [hlen]; exact hp
   obtain ⟨_, _, hfit, cur, ty', fr, hw, hsz, hfr, hcell⟩ := (hr.cells _ _ _ _ _ _ hg).2 _ _ hp2
   obtain ⟨rfl, hd0, _⟩ := hfr rfl
   let d : Array (Int × Int) := es.toArray
   have hds : d.size = es.length := by simp [d]
   have hfl := fun j hj => c0l es j (by simpa using hj)
   have hH : Go.Sort.HoldsK kA 2 w p.b (p.at i) d := by
    intro j hj
    rw [Go.Sort.size_flatK, hds] at hj
    constructor
    ·have hc : (pre ++ pr es)[i + j]? = some ((pr es).getD j undef) := by
      rw [eG (by omega), hpre, gi, dj, dx (by rw [iK]; omega)]
      rfl
     obtain ⟨c2, hc2, hrel⟩ := hcell (by rw [hlen]; exact hlo) (i + j) _ (by rw [hlen, iK]; omega) (by omega) hc
     have hsc : iY ((pr es).getD j undef) = true := by
      have := a9Q es
      unfold kJ at this
      rw [dy] at this
      apply this
      rw [dj, dx (by rw [iK]; omega)]
      exact gG _
     have := hrel.aC hsc
     subst this
     have hat : p.at (i + j) = p.at i + j := by unfold Place.at; omega
     rw [hat] at hc2
     simp only [World.cell?, hw]
     rw [Go.Sort.get_flatK _ _ _ _ (by rw [hds]; exact hj), hfl j hj]
     exact hc2
    ·simp only [World.frozen?, hw]
     simp
   have hcon := hso p.b (p.at i) c' d w (by simpa [d] using hsm) hH (hr.dom _ _ _ hp).2 (by rw [hds]; omega)
   rw [hds] at hcon
   obtain ⟨w1, hrun, hpost⟩ := tS hr hg hp2 h0' (.aJ (a9Q (uV es))) (by rw [hlen, iK, iK, (oB es).length_eq]; omega) (by rw [hlen]; exact hlo)
   have hcsz : p.at i + (pr (uV es)).length ≤ cur.size := by
    rw [iK, (oB es).length_eq, hsz]
    unfold Place.at
    rw [hlen, iK] at hfit
    omega
   have hst := run_storeCells_at (P := P) p.b (p.at i) ty' (pr (uV es)) 0 cur w hw (by simpa using hcsz) (All2.aJ (ρ := ρ) (a9Q (uV es))).aX
   rw [hst] at hrun
   injection hrun with _ hw1
   subst hw1
   refine callsIn_wide.2 (hcon.mono ?_)
   rintro e w' ⟨rfl, m, os, rfl⟩
   refine ⟨ρ, _, rfl, ?_, .tuple trivial⟩
   have hsl : (uV es).length = es.length := (oB es).length_eq
   have hml : ((d.toList.mergeSort le2)).length = es.length := by simp [d]
   have hfs : ∀ j, j < es.length * 2 → (Go.Sort.flatK kA 2 (d.toList.mergeSort le2).toArray)[j]! = (pr (uV es)).getD j undef := fun j hj => by
    rw [Go.Sort.get_flatK _ _ _ _ (by simpa [d] using hj)]
    exact c0l (d.toList.mergeSort le2) j (by rw [hml]; exact hj)
   have hFs : (Go.Sort.flatK kA 2 (d.toList.mergeSort le2).toArray).size = es.length * 2 := by simp [d]
   unfold sortWorldK Go.Sort.putRowK
   generalize Go.Sort.flatK kA 2 (d.toList.mergeSort le2).toArray = F at hfs hFs ⊢
   have hlt := mG hw
   have hh : ∀ b, b < w.heap.size → (Go.Sort.grow (Go.Sort.putRow id (Go.Sort.ahead w m) p.b (p.at i) F) os).heap[b]? = (Go.Sort.putRow id (Go.Sort.ahead w m) p.b (p.at i) F).heap[b]? := fun b hb => by
    have : b < (Go.Sort.putRow id (Go.Sort.ahead w m) p.b (p.at i) F).heap.size := by simpa [Go.Sort.putRow, Go.Sort.mapBlock, Go.Sort.ahead] using hb
    unfold Go.Sort.grow
    exact fu this
   refine hpost.cR ?_ ?_ rfl ⟨rfl, Nat.le_add_right _ _⟩ rfl
   ·simp [Go.Sort.grow, Go.Sort.putRow, Go.Sort.mapBlock, Go.Sort.ahead]
   ·intro b hbs
    rw [setRow_size] at hbs
    rw [hh b hbs]
    by_cases e : b = p.b
    ·subst e
     rw [setRow_heap w p.b cur _ ty' (0, 0) hw]
     have e2 : (Go.Sort.putRow id (Go.Sort.ahead w m) p.b (p.at i) F).heap[p.b]? = some (.cells (Go.Sort.putCells id (p.at i) F cur) ty' (0, 0)) := by
      simp [Go.Sort.putRow, Go.Sort.mapBlock, Go.Sort.ahead, gu, hw, Go.Sort.onCells]
     rw [e2]
     congr 2
     apply Array.ext_getElem?
     intro j
     have hseg := a5m cur.toList (pr (uV es)) (p.at i) j (by simpa using hcsz)
     have e3 : ((List.take (p.at i + 0) cur.toList ++ pr (uV es) ++ List.drop (p.at i + 0 + (pr (uV es)).length) cur.toList).toArray)[j]? = (List.take (p.at i) cur.toList ++ pr (uV es) ++ List.drop (p.at i + (pr (uV es)).length) cur.toList)[j]? := by simp
     rw [e3, hseg]
     simp only [Go.Sort.putCells, Array.getElem?_mapIdx, gr]
     rw [iK, hsl] at hcsz ⊢
     by_cases h1 : p.at i ≤ j ∧ j < p.at i + es.length * 2
     ·rw [if_pos h1]
      have hjc : j < cur.size := by omega
      rw [fC hjc]
      simp only [dO]
      rw [if_pos (by rw [hFs]; exact h1), hfs _ (by omega), dj, dx (by rw [iK, hsl]; omega)]
      rfl
     ·rw [if_neg h1]
      cases hc : cur[j]? with
      | none => simp
      | some c =>
        simp only [dO]
        rw [if_neg (by rw [hFs]; exact h1)]
    ·rw [setRow_other _ _ _ _ e]
     simp [Go.Sort.putRow, Go.Sort.mapBlock, Go.Sort.ahead, gu, fc e]
theorem a2A {P : Program} {K kc : FuncId} {sm : Int × Int → Prop} (hso : a4Q P K kc sm) (hno : a1q P K) (hent0 : qU P K) {H : Heap} {H0 : Base} {os : List Ob} (hS : St P H0 H os) (i : Nat) {v : Value} {es : List (Int × Int)} (ho : os[i]? = some ⟨v, 2, pr es⟩) (hl : es.length < 100000000000) (hsm : ∀ x ∈ es, sm x) {Q : Value → Heap → Prop}
 (h : ∀ H1, St P H0 H1 (os.set i ⟨v, 2, pr (uV es)⟩) → Q (.tuple #[]) H1) : wW P K [v, .func (.func kc) #[] #[]] H Q := by
 have hent : qU P K := hent0
 by_cases h0 : es = []
 ·subst h0
  refine ⟨.tuple #[], H, hent, ?_, h H ?_⟩
  ·intro k ρ w args' hr ha
   obtain ⟨l⟩ := args'
   match l, ha with
   | [x, f], ⟨hx, hf, _⟩ =>
     obtain rfl := V.func0 hf
     have hown := hS.own _ (dT ho)
     unfold OwnAt at hown
     rw [if_neg (by simp)] at hown
     have hx0 : ∃ p cap, x = .slice p 0 cap := by
      rcases hown with ⟨h2, _⟩ | ⟨A, j, ty, lo', ver, pre, m, h2, h3, h4, h5, h6, h7⟩
      ·simp only at h2
       subst h2
       rcases hx.az with ⟨_, _, _, rfl⟩ | ⟨A, j, e, p, c', a, hh, _⟩
       ·exact ⟨_, _, rfl⟩
       ·cases hh
      ·simp only at h5 h6
       subst h6
       have hm : m = 0 := by have : (pr []).length = 0 := rfl; omega
       subst hm
       obtain ⟨p, c', a, _, _, _, _, _, _, rfl⟩ := hx.ay
       exact ⟨_, _, rfl⟩
     obtain ⟨p, cap, rfl⟩ := hx0
     refine callsIn_wide.2 ((hno p cap _ w).mono ?_)
     rintro e w' ⟨rfl, rfl⟩
     exact ⟨ρ, _, rfl, .refl hr, .tuple trivial⟩
  ·obtain ⟨hi, hoi⟩ := dA.1 ho
   have e : uV [] = [] := List.Perm.eq_nil (oB [])
   rw [e, ← hoi, List.set_getElem_self]
   exact hS
 ·have hown := hS.own _ (dT ho)
  unfold OwnAt at hown
  rw [if_neg (by simp)] at hown
  have hne : 0 < es.length := gb.2 h0
  rcases hown with ⟨_, h3⟩ | ⟨A, j, ty, lo', ver, pre, m, h2, h3, h4, h5, h6, h7⟩
  ·simp only at h3
   have := congrArg List.length h3
   rw [iK, dC] at this
   omega
  ·simp only at h2 h3 h5 h6
   have hsl : (pr (uV es)).length = (pr es).length := by rw [iK, iK, (oB es).length_eq]
   have hcall := b7K hso h2 h3 h4 h5 h7 hl h0 hsm
   rw [← h6] at hcall
   refine ⟨_, _, hent, hcall, h _ (hS.put i ho ?_ ?_ ?_ ?_)⟩
   ·unfold OwnAt
    rw [if_neg (by simp)]
    refine .inr ⟨A, j, ty, (pre ++ pr es).length, ver, pre, m, ?_, ?_, h4, ?_, ?_, h7⟩
    ·rw [iR _ (jK h2)]
     have := mV (pr (uV es)) pre (pr es) (by rw [hsl]; exact dq _)
     rw [h4] at this
     rw [this, hsl, List.drop_length, dG]
    ·simp only [dw, h4, hsl]; exact dq _
    ·simp only [hsl]; exact h5
    ·simp only [hsl]; exact h6
   ·rw [jL]; exact dq _
   ·intro B' hB hne'
    refine qR fun hh => hne' ?_
    simp [kK, h6, hh]
   ·intro B' hB
    exact .inl hB
end Go.Ds
namespace Go.Proofs
open Go.Shelf
def Tryz.bD : Go.Shelf.Ren := ⟨fun | 6 => 70 | 15 => 124 | 14 => 123 | 28 => 167 | 29 => 168 | 20 => 159 | 21 => 160 | 22 => 161 | 23 => 162 | 24 => 163 | 25 => 164 | 26 => 165 | 27 => 166 | 46 => 214 | 47 => 215 | 48 => 216 | 49 => 217 | 50 => 218 | 57 => 245 | n => n, fun | 22 => 45 | 24 => 74 | 25 => 161 | 3 => 3 | 39 => 143 | 0 => 0 | 53 => 257 | 55 => 28 | 4 => 4 | 46 => 251 | 45 => 250 | 50 => 197 | 5 => 5 | 9 => 9 | 66 => 300 | 70 => 304 | 76 => 334 | 77 => 335 | n => n, fun | n => n⟩
theorem Tryz.bR : Go.Proofs.SlLaysF0.n6 Tryz.prog Tryz.bD := {
 mixed := by kernel_rfl
 f6 := ⟨Tryz.f70.name, by decide, Tryz.func70.trans (congrArg some (by kernel_rfl))⟩
 f14 := ⟨Tryz.f123.name, by decide, Tryz.func123.trans (congrArg some (by kernel_rfl))⟩
 f15 := Tryz.func124.trans (congrArg some (by kernel_rfl))
 f20 := ⟨Tryz.f159.name, by decide, Tryz.func159.trans (congrArg some (by kernel_rfl))⟩
 f21 := ⟨Tryz.f160.name, by decide, Tryz.func160.trans (congrArg some (by kernel_rfl))⟩
 f22 := ⟨Tryz.f161.name, by decide, Tryz.func161.trans (congrArg some (by kernel_rfl))⟩
 f23 := ⟨Tryz.f162.name, by decide, Tryz.func162.trans (congrArg some (by kernel_rfl))⟩
 f24 := ⟨Tryz.f163.name, by decide, Tryz.func163.trans (congrArg some (by kernel_rfl))⟩
 f25 := ⟨Tryz.f164.name, by decide, Tryz.func164.trans (congrArg some (by kernel_rfl))⟩
 f26 := ⟨Tryz.f165.name, by decide, Tryz.func165.trans (congrArg some (by kernel_rfl))⟩
 f27 := ⟨Tryz.f166.name, by decide, Tryz.func166.trans (congrArg some (by kernel_rfl))⟩
 f28 := Tryz.func167.trans (congrArg some (by kernel_rfl))
 f29 := Tryz.func168.trans (congrArg some (by kernel_rfl))
 f46 := ⟨Tryz.f214.name, by decide, Tryz.func214.trans (congrArg some (by kernel_rfl))⟩
 f47 := Tryz.func215.trans (congrArg some (by kernel_rfl))
 f48 := Tryz.func216.trans (congrArg some (by kernel_rfl))
 f49 := ⟨Tryz.f217.name, by decide, Tryz.func217.trans (congrArg some (by kernel_rfl))⟩
 f50 := ⟨Tryz.f218.name, by decide, Tryz.func218.trans (congrArg some (by kernel_rfl))⟩
 f57 := ⟨Tryz.f245.name, by decide, Tryz.func245.trans (congrArg some (by kernel_rfl))⟩
 t0 := Tryz.underlying0
 a0 := Tryz.isAgg0
 z0 := Tryz.sizeOf0
 v0 := Tryz.zeroValue0
 t3 := Tryz.underlying3
 a3 := Tryz.isAgg3
 z3 := Tryz.sizeOf3
 v3 := Tryz.zeroValue3
 t4 := Tryz.underlying4
 a4 := Tryz.isAgg4
 z4 := Tryz.sizeOf4
 v4 := Tryz.zeroValue4
 t5 := Tryz.underlying5
 a5 := Tryz.isAgg5
 z5 := Tryz.sizeOf5
 v5 := Tryz.zeroValue5
 t9 := Tryz.underlying9
 a9 := Tryz.isAgg9
 z9 := Tryz.sizeOf9
 v9 := Tryz.zeroValue9
 t22 := Tryz.underlying45
 a22 := Tryz.isAgg45
 z22 := Tryz.sizeOf45
 v22 := Tryz.zeroValue45
 t25 := Tryz.underlying161
 a25 := Tryz.isAgg161
 z25 := Tryz.sizeOf161
 v25 := Tryz.zeroValue161
 t39 := Tryz.underlying143
 a39 := Tryz.isAgg143
 z39 := Tryz.sizeOf143
 v39 := Tryz.zeroValue143
 t45 := Tryz.underlying250
 a45 := Tryz.isAgg250
 z45 := Tryz.sizeOf250
 v45 := Tryz.zeroValue250
 t46 := Tryz.underlying251
 a46 := Tryz.isAgg251
 z46 := Tryz.sizeOf251
 v46 := Tryz.zeroValue251
 t50 := Tryz.underlying197
 a50 := Tryz.isAgg197
 z50 := Tryz.sizeOf197
 v50 := Tryz.zeroValue197
 t53 := Tryz.underlying257
 a53 := Tryz.isAgg257
 z53 := Tryz.sizeOf257
 v53 := Tryz.zeroValue257
 t55 := Tryz.underlying28
 a55 := Tryz.isAgg28
 z55 := Tryz.sizeOf28
 v55 := Tryz.zeroValue28
 t66 := Tryz.underlying300
 a66 := Tryz.isAgg300
 z66 := Tryz.sizeOf300
 v66 := Tryz.zeroValue300
 t70 := Tryz.underlying304
 a70 := Tryz.isAgg304
 z70 := Tryz.sizeOf304
 v70 := Tryz.zeroValue304
 t76 := Tryz.underlying334
 a76 := Tryz.isAgg334
 z76 := Tryz.sizeOf334
 v76 := Tryz.zeroValue334
 t77 := Tryz.underlying335
 a77 := Tryz.isAgg335
 z77 := Tryz.sizeOf335
 v77 := Tryz.zeroValue335 }
def Tryz.br : Go.Shelf.Ren := ⟨fun | 6 => 112 | 15 => 124 | 14 => 148 | 28 => 167 | 29 => 168 | 20 => 194 | 21 => 195 | 22 => 196 | 23 => 197 | 24 => 198 | 25 => 199 | 26 => 200 | 27 => 201 | 46 => 232 | 47 => 215 | 48 => 216 | 49 => 233 | 50 => 234 | 57 => 250 | n => n, fun | 22 => 60 | 24 => 67 | 25 => 210 | 3 => 3 | 39 => 143 | 0 => 0 | 53 => 257 | 55 => 28 | 4 => 4 | 46 => 251 | 45 => 250 | 50 => 197 | 5 => 5 | 9 => 9 | 66 => 300 | 70 => 304 | 76 => 334 | 77 => 335 | n => n, fun | n => n⟩
theorem Tryz.bF : Go.Proofs.SlLaysF0.n6 Tryz.prog Tryz.br := {
 mixed := by kernel_rfl
 f6 := ⟨Tryz.f112.name, by decide, Tryz.func112.trans (congrArg some (by kernel_rfl))⟩
 f14 := ⟨Tryz.f148.name, by decide, Tryz.func148.trans (congrArg some (by kernel_rfl))⟩
 f15 := Tryz.func124.trans (congrArg some (by kernel_rfl))
 f20 := ⟨Tryz.f194.name, by decide, Tryz.func194.trans (congrArg some (by kernel_rfl))⟩
 f21 := ⟨Tryz.f195.name, by decide, Tryz.func195.trans (congrArg some (by kernel_rfl))⟩
 f22 := ⟨Tryz.f196.name, by decide, Tryz.func196.trans (congrArg some (by kernel_rfl))⟩
 f23 := ⟨Tryz.f197.name, by decide, Tryz.func197.trans (congrArg some (by kernel_rfl))⟩
 f24 := ⟨Tryz.f198.name, by decide, Tryz.func198.trans (congrArg some (by kernel_rfl))⟩
 f25 := ⟨Tryz.f199.name, by decide, Tryz.func199.trans (congrArg some (by kernel_rfl))⟩
 f26 := ⟨Tryz.f200.name, by decide, Tryz.func200.trans (congrArg some (by kernel_rfl))⟩
 f27 := ⟨Tryz.f201.name, by decide, Tryz.func201.trans (congrArg some (by kernel_rfl))⟩
 f28 := Tryz.func167.trans (congrArg some (by kernel_rfl))
 f29 := Tryz.func168.trans (congrArg some (by kernel_rfl))
 f46 := ⟨Tryz.f232.name, by decide, Tryz.func232.trans (congrArg some (by kernel_rfl))⟩
 f47 := Tryz.func215.trans (congrArg some (by kernel_rfl))
 f48 := Tryz.func216.trans (congrArg some (by kernel_rfl))
 f49 := ⟨Tryz.f233.name, by decide, Tryz.func233.trans (congrArg some (by kernel_rfl))⟩
 f50 := ⟨Tryz.f234.name, by decide, Tryz.func234.trans (congrArg some (by kernel_rfl))⟩
 f57 := ⟨Tryz.f250.name, by decide, Tryz.func250.trans (congrArg some (by kernel_rfl))⟩
 t0 := Tryz.underlying0
 a0 := Tryz.isAgg0
 z0 := Tryz.sizeOf0
 v0 := Tryz.zeroValue0
 t3 := Tryz.underlying3
 a3 := Tryz.isAgg3
 z3 := Tryz.sizeOf3
 v3 := Tryz.zeroValue3
 t4 := Tryz.underlying4
 a4 := Tryz.isAgg4
 z4 := Tryz.sizeOf4
 v4 := Tryz.zeroValue4
 t5 := Tryz.underlying5
 a5 := Tryz.isAgg5
 z5 := Tryz.sizeOf5
 v5 := Tryz.zeroValue5
 t9 := Tryz.underlying9
 a9 := Tryz.isAgg9
 z9 := Tryz.sizeOf9
 v9 := Tryz.zeroValue9
 t22 := Tryz.underlying60
 a22 := Tryz.isAgg60
 z22 := Tryz.sizeOf60
 v22 := Tryz.zeroValue60
 t25 := Tryz.underlying210
 a25 := Tryz.isAgg210
 z25 := Tryz.sizeOf210
 v25 := Tryz.zeroValue210
 t39 := Tryz.underlying143
 a39 := Tryz.isAgg143
 z39 := Tryz.sizeOf143
 v39 := Tryz.zeroValue143
 t45 := Tryz.underlying250
 a45 := Tryz.isAgg250
 z45 := Tryz.sizeOf250
 v45 := Tryz.zeroValue250
 t46 := Tryz.underlying251
 a46 := Tryz.isAgg251
 z46 := Tryz.sizeOf251
 v46 := Tryz.zeroValue251
 t50 := Tryz.underlying197
 a50 := Tryz.isAgg197
 z50 := Tryz.sizeOf197
 v50 := Tryz.zeroValue197
 t53 := Tryz.underlying257
 a53 := Tryz.isAgg257
 z53 := Tryz.sizeOf257
 v53 := Tryz.zeroValue257
 t55 := Tryz.underlying28
 a55 := Tryz.isAgg28
 z55 := Tryz.sizeOf28
 v55 := Tryz.zeroValue28
 t66 := Tryz.underlying300
 a66 := Tryz.isAgg300
 z66 := Tryz.sizeOf300
 v66 := Tryz.zeroValue300
 t70 := Tryz.underlying304
 a70 := Tryz.isAgg304
 z70 := Tryz.sizeOf304
 v70 := Tryz.zeroValue304
 t76 := Tryz.underlying334
 a76 := Tryz.isAgg334
 z76 := Tryz.sizeOf334
 v76 := Tryz.zeroValue334
 t77 := Tryz.underlying335
 a77 := Tryz.isAgg335
 z77 := Tryz.sizeOf335
 v77 := Tryz.zeroValue335 }
end Go.Proofs
namespace Go.Ds
open Go.Proofs Go.Proofs.Tryz Go.Shelf Go.RowKit Go.Lib Go.Sort
theorem a5X (x : Int × Int) : ∀ v ∈ kA x, v.oneCell' = true := by
 intro v hv
 simp [kA] at hv
 rcases hv with rfl | rfl <;> rfl
theorem c4z (kc : FuncId) (eg : ∀ args w, (callFunc kc args).run prog w = .ok (.enter kc args) w) (hf : ∀ x y, Fn prog kc [.agg #[I x.1, I x.2], .agg #[I y.1, I y.2]] .nil fun r H' => r = I (cf2 x y) ∧ St prog (.nil : Heap) H' []) : a4Q prog 70 kc (fun _ => True) :=
 fun kK off cap d w _ hH hblk hsz => by
  have h := AnyQ.slices_SortFunc_total Tryz.bR 2 Tryz.isAgg74 Tryz.sizeOf74 kA (fun _ => rfl) a5X cf2 c4l kc #[] kK off cap d w eg (a7b hf kK off d.size w) hH hblk hsz c3z
  rw [b6B] at h
  exact h
theorem c4d (kc : FuncId) (eg : ∀ args w, (callFunc kc args).run prog w = .ok (.enter kc args) w) (hf : ∀ x y, Fn prog kc [.agg #[I x.1, I x.2], .agg #[I y.1, I y.2]] .nil fun r H' => r = I (cf2 x y) ∧ St prog (.nil : Heap) H' []) : a4Q prog 112 kc (fun _ => True) :=
 fun kK off cap d w _ hH hblk hsz => by
  have h := AnyQ.slices_SortFunc_total Tryz.bF 2 Tryz.isAgg67 Tryz.sizeOf67 kA (fun _ => rfl) a5X cf2 c4l kc #[] kK off cap d w eg (a7b hf kK off d.size w) hH hblk hsz c3z
  rw [b6B] at h
  exact h
theorem c4k : a1q prog 70 := fun p cap fv w => AnyF.slices_SortFunc_none { Tryz.bR with } p cap fv w
theorem c4P : a1q prog 112 := fun p cap fv w => AnyF.slices_SortFunc_none { Tryz.bF with } p cap fv w
def a8K (K kc : FuncId) : Prop := ∀ {H : Heap} {B : Base} {os : List Ob} (hS : St prog B H os) (i : Nat) {v : Value} {es : List (Int × Int)} (ho : os[i]? = some ⟨v, 2, pr es⟩) (hl : es.length < 100000000000) {Q : Value → Heap → Prop}
    (h : ∀ H1, St prog B H1 (os.set i ⟨v, 2, pr (uV es)⟩) → Q (.tuple #[]) H1), wW prog K [v, .func (.func kc) #[] #[]] H Q
theorem c3h : qU prog 70 := ⟨Tryz.f70, func70, by kernel_rfl, by kernel_rfl⟩
theorem c4t : qU prog 112 := ⟨Tryz.f112, func112, by kernel_rfl, by kernel_rfl⟩
theorem c3f : a8K 70 213 := fun hS i _ _ ho hl _ h => a2A (c4z 213 (enters_of func213 (by kernel_rfl) rfl) fun x y => b9q x y) c4k c3h hS i ho hl (fun _ _ => trivial) h
theorem c3B : a8K 70 103 := fun hS i _ _ ho hl _ h => a2A (c4z 103 (enters_of func103 (by kernel_rfl) rfl) fun x y => a4T x y) c4k c3h hS i ho hl (fun _ _ => trivial) h
theorem c4D : a8K 112 113 := fun hS i _ _ ho hl _ h => a2A (c4d 113 (enters_of func113 (by kernel_rfl) rfl) fun x y => b9w x y) c4P c4t hS i ho hl (fun _ _ => trivial) h
end Go.Ds
namespace Go.Ds
open Go.Proofs Go.Proofs.Tryz
variable {H : Heap}
set_option maxRecDepth 10000
theorem a5o {p : Nat → Bool} {n j : Nat} (h : rE p n = (j : Int)) : j < n := by
 unfold rE at h
 split at h
 ·rename_i q hq
  have := dH.1 (gJ hq)
  omega
 ·omega
theorem b8W (g : Seg) (hg : g.In H) (key : Int) (A : Nat) (hA : Var H A 1 [I key]) : Fn prog 212 [.agg #[I g.lo, I g.hi, g.dv], ptr A 0 1] H fun r H' => r = .bool (decide (g.lo ≤ key) && decide (key ≤ g.hi)) ∧ St prog H H' [] := by
 refine .aM func212 rfl (by kernel_rfl) (m := 14) rfl fun l hn g0 g1 => ?_
 simp (disch := omega) only [↓RA, RB, simprocAttr, g0]
 refine (sR H).eNew 3 [I g.lo, I g.hi, g.dv] rfl rfl (by simp [OC, ((sR H).sl hg.1).cells.2.1]) a2v fun A1 H1 hS1 => ?_
 simp only [RT] at hS1
 simp (disch := omega) only [↓RA, RZ, simprocAttr, hn, g1, hS1.ld 0 rfl, (hS1.va hA).ld]
 refine jP (fun h1 => ?_) (fun h1 => ?_)
 ·simp (disch := omega) only [↓RA, RZ, simprocAttr, hn, g1, (hS1.va hA).ld, hS1.ld 0 rfl, c0H, h1]
  first | exact hS1.forget | exact ⟨by simp [h1], hS1.forget⟩
 simp (disch := omega) only [↓RA, RZ, simprocAttr, hn, c0H, h1]
 first | exact hS1.forget | exact ⟨by simp [], hS1.forget⟩
theorem b7Z (v : Value) (xs : List Seg) (hv : Sl 3 Seg.cells H v xs) (hl : xs.length < 1000000000) (k : FuncId) (caps : List Value) (p : Nat → Bool)
 (hf : ∀ j H1, j < xs.length → St prog H H1 [] → Fn prog k (.agg #[I (iB xs j).lo, I (iB xs j).hi, (iB xs j).dv] :: caps) H1 fun r H2 => r = .bool (p j) ∧ St prog H1 H2 []) :
 Fn prog 211 [v, .func (.func k) #[] caps.toArray] H fun r H' => r = I (rE p xs.length) ∧ St prog H H' [] := by
 refine .aM func211 rfl (by kernel_rfl) (m := 19) rfl fun l hn g0 g1 => ?_
 simp (disch := omega) only [↓RA, RZ, simprocAttr, hn, g0, ((sR H).sl hv).len]
 refine Wp.al (fun n l H' => l.length = 19 ∧ get l 0 = v ∧ get l 1 = .func (.func k) #[] caps.toArray ∧ get l 7 = I xs.length ∧ ∃ (j : Nat), (n + j = xs.length ∧ ∀ q, q < j → p q = false) ∧ get l 8 = I j ∧ St prog H H' []) xs.length ?_ ?_
 ·simp (disch := omega) only [RB, RC, simprocAttr, hn, g0, g1]
  exact ⟨0, ⟨by omega, fun q hq => absurd hq (dS _)⟩, rfl, (sR H)⟩
 rintro n l H1 ⟨hn, g0, g1, g7, j, ⟨hi,h0⟩, g8, hS1⟩
 simp (disch := omega) only [↓RA, RB, simprocAttr, hn, g7, g8]
 refine iA (fun h => ?_) (fun h => ?_)
 ·simp (disch := omega) only [↓RA, RZ, simprocAttr, hn, g0, g1, g8, (hS1.sl hv).idx, (hS1.sl hv).ai, Seg.cells, h]
  refine hS1.cF (hf j _ (by omega) hS1) fun H2 hS2 => ?_
  simp (disch := omega) only [↓RA, RZ, simprocAttr, hn, h]
  refine jM (fun hp => ?_) (fun hp => ?_)
  ·simp (disch := omega) only [↓RA, RZ, simprocAttr, hn, c0P, h, hp]
   exact ⟨by rw [a1l p xs.length j (by omega) hp h0], hS2⟩
  simp (disch := omega) only [↓RA, RZ, simprocAttr, hn, g0, g1, g7, g8, h, hp]
  exact ⟨n - 1, by omega, j + 1, ⟨by omega, fun q hq => by rcases dB.1 hq with e | e; (· exact h0 q e); (· rw [e]; exact hp)⟩, by simp, hS2⟩
 simp (disch := omega) only [↓RA, RZ, simprocAttr, hn, c0P, h]
 exact ⟨by rw [a1n p xs.length fun q hq => h0 q (by omega)], hS1⟩
theorem a8A {H0 : Heap} {os0 : List Ob} (hS0 : St prog H0 H os0) (s : Stp) (hs0 : s.In H0) (key : Int) : Fn prog 153 [.agg #[.string s.name, I s.num, I s.den, s.gv], I key] H fun r H' => ∃ g : Seg, r = .agg #[I g.lo, I g.hi, g.dv] ∧ g.In H0 ∧ g.draws = a9k s key ∧ St prog H H' [] := by
 have hs := hs0.ae hS0
 have hl := hs.2.2
 refine .aM func153 rfl (by kernel_rfl) (m := 18) rfl fun l hn g0 g1 => ?_
 simp (disch := omega) only [↓RA, RB, simprocAttr, g0]
 refine (sR H).eNew 4 [(.string s.name), I s.num, I s.den, s.gv] rfl rfl (by simp [OC, ((sR H).sl hs.1).cells.2.1]) mR fun A1 H1 hS1 => ?_
 simp only [RT] at hS1
 simp (disch := omega) only [↓RA, RB, simprocAttr, g1]
 refine hS1.eNew 1 [I key] rfl rfl rfl tS3 fun A2 H2 hS2 => ?_
 simp only [RT] at hS2
 simp (disch := omega) only [↓RA, RZ, simprocAttr]
 refine hS2.eNew 3 [I 0, I 0, (.slice none 0 0)] rfl rfl rfl a2v fun A3 H3 hS3 => ?_
 simp only [RT] at hS3
 simp (disch := omega) only [↓RA, RZ, simprocAttr, hn, hS3.ld 0 rfl]
 have hA := hS3.var 1 rfl
 have hSc := hS3
 refine hS3.cF (b7Z s.gv s.segs (hS3.sl hs.1) hs.2.2 212 [ptr A2 0 1] (a8r s key) (fun j H1 hj hS' => b8W _ ((hs.2.1 _ (iD hj)).ae (hSc.trans hS')) key A2 (hA.ae hS'.ae))) fun H4 hS4 => ?_
 simp (disch := omega) only [↓RA, RB, simprocAttr, hn]
 refine iA (fun h => ?_) (fun h => ?_)
 ·simp (disch := omega) only [↓RA, RZ, simprocAttr, hn, c1C, h]
  refine hS4.ab 2 rfl [I 0, I 0, (.slice none 0 0)] rfl rfl a2v (by simp) fun H5 hS5 => ?_
  simp only [RT] at hS5
  simp (disch := omega) only [↓RA, RZ, simprocAttr, hn, c0L, hS5.ai 2 rfl, h]
  exact ⟨⟨0, 0, .slice none 0 0, []⟩, rfl, ⟨⟨.inl ⟨rfl, rfl⟩, fun _ => rfl, by decide⟩, by simp⟩, by rw [a9k, if_pos h], hS5.forget⟩
 obtain ⟨j, hj⟩ : ∃ j : Nat, rE (a8r s key) s.segs.length = j := ⟨(rE (a8r s key) s.segs.length).toNat, by omega⟩
 have hjl : j < s.segs.length := a5o hj
 simp (disch := omega) only [↓RA, RZ, simprocAttr, hn, hS4.ld 0 rfl, (hS4.sl hs.1).idx, (hS4.sl hs.1).ai, Seg.cells, hj]
 refine hS4.ab 2 rfl [I (iB s.segs j).lo, I (iB s.segs j).hi, (iB s.segs j).dv] rfl (by simp [OC, (hS4.sl (hs.2.1 (iB s.segs j) (iD (by omega))).1).cells.2.1]) a2v (by simp) fun H6 hS6 => ?_
 simp only [RT] at hS6
 simp (disch := omega) only [↓RA, RZ, simprocAttr, hn, c0L, hS6.ai 2 rfl, hj]
 exact ⟨iB s.segs j, rfl, hs0.2.1 _ (iD hjl), by rw [a9k, if_neg h, hj]; rfl, hS6.forget⟩
theorem b8z (rv : Value) (rks : List Rk) (hr : Sl 6 Rk.cells H rv rks) (hrk : ∀ r ∈ rks, r.In H) (hl : rks.length < 1000000000) (d : Drw) (key : Int) :
 Fn prog 154 [rv, .agg #[I d.rank, I d.shift], I key] H fun r H' => r = .tuple #[.agg #[I (oI rks d key).1, I (oI rks d key).2], .bool (yK rks d key)] ∧ St prog H H' [] := by
 refine .bl func154 rfl (by kernel_rfl) (m := 48) rfl fun l hn g0 g1 g2 => ?_
 simp (disch := omega) only [↓RA, RB, simprocAttr, g1]
 refine (sR H).eNew 2 [I d.rank, I d.shift] rfl rfl rfl a0R fun A1 H1 hS1 => ?_
 simp only [RT] at hS1
 simp (disch := omega) only [↓RA, RZ, simprocAttr]
 refine hS1.eNew 2 [I 0, I 0] rfl rfl rfl rO fun A2 H2 hS2 => ?_
 simp only [RT] at hS2
 simp (disch := omega) only [↓RA, RZ, simprocAttr, hn, hS2.ld 0 rfl]
 refine iN (fun h1 => ?_) (fun h1 => ?_)
 ·simp (disch := omega) only [↓RA, RZ, simprocAttr, hn, c0y, h1]
  refine hS2.ab 1 rfl [I 0, I 0] rfl rfl rO (by simp) fun H3 hS3 => ?_
  simp only [RT] at hS3
  simp (disch := omega) only [↓RA, RZ, simprocAttr, hn, b1r, hS3.ai 1 rfl, h1]
  exact ⟨by rw [oI, yK, if_pos (by omega), decide_eq_true (by omega)]; rfl, hS3.forget⟩
 simp (disch := omega) only [↓RA, RZ, simprocAttr, hn, g0, hS2.ld 0 rfl, (hS2.sl hr).len, h1]
 refine iA (fun h2 => ?_) (fun h2 => ?_)
 ·simp (disch := omega) only [↓RA, RZ, simprocAttr, hn, c0y, h1, h2]
  refine hS2.ab 1 rfl [I 0, I 0] rfl rfl rO (by simp) fun H4 hS4 => ?_
  simp only [RT] at hS4
  simp (disch := omega) only [↓RA, RZ, simprocAttr, hn, b1r, hS4.ai 1 rfl, h1, h2]
  exact ⟨by rw [oI, yK, if_pos (by omega), decide_eq_true (by omega)]; rfl, hS4.forget⟩
 obtain ⟨j, hj⟩ : ∃ j : Nat, d.rank = j := ⟨d.rank.toNat, by omega⟩
 have hjl : j < rks.length := by omega
 have hp : oI rks d key = ((j : Int), vD (vD (key + d.shift) - (iB rks j).first)) := by rw [oI, if_neg (by omega), hj]; rfl
 have hh : yK rks d key = (decide (0 ≤ vD (vD (key + d.shift) - (iB rks j).first)) && decide (vD (vD (key + d.shift) - (iB rks j).first) < (iB rks j).wind.length)) := by
  rw [yK, hp, decide_eq_false (by omega), hj]
  rfl
 rw [hp, hh]
 have hw := (hrk _ (iD hjl)).2
 simp (disch := omega) only [↓RA, simprocAttr, hj]
 refine Wp.drw jV (by kernel_rfl) ?_
 simp (disch := omega) only [↓RA, RZ, simprocAttr, hn, g2]
 simp (disch := omega) only [↓RA, RZ, simprocAttr, hn, g0, hS2.ld 0 rfl, (hS2.sl hr).idx, (hS2.sl hr).bz, (hS2.sl hr).ld, Rk.cells, hj]
 refine Wp.aQ jV [(10, 18), (13, 18), (14, 18)] (by kernel_rfl) (by kernel_rfl) ?_
 simp (disch := omega) only [↓RA, RZ, simprocAttr, hn, hS2.ld 0 rfl, a2T, hj]
 refine jP (fun h3 => ?_) (fun h3 => ?_)
 ·skip
  simp (disch := omega) only [↓RA, RZ, simprocAttr, hn, g0, hS2.ld 0 rfl, (hS2.sl hr).idx, (hS2.sl hr).bz, (hS2.sl hr).ld, Rk.cells, (hS2.sl (hrk (iB rks j) (iD (by omega))).1).len, hj, h3]
  refine hS2.ab 1 rfl [I j, _] rfl rfl rO (by simp) fun H5 hS5 => ?_
  simp only [RT] at hS5
  simp (disch := omega) only [↓RA, RZ, simprocAttr, hn, hS5.ld 0 rfl, Rk.cells, (hS5.sl hr).ld, (hS5.sl (hrk (iB rks j) (iD (by omega))).1).len, b1r, hS5.ai 1 rfl, hj, h3]
  exact hS5.forget
 simp (disch := omega) only [↓RA, RZ, simprocAttr, hn, h3]
 refine hS2.ab 1 rfl [I j, _] rfl rfl rO (by simp) fun H6 hS6 => ?_
 simp only [RT] at hS6
 simp (disch := omega) only [↓RA, RZ, simprocAttr, hn, b1r, hS6.ai 1 rfl, h3]
 first | exact hS6.forget | exact ⟨by rw [fy], hS6.forget⟩
theorem b2J {B : Base} {v : Value} {es : List (Int × Int)} (hS : St prog B H [⟨v, 2, pr es⟩]) (hl : es.length < 1000000) :
 Fn prog 155 [v] H fun r H' => ∃ rest : List Value, (∀ b, kK r = some b → kK v = some b) ∧ (∀ H2, RdAt H2 v 2 (pr (dd (uV es)) ++ rest) → RdAt H2 r 2 (pr (dd (uV es)))) ∧ St prog B H' [⟨v, 2, pr (dd (uV es)) ++ rest⟩] := by
 refine .aW func155 rfl (by kernel_rfl) (m := 7) rfl fun l hn g0 => ?_
 simp (disch := omega) only [↓RA, RZ, simprocAttr, hn, g0]
 refine c3f hS 0 rfl (gZ hl (by decide)) fun H1 hS1 => ?_
 simp only [fS] at hS1
 simp (disch := omega) only [↓RA, RZ, simprocAttr, hn, g0]
 refine iF (a6n hS1 (by rw [oW]; exact gZ hl (by decide))) ?_
 rintro r H2 ⟨rest, hb, hrd, hS2⟩
 have hrc := (hrd H2 (hS2.rd 0 rfl)).cells
 simp (disch := omega) only [↓RA, RB, simprocAttr, hn, c3N]
 exact ⟨rest, hb, hrd, hS2⟩
theorem b5C {a b : Int} {v : Value} {α : Type} {n : Nat} {cel : α → List Value} {xs : List α} (h : Sl n cel H v xs) : vZ prog 189 (.agg #[I a, I b, v]) 2 = some v := by
 rcases h.rd with ⟨rfl, _⟩ | ⟨A, i, e, row, ty, rw, lo, ver, n, _, _, _, _, _, _, rfl⟩ <;> kernel_rfl
theorem b6Q (rv : Value) (rks : List Rk) (hr : Sl 6 Rk.cells H rv rks) (hrk : ∀ r ∈ rks, r.In H) (hl : rks.length < 1000000000) (s : Stp) (hs : s.In H) (hs2 : ∀ g ∈ s.segs, g.draws.length ≤ 8) (key : Int) :
 Fn prog 118 [rv, .agg #[.string s.name, I s.num, I s.den, s.gv], I key] H fun r H' => Slx 2 kA H' (fun B => H.length ≤ B) r (qC rks s key) ∧ St prog H H' [] := by
 refine .bl func118 rfl (by kernel_rfl) (m := 36) rfl fun l hn g0 g1 g2 => ?_
 simp (disch := omega) only [↓RA, RB, simprocAttr, g1]
 refine (sR H).eNew 4 [(.string s.name), I s.num, I s.den, s.gv] rfl rfl (by simp [OC, ((sR H).sl hs.1).cells.2.1]) mR fun A1 H1 hS1 => ?_
 simp only [RT] at hS1
 simp (disch := omega) only [↓RA, RZ, simprocAttr, hn, g2, hS1.ai 0 rfl]
 refine iF (a8A hS1 s hs key) ?_
 rintro r H2 ⟨g, rfl, hgi, hgd, hT1⟩
 have hS2 := hS1.trans hT1
 simp only [RT] at hS2
 have hgl := hgi.2
 have hg8 : g.draws.length ≤ 8 := by
  rw [hgd]
  unfold a9k
  split
  ·simp
  ·rename_i h
   exact hs2 _ (iD (a5o (p := a8r s key) (n := s.segs.length) (by omega)))
 simp (disch := omega) only [↓RA, RZ, simprocAttr, hn, b5C (hS2.sl hgi.1), (hS2.sl hgi.1).len]
 have hS3 := hS2.nil 1
 simp only [RT] at hS3
 refine Wp.al (fun n l H' => l.length = 36 ∧ get l 0 = rv ∧ get l 2 = I key ∧ get l 6 = (.slice none 0 0) ∧ get l 15 = g.dv ∧ get l 16 = I g.draws.length ∧ ∃ (i : Nat) (ov : Value), (n + i = g.draws.length) ∧ get l 17 = I i ∧ get l 7 = ov ∧ St prog H H' [⟨ptr A1 0 4, 0, [(.string s.name), I s.num, I s.den, s.gv]⟩, ⟨ov, 2, pr (((g.draws.take i).filter fun d => yK rks d key).map fun d => oI rks d key)⟩]) g.draws.length ?_ ?_
 ·simp (disch := omega) only [RB, RC, simprocAttr, hn, g0, g2]
  exact ⟨0, _, by omega, rfl, rfl, hS3⟩
 rintro n l H3 ⟨hn, g0, g2, g6, g15, g16, i, ov, hi, g17, g7, hS4⟩
 simp (disch := omega) only [↓RA, RB, simprocAttr, hn, g16, g17]
 refine iA (fun q1 => ?_) (fun q1 => ?_)
 ·simp (disch := omega) only [↓RA, RZ, simprocAttr, hn, g15, g17, (hS4.sl hgi.1).idx, (hS4.sl hgi.1).ai, Drw.cells, q1]
  refine hS4.eNew 2 [I 0, I 0] rfl rfl rfl a0R fun A2 H4 hS5 => ?_
  simp only [RT] at hS5
  simp (disch := omega) only [↓RA, RZ, simprocAttr, hn, q1]
  refine hS5.ab 2 rfl [I (iB g.draws i).rank, I (iB g.draws i).shift] rfl rfl a0R (by simp) fun H5 hS6 => ?_
  simp only [RT] at hS6
  simp (disch := omega) only [↓RA, RZ, simprocAttr, hn, g0, g2, hS6.ai 2 rfl, q1]
  refine hS6.cF (b8z rv rks (hS6.sl hr) (fun r hr' => (hrk r hr').ae hS6) hl (iB g.draws i) key) fun H6 hS7 => ?_
  have htk := mF g.draws i (by omega)
  have hfl : ((g.draws.take i).filter fun d => yK rks d key).length ≤ i := by
   refine dJ (ey _ _) ?_
   simp
   omega
  simp (disch := omega) only [↓RA, RZ, simprocAttr, hn, q1]
  refine hS7.eNew 2 [I 0, I 0] rfl rfl rfl rO fun A3 H7 hS8 => ?_
  simp only [RT] at hS8
  simp (disch := omega) only [↓RA, RZ, simprocAttr, hn, q1]
  refine hS8.ab 3 rfl [I (oI rks (iB g.draws i) key).1, I (oI rks (iB g.draws i) key).2] rfl rfl rO (by simp) fun H8 hS9 => ?_
  simp only [RT] at hS9
  simp (disch := omega) only [↓RA, RZ, simprocAttr, hn, q1]
  refine jM (fun q2 => ?_) (fun q2 => ?_)
  ·skip
   simp (disch := omega) only [↓RA, RZ, simprocAttr, hn, g7, hS9.ai 3 rfl, q1, q2]
   refine hS9.ag [I (oI rks (iB g.draws i) key).1, I (oI rks (iB g.draws i) key).2] b3y c1G rfl rfl (by simp [Value.cells]) rfl rfl (by decide) (by decide) fun w1 H9 hS10 => ?_
   simp only [RT] at hS10
   simp (disch := omega) only [↓RA, RZ, simprocAttr, hn, q1, q2]
   refine hS10.ar 1 rfl (hS10.rd 4 rfl) b3y (by rw [iK]; simp; omega) fun w2 H10 hS11 => ?_
   simp only [RT] at hS11
   simp (disch := omega) only [↓RA, RZ, simprocAttr, hn, g0, g2, g6, g15, g16, g17, q1, q2]
   refine ⟨n - 1, by omega, i + 1, w2, by omega, by simp, rfl, ?_⟩
   rw [htk, fb, dZ, kG]
   have e : ([iB g.draws i].filter fun d => yK rks d key) = [iB g.draws i] := by simp [q2]
   rw [e]
   exact hS11.pick [0, 1] (by decide) rfl
  simp (disch := omega) only [↓RA, RZ, simprocAttr, hn, g0, g2, g6, g15, g16, g17, g7, q1, q2]
  refine ⟨n - 1, by omega, i + 1, ov, by omega, by simp, rfl, ?_⟩
  rw [htk, fb, dZ, kG]
  have e : ([iB g.draws i].filter fun d => yK rks d key) = [] := by simp [q2]
  rw [e]
  simp only [pr, gm, fQ, dG]
  exact hS9.pick [0, 1] (by decide) rfl
 simp (disch := omega) only [↓RA, RZ, simprocAttr, hn, g7, q1]
 have hii : i = g.draws.length := by omega
 subst hii
 have hfl : ((g.draws.filter fun d => yK rks d key).map fun d => oI rks d key).length ≤ 8 := by
  rw [ed]
  exact dJ (ey _ _) hg8
 rw [eJ] at hS4
 have hM1 := hS4.pick (os' := [⟨ov, 2, _⟩]) [1] (by decide) rfl
 have hR1 := hS4.pick (os' := [⟨ov, 2, _⟩, ⟨ptr A1 0 4, 0, _⟩]) [1, 0] (by decide) rfl
 refine iF (b2J (es := (g.draws.filter fun d => yK rks d key).map fun d => oI rks d key) hM1.aF (by omega)) ?_
 rintro r H11 ⟨rest, hb, hrd, hT3⟩
 have hS12 := hR1.frame hT3
 simp only [RT] at hS12
 have hrr := hrd _ (hS12.rd 0 rfl)
 have hrc := hrr.cells
 simp (disch := omega) only [↓RA, RZ, simprocAttr, hn, c3V, q1]
 refine ⟨⟨⟨?_, jU, by decide⟩, fun b h => ?_⟩, hS12.forget⟩
 ·unfold qC
  rw [← hgd]
  exact hrr
 ·rcases hS12.new _ (eH ..) b (hb b h) with h | h
  ·exact h
  ·exact h.elim
end Go.Ds
namespace Go.Ds
open Go.Proofs Go.Proofs.Tryz
variable {H : Heap}
set_option maxRecDepth 10000
set_option maxHeartbeats 1000000
abbrev KC (kvs : List (Ct × Bool)) : List Value := kcs (fun p : Int × Int => .agg #[I p.1, I p.2]) Value.bool kvs
def wI (kvs : List (Ct × Bool)) (c : Ct) : Bool := (a2g kvs c).getD false
theorem b2v {B : Base} (o : Org) (r : Reg) (sv : Value) (c : Ct) (AO AR AS AQ M : Nat) (qv : Value) (q : List Ct) (kvs : List (Ct × Bool))
 (hS : St prog B H [⟨.map (some M), 0, KC kvs⟩, ⟨ptr AQ 0 1, 0, [qv]⟩, ⟨qv, 2, pr q⟩])
 (hO : ∀ {H1 : Heap} {os : List Ob}, St prog B H1 os → Var H1 AO 4 [.string o.name, o.rv, o.dv, o.cv] ∧ o.In H1 ∧ Var H1 AR 3 [sv, .int .u64 r.cpl, .int .u64 r.off] ∧ Var H1 AS 1 [.map (some M)])
 (hk : ∀ t, wI kvs t = true ↔ t ∈ q) (hq : Que o q) (ho : o.Fine) (hr : r.Ok) :
 Fn prog 111 [.agg #[I c.1, I c.2], .bool true, ptr AO 0 4, ptr AR 0 3, ptr AS 0 1, ptr AQ 0 1] H fun rr H' => ∃ kvs' qv', rr = .tuple #[] ∧ (∀ t, wI kvs' t = true ↔ t ∈ stepF o r.cpl true c q) ∧
  St prog B H' [⟨.map (some M), 0, KC kvs'⟩, ⟨ptr AQ 0 1, 0, [qv']⟩, ⟨qv', 2, pr (stepF o r.cpl true c q)⟩] := by
 have hcl := ho.clen
 refine .cW func111 rfl (by kernel_rfl) (m := 65) rfl fun l hn g0 g1 g2 g3 g4 g5 => ?_
 simp (disch := omega) only [↓RA, RB, simprocAttr, g0]
 refine hS.eNew 2 [I c.1, I c.2] rfl rfl rfl rC fun A1 H1 hS1 => ?_
 simp only [RT] at hS1
 simp (disch := omega) only [↓RA, RZ, simprocAttr, hn, g2, ((hO hS1).1).ld, ((hO hS1).2.1.2.2.2.2.1).len]
 refine Wp.al (fun n l H' => l.length = 65 ∧ get l 1 = (.bool true) ∧ get l 2 = (ptr AO 0 4) ∧ get l 3 = (ptr AR 0 3) ∧ get l 4 = (ptr AS 0 1) ∧ get l 5 = (ptr AQ 0 1) ∧ get l 6 = (ptr A1 0 2) ∧ get l 12 = o.cv ∧ get l 13 = I o.cpls.length ∧ ∃ (i : Nat) (kvs' : List (Ct × Bool)) (qv' : Value), (n + i = o.cpls.length ∧ ∀ t, wI kvs' t = true ↔ t ∈ stepN o r.cpl true c q i) ∧ get l 14 = I i ∧ St prog B H' [⟨.map (some M), 0, KC kvs'⟩, ⟨ptr AQ 0 1, 0, [qv']⟩, ⟨qv', 2, pr (stepN o r.cpl true c q i)⟩, ⟨ptr A1 0 2, 0, [I c.1, I c.2]⟩]) o.cpls.length ?_ ?_
 ·simp (disch := omega) only [RB, RC, simprocAttr, hn, g1, g2, g3, g4, g5]
  exact ⟨0, kvs, qv, ⟨by omega, hk⟩, rfl, hS1⟩
 rintro n l H2 ⟨hn, g1, g2, g3, g4, g5, g6, g12, g13, i, kvs', qv', ⟨hi,hk'⟩, g14, hS2⟩
 simp (disch := omega) only [↓RA, RB, simprocAttr, hn, g13, g14]
 refine iA (fun q1 => ?_) (fun q1 => ?_)
 ·have hql : (stepN o r.cpl true c q i).length ≤ 1024 := (hq.stepN r.cpl true c i).len ho
  have e1 := a7w r.cpl i hr.2.2.1
  have e2 := b1G (r.cpl >>> i) (a4L i hr.2.2.1)
  have e3 := tb r.cpl i
  have hskip : a0Z r.cpl true c (iB o.cpls i) i = false → stepN o r.cpl true c q (i + 1) = stepN o r.cpl true c q i := fun h => by
   rw [nM, step1, if_neg (by rw [h]; simp)]
  have hkeep : qN o ((iB o.cpls i).dst, vD (c.2 + (iB o.cpls i).shift)) = false ∨ ((iB o.cpls i).dst, vD (c.2 + (iB o.cpls i).shift)) ∈ stepN o r.cpl true c q i → stepN o r.cpl true c q (i + 1) = stepN o r.cpl true c q i := fun h => by
   rw [nM, step1, if_neg]
   simp only [to1, de, dF]
   rintro ⟨⟨_, h2⟩, h3⟩
   rcases h with h | h
   ·rw [h] at h2; cases h2
   ·exact absurd h (of_decide_eq_false h3)
  simp (disch := omega) only [↓RA, RZ, simprocAttr, hn, g12, g14, ((hO hS2).2.1.2.2.2.2.1).idx, ((hO hS2).2.1.2.2.2.2.1).ai, Cpl.cells, q1]
  refine hS2.eNew 5 [(.string ⟨#[]⟩), I 0, I 0, I 0, (.bool false)] rfl rfl rfl vJ fun A2 H3 hS3 => ?_
  simp only [RT] at hS3
  simp (disch := omega) only [↓RA, RZ, simprocAttr, hn, q1]
  refine hS3.ab 4 rfl [(.string (iB o.cpls i).name), I (iB o.cpls i).src, I (iB o.cpls i).dst, I (iB o.cpls i).shift, (.bool (iB o.cpls i).thr)] rfl rfl vJ (by simp) fun H4 hS4 => ?_
  simp only [RT] at hS4
  simp (disch := omega) only [↓RA, RZ, simprocAttr, hn, g3, ((hO hS4).2.2.1).ld, q1, e1, e2]
  refine iN (fun b1 => ?_) (fun b1 => ?_)
  ·have hs := hskip (by unfold a0Z; rw [e3, decide_eq_false (by omega)]; rfl)
   simp (disch := omega) only [↓RA, RZ, simprocAttr, hn, g1, g2, g3, g4, g5, g6, g12, g13, g14, q1, b1]
   exact ⟨n - 1, by omega, i + 1, kvs', qv', ⟨by omega, by rw [hs]; exact hk'⟩, by simp, by rw [hs]; exact hS4.pick [0, 1, 2, 3] (by decide) rfl⟩
  have hb : r.cpl.testBit i = true := by rw [e3]; exact decide_eq_true (by omega)
  simp (disch := omega) only [↓RA, RZ, simprocAttr, hn, g6, hS4.ld 4 rfl, hS4.ld 3 rfl, q1, b1]
  refine iN (fun b2 => ?_) (fun b2 => ?_)
  ·have hs := hskip (by unfold a0Z; rw [decide_eq_false b2]; simp)
   simp (disch := omega) only [↓RA, RZ, simprocAttr, hn, g1, g2, g3, g4, g5, g6, g12, g13, g14, q1, b1, b2]
   exact ⟨n - 1, by omega, i + 1, kvs', qv', ⟨by omega, by rw [hs]; exact hk'⟩, by simp, by rw [hs]; exact hS4.pick [0, 1, 2, 3] (by decide) rfl⟩
  have hsrc := dD.1 b2
  simp (disch := omega) only [↓RA, RZ, simprocAttr, hn, g1, hS4.ld 4 rfl, q1, b1, b2]
  refine jM (fun b4 => ?_) (fun b4 => ?_)
  ·have hs := hskip (by unfold a0Z; simp only [Bool.not_true, Bool.false_or, fF]; exact .inr (by simpa using b4))
   simp (disch := omega) only [↓RA, RZ, simprocAttr, hn, g1, g2, g3, g4, g5, g6, g12, g13, g14, q1, b1, b2, b4]
   exact ⟨n - 1, by omega, i + 1, kvs', qv', ⟨by omega, by rw [hs]; exact hk'⟩, by simp, by rw [hs]; exact hS4.pick [0, 1, 2, 3] (by decide) rfl⟩
  have hgo : a0Z r.cpl true c (iB o.cpls i) i = true := by
   unfold a0Z
   rw [hb, decide_eq_true hsrc]
   simpa using b4
  simp (disch := omega) only [↓RA, RZ, simprocAttr, hn, g6, hS4.ld 4 rfl, hS4.ld 3 rfl, q1, b1, b2, b4]
  simp (disch := omega) only [↓RA, RZ, simprocAttr, yS]
  refine hS4.eNew 2 [I 0, I 0] rfl rfl rfl rC fun A3 H5 hS5 => ?_
  simp only [RT] at hS5
  simp (disch := omega) only [↓RA, RZ, simprocAttr, hn, q1, b1, b2, b4]
  refine hS5.ab 5 rfl [I (iB o.cpls i).dst, I (vD (c.2 + (iB o.cpls i).shift))] rfl rfl rC (by simp) fun H6 hS6 => ?_
  simp only [RT] at hS6
  simp (disch := omega) only [↓RA, RZ, simprocAttr, hn, g2, ((hO hS6).1).ai, hS6.ai 5 rfl, q1, b1, b2, b4]
  refine hS6.cF (wQ o (hO hS6).2.1 ((iB o.cpls i).dst, vD (c.2 + (iB o.cpls i).shift))) fun H7 hS7 => ?_
  simp (disch := omega) only [↓RA, RZ, simprocAttr, hn, q1, b1, b2, b4]
  refine jP (fun b5 => ?_) (fun b5 => ?_)
  ·have hok := (uI o _).1 b5
   simp (disch := omega) only [↓RA, RZ, simprocAttr, hn, g4, ((hO hS7).2.2.2).ld, hS7.ai 5 rfl, q1, b1, b2, b4, b5]
   refine hS7.bO (k := ((iB o.cpls i).dst, vD (c.2 + (iB o.cpls i).shift))) 0 rfl a6C (fun _ => rfl) ?_
   simp (disch := omega) only [↓RA, RZ, simprocAttr, hn, q1, b1, b2, b4, b5]
   refine jM (fun b6 => ?_) (fun b6 => ?_)
   ·have hnot : ((iB o.cpls i).dst, vD (c.2 + (iB o.cpls i).shift)) ∉ stepN o r.cpl true c q i := fun h => by
     have h := (hk' _).2 h
     unfold wI at h
     first | (rw [dF] at b6; exact Bool.false_ne_true (b6.symm.trans h)) | exact b6 h
    have hs : stepN o r.cpl true c q (i + 1) = stepN o r.cpl true c q i ++ [((iB o.cpls i).dst, vD (c.2 + (iB o.cpls i).shift))] := by
     rw [nM]
     unfold step1
     rw [if_pos (by simp only [to1, hgo, hok]; simp [hnot])]
     rfl
    simp (disch := omega) only [↓RA, RZ, simprocAttr, hn, g4, ((hO hS7).2.2.2).ld, hS7.ai 5 rfl, q1, b1, b2, b4, b5, b6]
    refine hS7.ct (k := ((iB o.cpls i).dst, vD (c.2 + (iB o.cpls i).shift))) 0 rfl a6C fun H8 hS8 => ?_
    simp only [RT] at hS8
    simp (disch := omega) only [↓RA, RZ, simprocAttr, hn, g5, hS8.ld 1 rfl, hS8.ai 5 rfl, q1, b1, b2, b4, b5, b6]
    refine hS8.ag [I (iB o.cpls i).dst, I (vD (c.2 + (iB o.cpls i).shift))] a1c a8N rfl rfl (by simp [Value.cells]) rfl rfl (by decide) (by decide) fun w1 H9 hS9 => ?_
    simp only [RT] at hS9
    simp (disch := omega) only [↓RA, RZ, simprocAttr, hn, q1, b1, b2, b4, b5, b6]
    refine hS9.ar 2 rfl (hS9.rd 6 rfl) a1c (by rw [iK]; simp; omega) fun w2 H10 hS10 => ?_
    simp only [RT] at hS10
    simp (disch := omega) only [↓RA, RZ, simprocAttr, hn, g5, q1, b1, b2, b4, b5, b6]
    refine hS10.ab 1 rfl [w2] (by rw [(hS10.rd 2 rfl).cells.1]) (by simp [(hS10.rd 2 rfl).cells.2.1]) b9O (by simp) fun H11 hS11 => ?_
    simp only [RT] at hS11
    simp (disch := omega) only [↓RA, RZ, simprocAttr, hn, g1, g2, g3, g4, g5, g6, g12, g13, g14, q1, b1, b2, b4, b5, b6]
    refine ⟨n - 1, by omega, i + 1, a5h kvs' ((iB o.cpls i).dst, vD (c.2 + (iB o.cpls i).shift)) true, w2, ⟨by omega, fun t => ?_⟩, by simp, ?_⟩
    ·rw [hs, dN, dE, ← hk' t]
     unfold wI
     rw [a1Q]
     by_cases e : t = ((iB o.cpls i).dst, vD (c.2 + (iB o.cpls i).shift))
     ·simp [e]
     ·simp [e]
    ·rw [hs, kG]
     exact hS11.pick [0, 1, 2, 3] (by decide) rfl
   have hin : ((iB o.cpls i).dst, vD (c.2 + (iB o.cpls i).shift)) ∈ stepN o r.cpl true c q i := (hk' _).1 (by
    unfold wI
    simpa using b6)
   have hs := hkeep (.inr hin)
   simp (disch := omega) only [↓RA, RZ, simprocAttr, hn, g1, g2, g3, g4, g5, g6, g12, g13, g14, q1, b1, b2, b4, b5, b6]
   exact ⟨n - 1, by omega, i + 1, kvs', qv', ⟨by omega, by rw [hs]; exact hk'⟩, by simp, by rw [hs]; exact hS7.pick [0, 1, 2, 3] (by decide) rfl⟩
  have hs := hkeep (.inl (by rw [← ek]; exact fun h => b5 ((uI o _).2 h)))
  simp (disch := omega) only [↓RA, RZ, simprocAttr, hn, g1, g2, g3, g4, g5, g6, g12, g13, g14, q1, b1, b2, b4, b5]
  exact ⟨n - 1, by omega, i + 1, kvs', qv', ⟨by omega, by rw [hs]; exact hk'⟩, by simp, by rw [hs]; exact hS7.pick [0, 1, 2, 3] (by decide) rfl⟩
 simp (disch := omega) only [↓RA, RZ, simprocAttr, c0D, q1]
 have hii : i = o.cpls.length := by omega
 subst hii
 exact ⟨kvs', qv', hk', hS2.pick [0, 1, 2] (by decide) rfl⟩
theorem b2K {B : Base} (o : Org) (r : Reg) (sv : Value) (c : Ct) (AO AR AS AQ M : Nat) (qv : Value) (q : List Ct) (kvs : List (Ct × Bool))
 (hS : St prog B H [⟨.map (some M), 0, KC kvs⟩, ⟨ptr AQ 0 1, 0, [qv]⟩, ⟨qv, 2, pr q⟩])
 (hO : ∀ {H1 : Heap} {os : List Ob}, St prog B H1 os → Var H1 AO 4 [.string o.name, o.rv, o.dv, o.cv] ∧ o.In H1 ∧ Var H1 AR 3 [sv, .int .u64 r.cpl, .int .u64 r.off] ∧ Var H1 AS 1 [.map (some M)])
 (hk : ∀ t, wI kvs t = true ↔ t ∈ q) (hq : Que o q) (ho : o.Fine) (hr : r.Ok) :
 Fn prog 111 [.agg #[I c.1, I c.2], .bool false, ptr AO 0 4, ptr AR 0 3, ptr AS 0 1, ptr AQ 0 1] H fun rr H' => ∃ kvs' qv', rr = .tuple #[] ∧ (∀ t, wI kvs' t = true ↔ t ∈ stepF o r.cpl false c q) ∧
  St prog B H' [⟨.map (some M), 0, KC kvs'⟩, ⟨ptr AQ 0 1, 0, [qv']⟩, ⟨qv', 2, pr (stepF o r.cpl false c q)⟩] := by
 have hcl := ho.clen
 refine .cW func111 rfl (by kernel_rfl) (m := 65) rfl fun l hn g0 g1 g2 g3 g4 g5 => ?_
 simp (disch := omega) only [↓RA, RB, simprocAttr, g0]
 refine hS.eNew 2 [I c.1, I c.2] rfl rfl rfl rC fun A1 H1 hS1 => ?_
 simp only [RT] at hS1
 simp (disch := omega) only [↓RA, RZ, simprocAttr, hn, g2, ((hO hS1).1).ld, ((hO hS1).2.1.2.2.2.2.1).len]
 refine Wp.al (fun n l H' => l.length = 65 ∧ get l 1 = (.bool false) ∧ get l 2 = (ptr AO 0 4) ∧ get l 3 = (ptr AR 0 3) ∧ get l 4 = (ptr AS 0 1) ∧ get l 5 = (ptr AQ 0 1) ∧ get l 6 = (ptr A1 0 2) ∧ get l 12 = o.cv ∧ get l 13 = I o.cpls.length ∧ ∃ (i : Nat) (kvs' : List (Ct × Bool)) (qv' : Value), (n + i = o.cpls.length ∧ ∀ t, wI kvs' t = true ↔ t ∈ stepN o r.cpl false c q i) ∧ get l 14 = I i ∧ St prog B H' [⟨.map (some M), 0, KC kvs'⟩, ⟨ptr AQ 0 1, 0, [qv']⟩, ⟨qv', 2, pr (stepN o r.cpl false c q i)⟩, ⟨ptr A1 0 2, 0, [I c.1, I c.2]⟩]) o.cpls.length ?_ ?_
 ·simp (disch := omega) only [RB, RC, simprocAttr, hn, g1, g2, g3, g4, g5]
  exact ⟨0, kvs, qv, ⟨by omega, hk⟩, rfl, hS1⟩
 rintro n l H2 ⟨hn, g1, g2, g3, g4, g5, g6, g12, g13, i, kvs', qv', ⟨hi,hk'⟩, g14, hS2⟩
 simp (disch := omega) only [↓RA, RB, simprocAttr, hn, g13, g14]
 refine iA (fun q1 => ?_) (fun q1 => ?_)
 ·have hql : (stepN o r.cpl false c q i).length ≤ 1024 := (hq.stepN r.cpl false c i).len ho
  have e1 := a7w r.cpl i hr.2.2.1
  have e2 := b1G (r.cpl >>> i) (a4L i hr.2.2.1)
  have e3 := tb r.cpl i
  have hskip : a0Z r.cpl false c (iB o.cpls i) i = false → stepN o r.cpl false c q (i + 1) = stepN o r.cpl false c q i := fun h => by
   rw [nM, step1, if_neg (by rw [h]; simp)]
  have hkeep : qN o ((iB o.cpls i).dst, vD (c.2 + (iB o.cpls i).shift)) = false ∨ ((iB o.cpls i).dst, vD (c.2 + (iB o.cpls i).shift)) ∈ stepN o r.cpl false c q i → stepN o r.cpl false c q (i + 1) = stepN o r.cpl false c q i := fun h => by
   rw [nM, step1, if_neg]
   simp only [to1, de, dF]
   rintro ⟨⟨_, h2⟩, h3⟩
   rcases h with h | h
   ·rw [h] at h2; cases h2
   ·exact absurd h (of_decide_eq_false h3)
  simp (disch := omega) only [↓RA, RZ, simprocAttr, hn, g12, g14, ((hO hS2).2.1.2.2.2.2.1).idx, ((hO hS2).2.1.2.2.2.2.1).ai, Cpl.cells, q1]
  refine hS2.eNew 5 [(.string ⟨#[]⟩), I 0, I 0, I 0, (.bool false)] rfl rfl rfl vJ fun A2 H3 hS3 => ?_
  simp only [RT] at hS3
  simp (disch := omega) only [↓RA, RZ, simprocAttr, hn, q1]
  refine hS3.ab 4 rfl [(.string (iB o.cpls i).name), I (iB o.cpls i).src, I (iB o.cpls i).dst, I (iB o.cpls i).shift, (.bool (iB o.cpls i).thr)] rfl rfl vJ (by simp) fun H4 hS4 => ?_
  simp only [RT] at hS4
  simp (disch := omega) only [↓RA, RZ, simprocAttr, hn, g3, ((hO hS4).2.2.1).ld, q1, e1, e2]
  refine iN (fun b1 => ?_) (fun b1 => ?_)
  ·have hs := hskip (by unfold a0Z; rw [e3, decide_eq_false (by omega)]; rfl)
   simp (disch := omega) only [↓RA, RZ, simprocAttr, hn, g1, g2, g3, g4, g5, g6, g12, g13, g14, q1, b1]
   exact ⟨n - 1, by omega, i + 1, kvs', qv', ⟨by omega, by rw [hs]; exact hk'⟩, by simp, by rw [hs]; exact hS4.pick [0, 1, 2, 3] (by decide) rfl⟩
  have hb : r.cpl.testBit i = true := by rw [e3]; exact decide_eq_true (by omega)
  simp (disch := omega) only [↓RA, RZ, simprocAttr, hn, g6, hS4.ld 4 rfl, hS4.ld 3 rfl, q1, b1]
  refine iN (fun b2 => ?_) (fun b2 => ?_)
  ·have hs := hskip (by unfold a0Z; rw [decide_eq_false b2]; simp)
   simp (disch := omega) only [↓RA, RZ, simprocAttr, hn, g1, g2, g3, g4, g5, g6, g12, g13, g14, q1, b1, b2]
   exact ⟨n - 1, by omega, i + 1, kvs', qv', ⟨by omega, by rw [hs]; exact hk'⟩, by simp, by rw [hs]; exact hS4.pick [0, 1, 2, 3] (by decide) rfl⟩
  have hsrc := dD.1 b2
  have hgo : a0Z r.cpl false c (iB o.cpls i) i = true := by
   unfold a0Z
   rw [hb, decide_eq_true hsrc]
   rfl
  simp (disch := omega) only [↓RA, RZ, simprocAttr, hn, g1, g6, hS4.ld 4 rfl, hS4.ld 3 rfl, q1, b1, b2]
  simp (disch := omega) only [↓RA, RZ, simprocAttr, yS]
  refine hS4.eNew 2 [I 0, I 0] rfl rfl rfl rC fun A3 H5 hS5 => ?_
  simp only [RT] at hS5
  simp (disch := omega) only [↓RA, RZ, simprocAttr, hn, q1, b1, b2]
  refine hS5.ab 5 rfl [I (iB o.cpls i).dst, I (vD (c.2 + (iB o.cpls i).shift))] rfl rfl rC (by simp) fun H6 hS6 => ?_
  simp only [RT] at hS6
  simp (disch := omega) only [↓RA, RZ, simprocAttr, hn, g2, ((hO hS6).1).ai, hS6.ai 5 rfl, q1, b1, b2]
  refine hS6.cF (wQ o (hO hS6).2.1 ((iB o.cpls i).dst, vD (c.2 + (iB o.cpls i).shift))) fun H7 hS7 => ?_
  simp (disch := omega) only [↓RA, RZ, simprocAttr, hn, q1, b1, b2]
  refine jP (fun b5 => ?_) (fun b5 => ?_)
  ·have hok := (uI o _).1 b5
   simp (disch := omega) only [↓RA, RZ, simprocAttr, hn, g4, ((hO hS7).2.2.2).ld, hS7.ai 5 rfl, q1, b1, b2, b5]
   refine hS7.bO (k := ((iB o.cpls i).dst, vD (c.2 + (iB o.cpls i).shift))) 0 rfl a6C (fun _ => rfl) ?_
   simp (disch := omega) only [↓RA, RZ, simprocAttr, hn, q1, b1, b2, b5]
   refine jM (fun b6 => ?_) (fun b6 => ?_)
   ·have hnot : ((iB o.cpls i).dst, vD (c.2 + (iB o.cpls i).shift)) ∉ stepN o r.cpl false c q i := fun h => by
     have h := (hk' _).2 h
     unfold wI at h
     first | (rw [dF] at b6; exact Bool.false_ne_true (b6.symm.trans h)) | exact b6 h
    have hs : stepN o r.cpl false c q (i + 1) = stepN o r.cpl false c q i ++ [((iB o.cpls i).dst, vD (c.2 + (iB o.cpls i).shift))] := by
     rw [nM]
     unfold step1
     rw [if_pos (by simp only [to1, hgo, hok]; simp [hnot])]
     rfl
    simp (disch := omega) only [↓RA, RZ, simprocAttr, hn, g4, ((hO hS7).2.2.2).ld, hS7.ai 5 rfl, q1, b1, b2, b5, b6]
    refine hS7.ct (k := ((iB o.cpls i).dst, vD (c.2 + (iB o.cpls i).shift))) 0 rfl a6C fun H8 hS8 => ?_
    simp only [RT] at hS8
    simp (disch := omega) only [↓RA, RZ, simprocAttr, hn, g5, hS8.ld 1 rfl, hS8.ai 5 rfl, q1, b1, b2, b5, b6]
    refine hS8.ag [I (iB o.cpls i).dst, I (vD (c.2 + (iB o.cpls i).shift))] a1c a8N rfl rfl (by simp [Value.cells]) rfl rfl (by decide) (by decide) fun w1 H9 hS9 => ?_
    simp only [RT] at hS9
    simp (disch := omega) only [↓RA, RZ, simprocAttr, hn, q1, b1, b2, b5, b6]
    refine hS9.ar 2 rfl (hS9.rd 6 rfl) a1c (by rw [iK]; simp; omega) fun w2 H10 hS10 => ?_
    simp only [RT] at hS10
    simp (disch := omega) only [↓RA, RZ, simprocAttr, hn, g5, q1, b1, b2, b5, b6]
    refine hS10.ab 1 rfl [w2] (by rw [(hS10.rd 2 rfl).cells.1]) (by simp [(hS10.rd 2 rfl).cells.2.1]) b9O (by simp) fun H11 hS11 => ?_
    simp only [RT] at hS11
    simp (disch := omega) only [↓RA, RZ, simprocAttr, hn, g1, g2, g3, g4, g5, g6, g12, g13, g14, q1, b1, b2, b5, b6]
    refine ⟨n - 1, by omega, i + 1, a5h kvs' ((iB o.cpls i).dst, vD (c.2 + (iB o.cpls i).shift)) true, w2, ⟨by omega, fun t => ?_⟩, by simp, ?_⟩
    ·rw [hs, dN, dE, ← hk' t]
     unfold wI
     rw [a1Q]
     by_cases e : t = ((iB o.cpls i).dst, vD (c.2 + (iB o.cpls i).shift))
     ·simp [e]
     ·simp [e]
    ·rw [hs, kG]
     exact hS11.pick [0, 1, 2, 3] (by decide) rfl
   have hin : ((iB o.cpls i).dst, vD (c.2 + (iB o.cpls i).shift)) ∈ stepN o r.cpl false c q i := (hk' _).1 (by
    unfold wI
    simpa using b6)
   have hs := hkeep (.inr hin)
   simp (disch := omega) only [↓RA, RZ, simprocAttr, hn, g1, g2, g3, g4, g5, g6, g12, g13, g14, q1, b1, b2, b5, b6]
   exact ⟨n - 1, by omega, i + 1, kvs', qv', ⟨by omega, by rw [hs]; exact hk'⟩, by simp, by rw [hs]; exact hS7.pick [0, 1, 2, 3] (by decide) rfl⟩
  have hs := hkeep (.inl (by rw [← ek]; exact fun h => b5 ((uI o _).2 h)))
  simp (disch := omega) only [↓RA, RZ, simprocAttr, hn, g1, g2, g3, g4, g5, g6, g12, g13, g14, q1, b1, b2, b5]
  exact ⟨n - 1, by omega, i + 1, kvs', qv', ⟨by omega, by rw [hs]; exact hk'⟩, by simp, by rw [hs]; exact hS7.pick [0, 1, 2, 3] (by decide) rfl⟩
 simp (disch := omega) only [↓RA, RZ, simprocAttr, c0D, q1]
 have hii : i = o.cpls.length := by omega
 subst hii
 exact ⟨kvs', qv', hk', hS2.pick [0, 1, 2] (by decide) rfl⟩
theorem a5Q (o : Org) (cp : Nat) (l : List Ct) (i : Nat) (h : i < l.length) : oC o cp (l.take (i + 1)) = stepF o cp false (iB l i) (oC o cp (l.take i)) := by
 unfold oC
 rw [mF l i h, gY]
 rfl
theorem qJ (o : Org) (cp : Nat) (l : List Ct) : Que o (oC o cp l) := by
 unfold oC
 have : ∀ (l : List Ct) (q : List Ct), Que o q → Que o (l.foldl (fun q c => stepF o cp false c q) q) := by
  intro l
  induction l with
  | nil => intro q h; exact h
  | cons c l ih => intro q h; exact ih _ (h.stepF cp false c)
 exact this l [] (Que.nil o)
theorem a9b : jC (.map none) = true := rfl
theorem a0S (o : Org) (ho : o.In H) (hf : o.Fine) (r : Reg) (sv : Value) (hr : r.In H sv) (fv : Value) (first : List Ct) (hfi : Sl 2 kA H fv first) (hfl : first.length ≤ 1024) (hfo : ∀ c ∈ first, qN o c = true) :
 Fn prog 60 [.agg #[.string o.name, o.rv, o.dv, o.cv], .agg #[sv, .int .u64 r.cpl, .int .u64 r.off], fv] H fun rr H' => Slx 2 kA H' (fun B => H.length ≤ B) rr (oH o r first) ∧ St prog H H' [] := by
 refine .bl func60 rfl (by kernel_rfl) (m := 56) rfl fun l hn g0 g1 g2 => ?_
 simp (disch := omega) only [↓RA, RB, simprocAttr, g0]
 refine (sR H).eNew 4 [(.string o.name), o.rv, o.dv, o.cv] rfl rfl (by simp [OC, ((sR H).sl ho.1).cells.2.1, ((sR H).sl ho.2.2.1).cells.2.1, ((sR H).sl ho.2.2.2.2.1).cells.2.1]) mD fun A1 H1 hS1 => ?_
 simp only [RT] at hS1
 simp (disch := omega) only [↓RA, RB, simprocAttr, g1]
 refine hS1.eNew 3 [sv, (.int .u64 r.cpl), (.int .u64 r.off)] rfl rfl (by simp [OC, (hS1.sl hr.1).cells.2.1]) pG fun A2 H2 hS2 => ?_
 simp only [RT] at hS2
 simp (disch := omega) only [↓RA, RB, simprocAttr]
 refine hS2.bW a6C fun M1 H3 hS3 => ?_
 simp only [RT] at hS3
 simp (disch := omega) only [↓RA, RZ, simprocAttr, a9b]
 refine hS3.eNew 1 [(.map none)] rfl rfl rfl b6u fun A3 H4 hS4 => ?_
 simp only [RT] at hS4
 simp (disch := omega) only [↓RA, RB, simprocAttr, hn]
 refine hS4.ab 3 rfl [(.map (some M1))] rfl rfl b6u (by simp) fun H5 hS5 => ?_
 simp only [RT] at hS5
 simp (disch := omega) only [↓RA, RZ, simprocAttr]
 refine hS5.eNew 1 [(.slice none 0 0)] rfl rfl rfl b9O fun A4 H6 hS6 => ?_
 simp only [RT] at hS6
 simp (disch := omega) only [↓RA, RZ, simprocAttr, hn, g2, (hS6.sl hfi).len]
 have hS7 := hS6.nil 1
 simp only [RT] at hS7
 have hS8 := hS7.nil 1
 simp only [RT] at hS8
 refine Wp.al (fun n l H' => l.length = 56 ∧ get l 4 = (ptr A2 0 3) ∧ get l 6 = (.slice none 0 0) ∧ get l 8 = (ptr A4 0 1) ∧ get l 10 = (.func (.func 111) #[] #[(ptr A1 0 4), (ptr A2 0 3), (ptr A3 0 1), (ptr A4 0 1)]) ∧ get l 16 = fv ∧ get l 17 = I first.length ∧ ∃ (i : Nat) (kvs : List (Ct × Bool)) (qv ov : Value), (n + i = first.length ∧ ∀ t, wI kvs t = true ↔ t ∈ oC o r.cpl (first.take i)) ∧ get l 18 = I i ∧ get l 9 = ov ∧ St prog H H' [⟨ptr A1 0 4, 0, [(.string o.name), o.rv, o.dv, o.cv]⟩, ⟨ptr A2 0 3, 0, [sv, (.int .u64 r.cpl), (.int .u64 r.off)]⟩, ⟨.map (some M1), 0, KC kvs⟩, ⟨ptr A3 0 1, 0, [(.map (some M1))]⟩, ⟨ptr A4 0 1, 0, [qv]⟩, ⟨qv, 2, pr (oC o r.cpl (first.take i))⟩, ⟨ov, 2, pr ((first.take i).filter fun c => !r.off.testBit c.1.toNat)⟩]) first.length ?_ ?_
 ·simp (disch := omega) only [RB, RC, simprocAttr, hn]
  refine ⟨0, [], .slice none 0 0, .slice none 0 0, ⟨by omega, fun t => ?_⟩, rfl, rfl, hS8⟩
  simp [wI, a2g, oC]
 rintro n l H7 ⟨hn, g4, g6, g8, mB, g16, g17, i, kvs, qv, ov, ⟨hi,hk⟩, g18, g9, hS9⟩
 simp (disch := omega) only [↓RA, RB, simprocAttr, hn, g17, g18]
 refine iA (fun q1 => ?_) (fun q1 => ?_)
 ·have hci := (tL o _).1 (hfo _ (iD (xs := first) (j := i) (by omega)))
  have hqu := qJ o r.cpl (first.take i)
  have hqs := a5Q o r.cpl first i (by omega)
  have hql := (qJ o r.cpl (first.take (i + 1))).len hf
  simp (disch := omega) only [↓RA, RZ, simprocAttr, hn, g16, g18, (hS9.sl hfi).idx, (hS9.sl hfi).ai, kA, q1]
  refine hS9.eNew 2 [I 0, I 0] rfl rfl rfl rC fun A5 H8 hS10 => ?_
  simp only [RT] at hS10
  simp (disch := omega) only [↓RA, RZ, simprocAttr, hn, q1]
  refine hS10.ab 7 rfl [I (iB first i).1, I (iB first i).2] rfl rfl rC (by simp) fun H9 hS11 => ?_
  simp only [RT] at hS11
  simp (disch := omega) only [↓RA, RZ, simprocAttr, hn, mB, hS11.ai 7 rfl, q1]
  have hM1 := hS11.pick (os' := [⟨.map (some M1), 0, _⟩, ⟨ptr A4 0 1, 0, _⟩, ⟨qv, 2, _⟩]) [2, 4, 5] (by decide) rfl
  have hR1 := hS11.pick (os' := [⟨.map (some M1), 0, _⟩, ⟨ptr A4 0 1, 0, _⟩, ⟨qv, 2, _⟩, ⟨ptr A1 0 4, 0, _⟩, ⟨ptr A2 0 3, 0, _⟩, ⟨ptr A3 0 1, 0, _⟩, ⟨ov, 2, _⟩, ⟨ptr A5 0 2, 0, _⟩]) [2, 4, 5, 0, 1, 3, 6, 7] (by decide) rfl
  refine iF (b2K o r sv (iB first i) A1 A2 A3 A4 M1 qv (oC o r.cpl (first.take i)) kvs hM1.aF (fun h => ⟨(hR1.frame h.forget).var 0 rfl, ho.ae (hR1.frame h.forget), (hR1.frame h.forget).var 1 rfl, (hR1.frame h.forget).var 2 rfl⟩) hk hqu hf hr.2) ?_
  rintro r H10 ⟨kvs', qv', rfl, hk', hT1⟩
  have hS12 := hR1.frame hT1
  simp only [RT] at hS12
  have e1 := a7w r.off (iB first i).1.toNat hr.2.2.2.2
  have e2 := b1G (r.off >>> (iB first i).1.toNat) (a4L _ hr.2.2.2.2)
  have e3 := tb r.off (iB first i).1.toNat
  have htk := mF first i (by omega)
  have hfl : (pr ((first.take i).filter fun c => !r.off.testBit c.1.toNat)).length ≤ i * 2 := by
   rw [iK]
   refine dP 2 ?_
   refine dJ (ey _ _) ?_
   simp
   omega
  rw [← hqs] at hk'
  simp (disch := omega) only [↓RA, RZ, simprocAttr, hn, g4, hS12.ld 4 rfl, hS12.ld 7 rfl, q1, e1, e2]
  refine iA (fun q2 => ?_) (fun q2 => ?_)
  ·have hx : ([iB first i].filter fun c => !r.off.testBit c.1.toNat) = [iB first i] := by simp [e3, decide_eq_false (show ¬ r.off >>> (iB first i).1.toNat % 2 = 1 by omega)]
   simp (disch := omega) only [↓RA, RZ, simprocAttr, hn, g9, hS12.ai 7 rfl, q1, q2]
   refine hS12.ag [I (iB first i).1, I (iB first i).2] a1c a8N rfl rfl (by simp [Value.cells]) rfl rfl (by decide) (by decide) fun w1 H11 hS13 => ?_
   simp only [RT] at hS13
   simp (disch := omega) only [↓RA, RZ, simprocAttr, hn, q1, q2]
   refine hS13.ar 6 rfl (hS13.rd 8 rfl) a1c (by first | (simp; done) | (simp; omega)) fun w2 H12 hS14 => ?_
   simp only [RT] at hS14
   simp (disch := omega) only [↓RA, RZ, simprocAttr, hn, g4, g6, g8, mB, g16, g17, g18, q1, q2]
   refine ⟨n - 1, by omega, i + 1, kvs', qv', w2, ⟨by omega, hk'⟩, by simp, rfl, ?_⟩
   rw [hqs, htk, fb, hx, kG]
   exact hS14.pick [3, 4, 0, 5, 1, 2, 6] (by decide) rfl
  have hx : ([iB first i].filter fun c => !r.off.testBit c.1.toNat) = [] := by simp [e3, decide_eq_true (show r.off >>> (iB first i).1.toNat % 2 = 1 by omega)]
  simp (disch := omega) only [↓RA, RZ, simprocAttr, hn, g4, g6, g8, mB, g16, g17, g18, g9, q1, q2]
  refine ⟨n - 1, by omega, i + 1, kvs', qv', ov, ⟨by omega, hk'⟩, by simp, rfl, ?_⟩
  rw [hqs, htk, fb, hx, dG]
  exact hS12.pick [3, 4, 0, 5, 1, 2, 6] (by decide) rfl
 simp (disch := omega) only [↓RA, RZ, simprocAttr, q1]
 have hii : i = first.length := by omega
 subst hii
 rw [eJ] at hk
 rw [eJ] at hS9
 have hqu := qJ o r.cpl first
 have hoL : (pr (first.filter fun c => !r.off.testBit c.1.toNat)).length ≤ 2048 := by
  rw [iK]
  exact dP 2 (dJ (ey _ _) hfl)
 refine Wp.al (fun n l H' => l.length = 56 ∧ get l 6 = (.slice none 0 0) ∧ get l 8 = (ptr A4 0 1) ∧ get l 9 = ov ∧ get l 10 = (.func (.func 111) #[] #[(ptr A1 0 4), (ptr A2 0 3), (ptr A3 0 1), (ptr A4 0 1)]) ∧ ∃ (j : Nat) (kvs : List (Ct × Bool)) (qv : Value) (q : List Ct), (n + j = 1100 ∧ bfs o r.cpl n j q = bfs o r.cpl 1100 0 (oC o r.cpl first) ∧ Que o q ∧ ∀ t, wI kvs t = true ↔ t ∈ q) ∧ get l 13 = I j ∧ St prog H H' [⟨ptr A1 0 4, 0, [(.string o.name), o.rv, o.dv, o.cv]⟩, ⟨ptr A2 0 3, 0, [sv, (.int .u64 r.cpl), (.int .u64 r.off)]⟩, ⟨.map (some M1), 0, KC kvs⟩, ⟨ptr A3 0 1, 0, [(.map (some M1))]⟩, ⟨ptr A4 0 1, 0, [qv]⟩, ⟨qv, 2, pr q⟩, ⟨ov, 2, pr (first.filter fun c => !r.off.testBit c.1.toNat)⟩]) 1100 ?_ ?_
 ·simp (disch := omega) only [RB, RC, simprocAttr, hn, g6, g8, mB, g9]
  exact ⟨0, kvs, qv, _, ⟨rfl, rfl, hqu, hk⟩, rfl, hS9⟩
 rintro n l H13 ⟨hn, g6, g8, g9, mB, j, kvs, qv, q, ⟨hj,hbf,hqq,hkk⟩, g13, hS15⟩
 have hql := hqq.len hf
 simp (disch := omega) only [↓RA, RZ, simprocAttr, hn, g8, g13, hS15.ld 4 rfl, (hS15.aw 5 rfl (fun _ => rfl)).len]
 refine iA (fun q3 => ?_) (fun q3 => ?_)
 ·have hjl : j < q.length := by omega
  simp (disch := omega) only [↓RA, RZ, simprocAttr, hn, g8, mB, g13, hS15.ld 4 rfl, (hS15.aw 5 rfl (fun _ => rfl)).idx, (hS15.aw 5 rfl (fun _ => rfl)).ai, kA, q3]
  have hM2 := hS15.pick (os' := [⟨.map (some M1), 0, _⟩, ⟨ptr A4 0 1, 0, _⟩, ⟨qv, 2, _⟩]) [2, 4, 5] (by decide) rfl
  have hR2 := hS15.pick (os' := [⟨.map (some M1), 0, _⟩, ⟨ptr A4 0 1, 0, _⟩, ⟨qv, 2, _⟩, ⟨ptr A1 0 4, 0, _⟩, ⟨ptr A2 0 3, 0, _⟩, ⟨ptr A3 0 1, 0, _⟩, ⟨ov, 2, _⟩]) [2, 4, 5, 0, 1, 3, 6] (by decide) rfl
  refine iF (b2v o r sv (iB q j) A1 A2 A3 A4 M1 qv q kvs hM2.aF (fun h => ⟨(hR2.frame h.forget).var 0 rfl, ho.ae (hR2.frame h.forget), (hR2.frame h.forget).var 1 rfl, (hR2.frame h.forget).var 2 rfl⟩) hkk hqq hf hr.2) ?_
  rintro r H14 ⟨kvs', qv', rfl, hk', hT2⟩
  have hS16 := hR2.frame hT2
  simp only [RT] at hS16
  simp (disch := omega) only [↓RA, RZ, simprocAttr, hn, g6, g8, g9, mB, g13, q3]
  obtain ⟨n', rfl⟩ : ∃ n', n = n' + 1 := ⟨n - 1, by omega⟩
  rw [bfs, if_pos hjl] at hbf
  exact ⟨n', by omega, j + 1, kvs', qv', _, ⟨by omega, hbf, hqq.stepF _ _ _, hk'⟩, by simp, hS16.pick [3, 4, 0, 5, 1, 2, 6] (by decide) rfl⟩
 have hbq : bfs o r.cpl 1100 0 (oC o r.cpl first) = q := by
  rw [← hbf]
  cases n with
  | zero => rfl
  | succ n => rw [bfs, if_neg (by omega)]
 have hqp : (pr q).length ≤ 2048 := by rw [iK]; omega
 simp (disch := omega) only [↓RA, RZ, simprocAttr, hn, g8, g9, hS15.ld 4 rfl, q3]
 refine hS15.ar 6 rfl (hS15.rd 5 rfl) a1c (by first | (simp; done) | (simp; omega)) fun w3 H15 hS17 => ?_
 simp only [RT] at hS17
 simp (disch := omega) only [↓RA, RZ, simprocAttr, hn, q3]
 rw [← kG, ← hbq] at hS17
 have hLL : ((first.filter fun c => !r.off.testBit c.1.toNat) ++ bfs o r.cpl 1100 0 (oC o r.cpl first)).length < 1000000 := by
  have h1 := ey (fun c : Ct => !r.off.testBit c.1.toNat) first
  rw [dw, hbq]
  omega
 refine c4D hS17 6 rfl (gZ hLL (by decide)) fun HS hSS => ?_
 simp only [List.set_cons_succ, fS] at hSS
 simp (disch := omega) only [↓RA, RZ, simprocAttr, hn, q3]
 have hM3 := hSS.pick (os' := [⟨w3, 2, _⟩]) [6] (by decide) rfl
 have hR3 := hSS.pick (os' := [⟨w3, 2, _⟩, ⟨ptr A1 0 4, 0, _⟩, ⟨ptr A2 0 3, 0, _⟩, ⟨.map (some M1), 0, _⟩, ⟨ptr A3 0 1, 0, _⟩, ⟨ptr A4 0 1, 0, _⟩, ⟨qv, 2, _⟩]) [6, 0, 1, 2, 3, 4, 5] (by decide) rfl
 refine iF (a7g hM3.aF (by rw [oW]; exact gZ hLL (by decide))) ?_
 rintro r H16 ⟨rest, hb, hrd, hT3⟩
 have hS18 := hR3.frame hT3
 simp only [RT] at hS18
 have hrr := hrd _ (hS18.rd 0 rfl)
 have hrc := hrr.cells
 simp (disch := omega) only [↓RA, RZ, simprocAttr, hn, c5S, q3]
 refine ⟨⟨⟨hrr, jU, by decide⟩, fun b h => ?_⟩, hS18.forget⟩
 rcases hS18.new _ (eH ..) b (hb b h) with h | h
 ·exact h
 ·exact h.elim
theorem b5U {α : Type} [Inhabited α] [DecidableEq α] (l : List α) : (dd l).length ≤ l.length := c1N l l.length
theorem a3X (rs : List Rk) (s : Stp) (key : Int) (h : ∀ g ∈ s.segs, g.draws.length ≤ 8) : (qC rs s key).length ≤ 8 := by
 unfold qC
 refine dJ (b5U _) ?_
 rw [oW, ed]
 refine dJ (ey _ _) ?_
 unfold a9k
 split
 ·simp
 ·exact h _ (iD (a5o (p := a8r s key) (n := s.segs.length) (by omega)))
def oG (o : Org) (rg : Reg) (c : Ct) (k : Nat) : List Ct := (List.range k).flatMap fun i => if (iB rg.stops c.1.toNat).testBit i then qC o.ranks (iB (iB o.dvs c.1.toNat).stops i) c.2 else []
theorem a0D (o : Org) (rg : Reg) (c : Ct) (k : Nat) : oG o rg c (k + 1) = oG o rg c k ++ (if (iB rg.stops c.1.toNat).testBit k then qC o.ranks (iB (iB o.dvs c.1.toNat).stops k) c.2 else []) := by
 unfold oG
 rw [eO, dM, dR, fQ, dG]
theorem zW {o : Org} (hf : o.Fine) (rg : Reg) {c : Ct} (hc : qN o c = true) : ∀ k, k ≤ (iB o.dvs c.1.toNat).stops.length → (oG o rg c k).length ≤ k * 8
 | 0, _ => by simp [oG]
 | k + 1, hk => by
   have h := zW hf rg hc k (by omega)
   have hc := (tL o c).1 hc
   rw [a0D, dw]
   split
   ·have := a3X o.ranks (iB (iB o.dvs c.1.toNat).stops k) c.2 (hf.draws c.1.toNat (by omega) _ (iD (by omega)))
    omega
   ·simp
    omega
theorem b2r {o : Org} (hf : o.Fine) (rg : Reg) {c : Ct} (hc : qN o c = true) : (nW o rg c).length ≤ 480 := by
 have h := zW hf rg hc _ (dq _)
 have h1 := (tL o c).1 hc
 have := hf.stops c.1.toNat (by omega)
 have e : nW o rg c = oG o rg c (iB o.dvs c.1.toNat).stops.length := rfl
 rw [e]
 omega
theorem uX {o : Org} (hf : o.Fine) (rg : Reg) : ∀ (l : List Ct), (∀ c ∈ l, qN o c = true) → (l.flatMap (nW o rg)).length ≤ l.length * 480
 | [], _ => by simp
 | c :: l, h => by
   rw [dR, dw, dz]
   have h1 := uX hf rg l fun x hx => h x (by simp [hx])
   have h2 := b2r hf rg (h c (by simp))
   omega
theorem a4t (o : Org) (ho : o.In H) (hf : o.Fine) (rg : Reg) (sv : Value) (hr : rg.In H sv) (hrl : rg.stops.length = o.dvs.length) (fv : Value) (cs : List Ct) (hfi : Sl 2 kA H fv cs) (hfl : cs.length ≤ 2048) (hfo : ∀ c ∈ cs, qN o c = true) :
 Fn prog 65 [.agg #[.string o.name, o.rv, o.dv, o.cv], .agg #[sv, .int .u64 rg.cpl, .int .u64 rg.off], fv] H fun rr H' => ∃ (gv : Value) (rest : List Value), rr = mK gv 2 0 (wV o rg cs).length ∧ St prog H H' [⟨gv, 2, pr (wV o rg cs) ++ rest⟩] := by
 refine .bl func65 rfl (by kernel_rfl) (m := 55) rfl fun l hn g0 g1 g2 => ?_
 simp (disch := omega) only [↓RA, RB, simprocAttr, g0]
 refine (sR H).eNew 4 [(.string o.name), o.rv, o.dv, o.cv] rfl rfl (by simp [OC, ((sR H).sl ho.1).cells.2.1, ((sR H).sl ho.2.2.1).cells.2.1, ((sR H).sl ho.2.2.2.2.1).cells.2.1]) mD fun A1 H1 hS1 => ?_
 simp only [RT] at hS1
 simp (disch := omega) only [↓RA, RB, simprocAttr, g1]
 refine hS1.eNew 3 [sv, (.int .u64 rg.cpl), (.int .u64 rg.off)] rfl rfl (by simp [OC, (hS1.sl hr.1).cells.2.1]) pG fun A2 H2 hS2 => ?_
 simp only [RT] at hS2
 simp (disch := omega) only [↓RA, RZ, simprocAttr, hn, g2, (hS2.sl hfi).len]
 have hS3 := hS2.nil 1
 simp only [RT] at hS3
 refine Wp.al (fun n l H' => l.length = 55 ∧ get l 3 = (ptr A1 0 4) ∧ get l 4 = (ptr A2 0 3) ∧ get l 6 = (.slice none 0 0) ∧ get l 12 = fv ∧ get l 13 = I cs.length ∧ ∃ (i : Nat) (ov : Value), (n + i = cs.length) ∧ get l 14 = I i ∧ get l 7 = ov ∧ St prog H H' [⟨ptr A1 0 4, 0, [(.string o.name), o.rv, o.dv, o.cv]⟩, ⟨ptr A2 0 3, 0, [sv, (.int .u64 rg.cpl), (.int .u64 rg.off)]⟩, ⟨ov, 2, pr ((cs.take i).flatMap (nW o rg))⟩]) cs.length ?_ ?_
 ·simp (disch := omega) only [RB, RC, simprocAttr, hn]
  exact ⟨0, .slice none 0 0, by omega, rfl, rfl, hS3⟩
 rintro n l H3 ⟨hn, g3, g4, g6, g12, g13, i, ov, hi, g14, g7, hS4⟩
 simp (disch := omega) only [↓RA, RB, simprocAttr, hn, g13, g14]
 refine iA (fun q1 => ?_) (fun q1 => ?_)
 ·have hci := (tL o _).1 (hfo _ (iD (xs := cs) (j := i) (by omega)))
  obtain ⟨a, ha⟩ : ∃ a : Nat, (iB cs i).1 = a := ⟨(iB cs i).1.toNat, by omega⟩
  have ha1 : a < o.dvs.length := by omega
  have hst := (ho.2.2.2.1 _ (iD ha1)).2.2
  have hs60 := hf.stops a ha1
  simp (disch := omega) only [↓RA, RZ, simprocAttr, hn, g12, g14, (hS4.sl hfi).idx, (hS4.sl hfi).ai, kA, q1]
  refine hS4.eNew 2 [I 0, I 0] rfl rfl rfl rC fun A3 H4 hS5 => ?_
  simp only [RT] at hS5
  simp (disch := omega) only [↓RA, RZ, simprocAttr, hn, q1]
  refine hS5.ab 3 rfl [I (iB cs i).1, I (iB cs i).2] rfl rfl rC (by simp) fun H5 hS6 => ?_
  simp only [RT] at hS6
  simp (disch := omega) only [↓RA, RZ, simprocAttr, hn, g3, q1]
  simp only [ha] at hS6
  simp (disch := omega) only [↓RA, RZ, simprocAttr, hn, hS6.ld 0 rfl, hS6.ld 3 rfl, (hS6.sl ho.2.2.1).idx, (hS6.sl ho.2.2.1).bz, (hS6.sl ho.2.2.1).ld, Dvn.cells, (hS6.sl (ho.2.2.2.1 (iB o.dvs a) (iD (by omega))).1).len, q1, ha]
  have hta : (iB cs i).1.toNat = a := by omega
  have htk := mF cs i (by omega)
  have hsx := hr.2.2.1 _ (iD (xs := rg.stops) (j := a) (by omega))
  have hacc : (pr ((cs.take i).flatMap (nW o rg))).length ≤ 2048 * 960 := by
   rw [iK]
   have := uX hf rg (cs.take i) fun c hc => hfo c (gB hc)
   rw [gj] at this
   omega
  refine Wp.al (fun n l H' => l.length = 55 ∧ get l 3 = (ptr A1 0 4) ∧ get l 4 = (ptr A2 0 3) ∧ get l 6 = (.slice none 0 0) ∧ get l 9 = (ptr A3 0 2) ∧ get l 12 = fv ∧ get l 13 = I cs.length ∧ get l 14 = I i ∧ get l 24 = (iB o.dvs a).sv ∧ get l 25 = I (iB o.dvs a).stops.length ∧ ∃ (k : Nat) (ow : Value), (n + k = (iB o.dvs a).stops.length) ∧ get l 26 = I k ∧ get l 7 = ow ∧ St prog H H' [⟨ptr A1 0 4, 0, [(.string o.name), o.rv, o.dv, o.cv]⟩, ⟨ptr A2 0 3, 0, [sv, (.int .u64 rg.cpl), (.int .u64 rg.off)]⟩, ⟨ow, 2, pr ((cs.take i).flatMap (nW o rg) ++ oG o rg (iB cs i) k)⟩, ⟨ptr A3 0 2, 0, [I a, I (iB cs i).2]⟩]) (iB o.dvs a).stops.length ?_ ?_
  ·simp (disch := omega) only [RB, RC, simprocAttr, hn, g3, g4, g6, g12, g13, g14, g7]
   refine ⟨0, ov, by omega, rfl, rfl, ?_⟩
   rw [show oG o rg (iB cs i) 0 = [] from rfl, dG]
   exact hS6
  rintro n l H6 ⟨hn, g3, g4, g6, g9, g12, g13, g14, g24, g25, k, ow, hj, g26, g7, hS7⟩
  simp (disch := omega) only [↓RA, RB, simprocAttr, hn, g25, g26]
  refine iA (fun q2 => ?_) (fun q2 => ?_)
  ·have e1 := a7w (iB rg.stops a) k hsx
   have e2 := b1G (iB rg.stops a >>> k) (a4L k hsx)
   have e3 := tb (iB rg.stops a) k
   have hsu := a0D o rg (iB cs i) k
   rw [hta] at hsu
   have hKl := zW hf rg (hfo _ (iD (xs := cs) (j := i) (by omega))) k (by rw [hta]; omega)
   have hKp : (pr (oG o rg (iB cs i) k)).length ≤ 2000 := by rw [iK]; omega
   simp (disch := omega) only [↓RA, RZ, simprocAttr, hn, g24, g26, (hS7.sl (ho.2.2.2.1 (iB o.dvs a) (iD (by omega))).1).idx, (hS7.sl (ho.2.2.2.1 (iB o.dvs a) (iD (by omega))).1).ai, Stp.cells, q2]
   refine hS7.eNew 4 [(.string ⟨#[]⟩), I 0, I 0, (.slice none 0 0)] rfl rfl rfl mR fun A4 H7 hS8 => ?_
   simp only [RT] at hS8
   simp (disch := omega) only [↓RA, RZ, simprocAttr, hn, q2]
   refine hS8.ab 4 rfl [(.string (iB (iB o.dvs a).stops k).name), I (iB (iB o.dvs a).stops k).num, I (iB (iB o.dvs a).stops k).den, (iB (iB o.dvs a).stops k).gv] rfl (by simp [OC, (hS8.sl ((ho.2.2.2.1 (iB o.dvs a) (iD (by omega))).2.1 (iB (iB o.dvs a).stops k) (iD (by omega))).1).cells.2.1]) mR (by simp) fun H8 hS9 => ?_
   simp only [RT] at hS9
   simp (disch := omega) only [↓RA, RZ, simprocAttr, hn, g4, g9, hS9.ld 1 rfl, hS9.ld 3 rfl, (hS9.sl hr.1).idx, (hS9.sl hr.1).ld, one, u64, q2, e1, e2]
   refine iA (fun q3 => ?_) (fun q3 => ?_)
   ·have hsu : oG o rg (iB cs i) (k + 1) = oG o rg (iB cs i) k ++ qC o.ranks (iB (iB o.dvs a).stops k) (iB cs i).2 := by rw [hsu, e3, if_pos (decide_eq_true (by omega))]
    have hpp : (pr (qC o.ranks (iB (iB o.dvs a).stops k) (iB cs i).2)).length ≤ 16 := by
     rw [iK]
     exact dP 2 (a3X _ _ _ (hf.draws a ha1 _ (iD (by omega))))
    simp (disch := omega) only [↓RA, RZ, simprocAttr, hn, g3, g9, g7, hS9.ld 0 rfl, hS9.ai 4 rfl, hS9.ld 3 rfl, q2, q3]
    refine iF (b6Q o.rv o.ranks (hS9.sl ho.1) (fun q hq => (ho.2.1 q hq).ae hS9) ho.2.2.2.2.2.1 (iB (iB o.dvs a).stops k) (((ho.2.2.2.1 _ (iD ha1)).2.1 _ (iD (by omega))).ae hS9) (hf.draws a ha1 _ (iD (by omega))) (iB cs i).2) ?_
    rintro r H9 ⟨hx, hT1⟩
    have hS10 := hS9.trans hT1
    simp only [RT] at hS10
    simp (disch := omega) only [↓RA, RZ, simprocAttr, hn, q2, q3]
    refine hS10.ar 2 rfl hx.1.rd b3y (by have h := hpp; unfold pr at h; rw [kG, dw]; omega) fun w1 H10 hS11 => ?_
    simp only [RT] at hS11
    simp (disch := omega) only [↓RA, RZ, simprocAttr, hn, g3, g4, g6, g9, g12, g13, g14, g24, g25, g26, q2, q3]
    refine ⟨n - 1, by omega, k + 1, w1, by omega, by simp, rfl, ?_⟩
    rw [hsu, ← eR, kG]
    exact hS11.pick [0, 1, 2, 3] (by decide) rfl
   have hsu : oG o rg (iB cs i) (k + 1) = oG o rg (iB cs i) k := by rw [hsu, e3, if_neg (by rw [decide_eq_true_iff]; omega), dG]
   simp (disch := omega) only [↓RA, RZ, simprocAttr, hn, g3, g4, g6, g9, g12, g13, g14, g24, g25, g26, g7, q2, q3]
   refine ⟨n - 1, by omega, k + 1, ow, by omega, by simp, rfl, ?_⟩
   rw [hsu]
   exact hS9.pick [0, 1, 2, 3] (by decide) rfl
  simp (disch := omega) only [↓RA, RZ, simprocAttr, hn, g3, g4, g6, g12, g13, g14, g7, q2]
  refine ⟨cs.length - (i + 1), by omega, i + 1, ow, by omega, by simp, rfl, ?_⟩
  have hkk : k = (iB o.dvs a).stops.length := by omega
  rw [htk, dM, dR, fQ, dG]
  have e : nW o rg (iB cs i) = oG o rg (iB cs i) k := by rw [hkk, ← hta]; rfl
  rw [e]
  exact hS7.pick [0, 1, 2] (by decide) rfl
 simp (disch := omega) only [↓RA, RZ, simprocAttr, hn, g7, q1]
 have hii : i = cs.length := by omega
 subst hii
 rw [eJ] at hS4
 have hLL : (cs.flatMap (nW o rg)).length < 1000000 := by
  have := uX hf rg cs hfo
  omega
 refine c3B hS4 2 rfl (gZ hLL (by decide)) fun HS hSS => ?_
 simp only [List.set_cons_succ, fS] at hSS
 simp (disch := omega) only [↓RA, RZ, simprocAttr, hn, g7, q1]
 have hM1 := hSS.pick (os' := [⟨ov, 2, _⟩]) [2] (by decide) rfl
 have hR1 := hSS.pick (os' := [⟨ov, 2, _⟩, ⟨ptr A1 0 4, 0, _⟩, ⟨ptr A2 0 3, 0, _⟩]) [2, 0, 1] (by decide) rfl
 refine iF (yT hM1.aF (by rw [oW]; exact gZ hLL (by decide))) ?_
 rintro r H11 ⟨rest, rfl, hT2⟩
 have hS12 := hR1.frame hT2
 simp only [RT] at hS12
 obtain ⟨rc, hrcE⟩ : ∃ w, w = mK ov 2 0 (dd (uV (cs.flatMap (nW o rg)))).length := ⟨_, rfl⟩
 have hrr : RdAt H11 rc 2 (pr (dd (uV (cs.flatMap (nW o rg))))) := hrcE ▸ xO (hS12.rd 0 rfl)
 have hrc := hrr.cells
 rw [← hrcE]
 simp (disch := omega) only [↓RA, RZ, simprocAttr, hn, c6j, q1]
 exact ⟨ov, rest, hrcE, hS12.pick [0] (by decide) rfl⟩
theorem b4G (o : Org) (ho : o.In H) (hf : o.Fine) (rg : Reg) (sv : Value) (hr : rg.In H sv) (hrl : rg.stops.length = o.dvs.length) (fv : Value) (cs : List Ct) (hfi : Sl 2 kA H fv cs) (hfl : cs.length ≤ 2048) (hfo : ∀ c ∈ cs, qN o c = true) :
 Fn prog 65 [.agg #[.string o.name, o.rv, o.dv, o.cv], .agg #[sv, .int .u64 rg.cpl, .int .u64 rg.off], fv] H fun rr H' => Slx 2 kA H' (fun B => H.length ≤ B) rr (wV o rg cs) ∧ St prog H H' [] :=
 (a4t o ho hf rg sv hr hrl fv cs hfi hfl hfo).mono fun _ _ ⟨_, _, e, h⟩ => ⟨e ▸ yW h, h.forget⟩
end Go.Ds
namespace Go.Ds
open Go.Proofs Go.Proofs.Tryz
variable {H : Heap}
set_option maxRecDepth 10000
theorem Sl.aZ {α : Type} {n : Nat} {cel : α → List Value} {v : Value} {xs : List α} (h : Sl n cel H v xs) : jJ v = true := by
 rcases h.rd with ⟨rfl, _⟩ | ⟨A, i, e, row, ty, rw, lo, ver, n, _, _, _, _, _, _, rfl⟩ <;> rfl
theorem c2T {α : Type} [Inhabited α] [DecidableEq α] {l : List α} {x : α} (h : x ∈ dd l) : x ∈ l := by
 unfold dd xP at h
 obtain ⟨i, hi, rfl⟩ := dK.1 h
 exact iD (dH.1 (fB.1 hi).1)
theorem b9H {l : List (Int × Int)} {x : Int × Int} : x ∈ uV l ↔ x ∈ l := (oB l).mem_iff
theorem Que.bfs {o : Org} (cp : Nat) : ∀ (n i : Nat) {q : List Ct}, Que o q → Que o (bfs o cp n i q)
 | 0, _, _, h => h
 | n + 1, i, q, h => by
   rw [Go.Ds.bfs]
   split
   ·exact Que.bfs cp n (i + 1) (h.stepF cp true _)
   ·exact h
theorem wS {o : Org} {rg : Reg} {l : List Ct} (hl : ∀ c ∈ l, qN o c = true) : ∀ c ∈ oH o rg l, qN o c = true := by
 intro c hc
 unfold oH at hc
 have hc := b9H.1 (c2T hc)
 rcases dN.1 hc with h | h
 ·exact hl c (fB.1 h).1
 ·exact ((qJ o rg.cpl l).bfs rg.cpl 1100 0).2 c h
theorem a2s {o : Org} (hf : o.Fine) {rg : Reg} {l : List Ct} (hl : l.length ≤ 1024) : (oH o rg l).length ≤ 2048 := by
 unfold oH
 refine dJ (b5U _) ?_
 rw [oW, dw]
 have h1 := ey (fun c : Ct => !rg.off.testBit c.1.toNat) l
 have h2 := ((qJ o rg.cpl l).bfs rg.cpl 1100 0).len hf
 omega
theorem xZ (o : Org) (ho : o.In H) (hf : o.Fine) (rg : Reg) (sv : Value) (hr : rg.In H sv) (hrl : rg.stops.length = o.dvs.length) (fv : Value) (cs : List Ct) (hfi : Sl 2 kA H fv cs) (hfl : cs.length ≤ 1024) (hfo : ∀ c ∈ cs, qN o c = true) :
 Fn prog 52 [.agg #[.string o.name, o.rv, o.dv, o.cv], .agg #[sv, .int .u64 rg.cpl, .int .u64 rg.off], fv] H fun rr H' => ∃ (gv : Value) (rest : List Value), rr = mK gv 2 0 (kU o rg cs).length ∧ St prog H H' [⟨gv, 2, pr (kU o rg cs) ++ rest⟩] := by
 refine .bl func52 rfl (by kernel_rfl) (m := 14) rfl fun l hn g0 g1 g2 => ?_
 simp (disch := omega) only [↓RA, RB, simprocAttr, g0]
 refine (sR H).eNew 4 [(.string o.name), o.rv, o.dv, o.cv] rfl rfl (by simp [OC, ((sR H).sl ho.1).cells.2.1, ((sR H).sl ho.2.2.1).cells.2.1, ((sR H).sl ho.2.2.2.2.1).cells.2.1]) mD fun A1 H1 hS1 => ?_
 simp only [RT] at hS1
 simp (disch := omega) only [↓RA, RB, simprocAttr, g1]
 refine hS1.eNew 3 [sv, (.int .u64 rg.cpl), (.int .u64 rg.off)] rfl rfl (by simp [OC, (hS1.sl hr.1).cells.2.1]) pG fun A2 H2 hS2 => ?_
 simp only [RT] at hS2
 simp (disch := omega) only [↓RA, RB, simprocAttr]
 refine Wp.aQ jV [(0, 6), (1, 6)] (by kernel_rfl) (by kernel_rfl) ?_
 simp (disch := omega) only [↓RA, RZ, simprocAttr, hn, g2, hS2.ai 0 rfl, hS2.ai 1 rfl]
 refine iF (a0S o (ho.ae hS2) hf rg sv (hr.ae hS2) fv cs (hS2.sl hfi) hfl hfo) ?_
 rintro r H3 ⟨hx, hT1⟩
 have hS3 := hS2.trans hT1
 simp only [RT] at hS3
 simp (disch := omega) only [↓RA, RZ, simprocAttr, hn]
 refine iF (a4t o (ho.ae hS3) hf rg sv (hr.ae hS3) hrl r (oH o rg cs) hx.1 (a2s hf hfl) (wS hfo)) ?_
 rintro r H4 ⟨gv, rest, he2, hT2⟩
 have hS4 := hS3.trans hT2
 simp only [RT] at hS4
 have hx2 : Slx 2 kA H4 (fun B => H.length ≤ B) r (kU o rg cs) := he2 ▸ yW (hS4.pick [2] (by decide) rfl)
 simp (disch := omega) only [↓RA, RZ, simprocAttr, hn, hS3.ai 0 rfl, hS3.ai 1 rfl, c6v]
 exact ⟨gv, rest, he2, hS4.pick [2] (by decide) rfl⟩
theorem uA (o : Org) (ho : o.In H) (hf : o.Fine) (rg : Reg) (sv : Value) (hr : rg.In H sv) (hrl : rg.stops.length = o.dvs.length) (fv : Value) (cs : List Ct) (hfi : Sl 2 kA H fv cs) (hfl : cs.length ≤ 1024) (hfo : ∀ c ∈ cs, qN o c = true) :
 Fn prog 52 [.agg #[.string o.name, o.rv, o.dv, o.cv], .agg #[sv, .int .u64 rg.cpl, .int .u64 rg.off], fv] H fun rr H' => Slx 2 kA H' (fun B => H.length ≤ B) rr (kU o rg cs) ∧ St prog H H' [] :=
 (xZ o ho hf rg sv hr hrl fv cs hfi hfl hfo).mono fun _ _ ⟨_, _, e, h⟩ => ⟨e ▸ yW h, h.forget⟩
def rgc (p : Value × Reg) : List Value := [p.1, .int .u64 p.2.cpl, .int .u64 p.2.off]
def oE (o : Org) (l : List (Value × Reg)) : Int := if organE o ≠ 0 then organE o else lL (fun j => mZ o (iB l j).2) l.length
theorem a4e (o : Org) (ho : o.In H) (lv : Value) (xs : List (Value × Reg)) (hl : Sl 3 rgc H lv xs) (hle : xs.length < 1000000000) (hr : ∀ p ∈ xs, p.2.In H p.1) :
 Fn prog 100 [.agg #[.string o.name, o.rv, o.dv, o.cv], lv] H fun r H' => r = I (oE o xs) ∧ St prog H H' [] := by
 refine .aM func100 rfl (by kernel_rfl) (m := 27) rfl fun l hn g0 g1 => ?_
 simp (disch := omega) only [↓RA, RB, simprocAttr, g0]
 refine (sR H).eNew 4 [(.string o.name), o.rv, o.dv, o.cv] rfl rfl (by simp [OC, ((sR H).sl ho.1).cells.2.1, ((sR H).sl ho.2.2.1).cells.2.1, ((sR H).sl ho.2.2.2.2.1).cells.2.1]) mD fun A1 H1 hS1 => ?_
 simp only [RT] at hS1
 simp (disch := omega) only [↓RA, RZ, simprocAttr, hn, hS1.ai 0 rfl]
 refine hS1.cF (yL o (ho.ae hS1)) fun H2 hS2 => ?_
 simp (disch := omega) only [↓RA, RB, simprocAttr, hn]
 refine iA (fun h1 => ?_) (fun h1 => ?_)
 ·simp (disch := omega) only [↓RA, RZ, simprocAttr, hn, b6W, h1]
  exact ⟨by rw [oE, if_pos h1], hS2.forget⟩
 have hE : oE o xs = lL (fun j => mZ o (iB xs j).2) xs.length := by rw [oE, if_neg h1]
 simp (disch := omega) only [↓RA, RZ, simprocAttr, hn, g1, (hS2.sl hl).len, h1]
 refine Wp.al (fun n l H' => l.length = 27 ∧ get l 2 = (ptr A1 0 4) ∧ get l 14 = lv ∧ get l 15 = I xs.length ∧ ∃ (j : Nat), (n + j = xs.length ∧ ∀ q, q < j → mZ o (iB xs q).2 = 0) ∧ get l 16 = I j ∧ St prog H H' [⟨ptr A1 0 4, 0, [(.string o.name), o.rv, o.dv, o.cv]⟩]) xs.length ?_ ?_
 ·simp (disch := omega) only [RB, RC, simprocAttr, hn]
  exact ⟨0, ⟨by omega, fun q hq => absurd hq (dS _)⟩, rfl, hS2⟩
 rintro n l H3 ⟨hn, g2, g14, g15, j, ⟨hj,hz⟩, g16, hS3⟩
 simp (disch := omega) only [↓RA, RB, simprocAttr, hn, g15, g16]
 refine iA (fun q1 => ?_) (fun q1 => ?_)
 ·simp (disch := omega) only [↓RA, RZ, simprocAttr, hn, g14, g16, (hS3.sl hl).idx, (hS3.sl hl).ai, rgc, q1]
  refine hS3.eNew 3 [(.slice none 0 0), (.int .u64 0), (.int .u64 0)] rfl rfl rfl pG fun A2 H4 hS4 => ?_
  simp only [RT] at hS4
  simp (disch := omega) only [↓RA, RZ, simprocAttr, hn, q1]
  refine hS4.ab 1 rfl [(iB xs j).1, (.int .u64 (iB xs j).2.cpl), (.int .u64 (iB xs j).2.off)] rfl (by simp [OC, (hS4.sl (hr (iB xs j) (iD (by omega))).1).cells.2.1]) pG (by simp) fun H5 hS5 => ?_
  simp only [RT] at hS5
  simp (disch := omega) only [↓RA, RZ, simprocAttr, hn, g2, hS5.ai 0 rfl, hS5.ai 1 rfl, q1]
  refine hS5.cF (b6l o (ho.ae hS5) (iB xs j).2 (iB xs j).1 ((hr _ (iD (by omega))).ae hS5)) fun H6 hS6 => ?_
  simp (disch := omega) only [↓RA, RZ, simprocAttr, hn, q1]
  refine iA (fun q2 => ?_) (fun q2 => ?_)
  ·simp (disch := omega) only [↓RA, RZ, simprocAttr, hn, b6W, q1, q2]
   exact ⟨by rw [hE, nD (fun j => mZ o (iB xs j).2) xs.length j (by omega) q2 hz], hS6.forget⟩
  simp (disch := omega) only [↓RA, RZ, simprocAttr, hn, g2, g14, g15, g16, q1, q2]
  exact ⟨n - 1, by omega, j + 1, ⟨by omega, fun q hq => by rcases dB.1 hq with e | e; (· exact hz q e); (· rw [e]; exact dD.1 q2)⟩, by simp, hS6.pick [0] (by decide) rfl⟩
 simp (disch := omega) only [↓RA, RZ, simprocAttr, hn, b6W, q1]
 exact ⟨by rw [hE, kM (fun j => mZ o (iB xs j).2) xs.length fun q hq => hz q (by omega)], hS3.forget⟩
def xA (o : Org) (rg : Reg) (c : Ct) : Int := if mZ o rg ≠ 0 then mZ o rg else vP o c
theorem a0z (o : Org) (sv : Value) (rg : Reg) : oE o [(sv, rg)] = mZ o rg := by
 unfold oE
 split
 ·rename_i h
  unfold mZ
  rw [if_pos h]
 ·by_cases h : mZ o rg = 0
  ·rw [h]
   exact kM _ _ fun j hj => by
    have : j = 0 := by simpa using hj
    rw [this]
    exact h
  ·exact nD (fun j => mZ o (iB [(sv, rg)] j).2) 1 0 (by decide) h fun j hj => absurd hj (dS _)
theorem b5I (o : Org) (ho : o.In H) (rg : Reg) (sv : Value) (hr : rg.In H sv) (c : Ct) :
 Fn prog 64 [.agg #[.string o.name, o.rv, o.dv, o.cv], .agg #[sv, .int .u64 rg.cpl, .int .u64 rg.off], .agg #[I c.1, I c.2]] H fun r H' => r = I (xA o rg c) ∧ St prog H H' [] := by
 refine .bl func64 rfl (by kernel_rfl) (m := 18) rfl fun l hn g0 g1 g2 => ?_
 simp (disch := omega) only [↓RA, RB, simprocAttr, g0]
 refine (sR H).eNew 4 [(.string o.name), o.rv, o.dv, o.cv] rfl rfl (by simp [OC, ((sR H).sl ho.1).cells.2.1, ((sR H).sl ho.2.2.1).cells.2.1, ((sR H).sl ho.2.2.2.2.1).cells.2.1]) mD fun A1 H1 hS1 => ?_
 simp only [RT] at hS1
 simp (disch := omega) only [↓RA, RB, simprocAttr, g1]
 refine hS1.eNew 3 [sv, (.int .u64 rg.cpl), (.int .u64 rg.off)] rfl rfl (by simp [OC, (hS1.sl hr.1).cells.2.1]) pG fun A2 H2 hS2 => ?_
 simp only [RT] at hS2
 simp (disch := omega) only [↓RA, RB, simprocAttr, g2]
 refine hS2.eNew 2 [I c.1, I c.2] rfl rfl rfl rC fun A3 H3 hS3 => ?_
 simp only [RT] at hS3
 simp (disch := omega) only [↓RA, RZ, simprocAttr, hn, hS3.ai 0 rfl, hS3.ai 1 rfl]
 refine hS3.ag [sv, (.int .u64 rg.cpl), (.int .u64 rg.off)] a7o a6U rfl rfl (by first | (simp []; done) | simp [Value.cells]) (by first | (simp []; done) | simp [Value.cells]) (by simp [OC, (hS3.sl hr.1).cells.2.1]) (by decide) (by decide) fun w1 H4 hS4 => ?_
 simp only [RT] at hS4
 simp (disch := omega) only [↓RA, RZ, simprocAttr, hn]
 refine hS4.cF (a4e o (ho.ae hS4) w1 [(sv, rg)] (hS4.aw 3 rfl (fun _ => rfl)) (by simp) (by intro p hp; rw [dE.1 hp]; exact hr.ae hS4)) fun H5 hS5 => ?_
 have hsc := a0z o sv rg
 simp (disch := omega) only [↓RA, RB, simprocAttr, hn, hsc]
 refine iA (fun h1 => ?_) (fun h1 => ?_)
 ·simp (disch := omega) only [↓RA, RZ, simprocAttr, hn, c3U, hsc, h1]
  exact ⟨by rw [xA, if_pos h1], hS5.forget⟩
 simp (disch := omega) only [↓RA, RZ, simprocAttr, hn, hS5.ai 0 rfl, hS5.ai 2 rfl, hsc, h1]
 refine hS5.cF (wQ o (ho.ae hS5) c) fun H6 hS6 => ?_
 simp (disch := omega) only [↓RA, RZ, simprocAttr, hn, c3U, hsc, h1]
 exact ⟨by rw [xA, if_neg h1], hS6.forget⟩
def ofF (o : Org) (rg : Reg) (c : Ct) : List Ct := if xA o rg c = 0 then kU o rg [c] else []
theorem nJ {o : Org} {rg : Reg} (h : mZ o rg = 0) : organE o = 0 ∧ rg.stops.length = o.dvs.length := by
 unfold mZ at h
 split at h
 ·rename_i hh; exact absurd h hh
 rename_i h1
 split at h
 ·omega
 exact ⟨dD.1 h1, by omega⟩
theorem a3D {o : Org} {rg : Reg} {c : Ct} (h : xA o rg c = 0) : mZ o rg = 0 ∧ qN o c = true := by
 unfold xA at h
 split at h
 ·rename_i hh; exact absurd h hh
 ·rename_i hh
  exact ⟨dD.1 hh, (uI o c).1 h⟩
theorem c2s (o : Org) (ho : o.In H) (rg : Reg) (sv : Value) (hr : rg.In H sv) (c : Ct) :
 Fn prog 23 [.agg #[.string o.name, o.rv, o.dv, o.cv], .agg #[sv, .int .u64 rg.cpl, .int .u64 rg.off], .agg #[I c.1, I c.2]] H fun r H' => ∃ pv, r = .tuple #[pv, I (xA o rg c)] ∧ ∃ (gv : Value) (rest : List Value), pv = mK gv 2 0 (ofF o rg c).length ∧ St prog H H' [⟨gv, 2, pr (ofF o rg c) ++ rest⟩] := by
 refine .bl func23 rfl (by kernel_rfl) (m := 21) rfl fun l hn g0 g1 g2 => ?_
 simp (disch := omega) only [↓RA, RB, simprocAttr, g0]
 refine (sR H).eNew 4 [(.string o.name), o.rv, o.dv, o.cv] rfl rfl (by simp [OC, ((sR H).sl ho.1).cells.2.1, ((sR H).sl ho.2.2.1).cells.2.1, ((sR H).sl ho.2.2.2.2.1).cells.2.1]) mD fun A1 H1 hS1 => ?_
 simp only [RT] at hS1
 simp (disch := omega) only [↓RA, RB, simprocAttr, g1]
 refine hS1.eNew 3 [sv, (.int .u64 rg.cpl), (.int .u64 rg.off)] rfl rfl (by simp [OC, (hS1.sl hr.1).cells.2.1]) pG fun A2 H2 hS2 => ?_
 simp only [RT] at hS2
 simp (disch := omega) only [↓RA, RB, simprocAttr, g2]
 refine hS2.eNew 2 [I c.1, I c.2] rfl rfl rfl rC fun A3 H3 hS3 => ?_
 simp only [RT] at hS3
 simp (disch := omega) only [↓RA, RZ, simprocAttr, hn, hS3.ai 0 rfl, hS3.ai 1 rfl, hS3.ai 2 rfl]
 refine hS3.cF (b5I o (ho.ae hS3) rg sv (hr.ae hS3) c) fun H4 hS4 => ?_
 simp (disch := omega) only [↓RA, RB, simprocAttr, hn]
 refine iA (fun h1 => ?_) (fun h1 => ?_)
 ·simp (disch := omega) only [↓RA, RZ, simprocAttr, hn, c3r, h1]
  rw [show ofF o rg c = [] from if_neg h1]
  exact ⟨.slice none 0 0, rfl, .slice none 0 0, [], rfl, hS4.forget.nil 1⟩
 have h0 := dD.1 h1
 obtain ⟨hz1, hz2⟩ := a3D h0
 obtain ⟨hz3, hz4⟩ := nJ hz1
 simp (disch := omega) only [↓RA, RZ, simprocAttr, hn, hS4.ai 0 rfl, hS4.ai 1 rfl, hS4.ai 2 rfl, h1]
 refine hS4.ag [I c.1, I c.2] a1c a8N rfl rfl (by simp [Value.cells]) rfl rfl (by decide) (by decide) fun w1 H5 hS5 => ?_
 simp only [RT] at hS5
 simp (disch := omega) only [↓RA, RZ, simprocAttr, hn, h1]
 refine iF (xZ o (ho.ae hS5) (Org.bm hz3) rg sv (hr.ae hS5) hz4 w1 [c] (hS5.aw 3 rfl jU) (by simp) (by intro x hx; rw [dE.1 hx]; exact hz2)) ?_
 rintro r H6 ⟨gv, rest, he2, hT2⟩
 have hS6 := hS5.trans hT2
 simp only [RT] at hS6
 have hx2 : Slx 2 kA H6 (fun B => H.length ≤ B) r (kU o rg [c]) := he2 ▸ yW (hS6.pick [4] (by decide) rfl)
 simp (disch := omega) only [↓RA, RZ, simprocAttr, hn, c3r, h1, hx2.1.aZ]
 rw [show ofF o rg c = kU o rg [c] from if_pos h0]
 exact ⟨r, by rw [h0], gv, rest, he2, hS6.pick [4] (by decide) rfl⟩
theorem c4w (o : Org) (ho : o.In H) (rg : Reg) (sv : Value) (hr : rg.In H sv) (c : Ct) :
 Fn prog 23 [.agg #[.string o.name, o.rv, o.dv, o.cv], .agg #[sv, .int .u64 rg.cpl, .int .u64 rg.off], .agg #[I c.1, I c.2]] H fun r H' => ∃ pv, r = .tuple #[pv, I (xA o rg c)] ∧ Slx 2 kA H' (fun B => H.length ≤ B) pv (ofF o rg c) ∧ St prog H H' [] :=
 (c2s o ho rg sv hr c).mono fun _ _ ⟨pv, e, _, _, e2, h⟩ => ⟨pv, e, e2 ▸ yW h, h.forget⟩
end Go.Ds
namespace Go.Ds
open Go.Proofs
structure Ctl where
 kind : Int
 dv : Int
 ix : Int
 deriving Inhabited, DecidableEq
def Ctl.cells (c : Ctl) : List Value := [I c.kind, I c.dv, I c.ix]
def pI (n : Nat) : List Nat := (List.range 64).filter fun i => n.testBit i
end Go.Ds
