/-
  Plain graphs: the first shortest way, edge by edge.
-/
import Derived.Test.YtoanhpaipfgnfaaQ
set_option linter.unusedVariables false
set_option linter.unusedSimpArgs false
namespace Go.Plain

/-- All edges turned round. -/
def tE (es : List (Nat × Nat)) : List (Nat × Nat) := es.map fun e => (e.2, e.1)

/-- An edge that brings one nearer. -/
def mt (d : List Int) (m a : Nat) (e : Nat × Nat) : Bool := e.1 == a && d.getD e.2 0 == (m : Int)

/-- The first edge from an index on that brings one nearer. -/
def pk (es : List (Nat × Nat)) (first : Nat) (d : List Int) (m a : Nat) : Nat := first + (es.drop first).findIdx (mt d m a)

def pF (es : List (Nat × Nat)) (first : Nat) (d : List Int) : Nat → Nat → List Nat
  | 0, _ => []
  | m + 1, a => pk es first d m a :: pF es first d m (es.getD (pk es first d m a) (0, 0)).2

theorem mt_iff (d : List Int) (m a : Nat) (e : Nat × Nat) : mt d m a e = true ↔ e.1 = a ∧ d.getD e.2 0 = (m : Int) := by simp [mt]

theorem getD_drop {α : Type} (l : List α) (n i : Nat) (d : α) : (l.drop n).getD i d = l.getD (n + i) d := by simp [List.getD_eq_getElem?_getD]

theorem pk_spec (es : List (Nat × Nat)) (first : Nat) (d : List Int) (m a : Nat) (h : ∃ j, first ≤ j ∧ j < es.length ∧ mt d m a (es.getD j (0, 0)) = true) :
    first ≤ pk es first d m a ∧ pk es first d m a < es.length ∧ mt d m a (es.getD (pk es first d m a) (0, 0)) = true ∧ ∀ i, first ≤ i → i < pk es first d m a → mt d m a (es.getD i (0, 0)) = false := by
  obtain ⟨j, h1, h2, h3⟩ := h
  have hlt : (es.drop first).findIdx (mt d m a) < (es.drop first).length := by
    apply List.findIdx_lt_length_of_exists
    refine ⟨es.getD j (0, 0), ?_, h3⟩
    rw [show j = first + (j - first) from by omega, ← getD_drop]
    have hl : j - first < (es.drop first).length := by simp; omega
    rw [List.getD_eq_getElem?_getD, List.getElem?_eq_getElem hl]
    exact List.getElem_mem hl
  have hlen : (es.drop first).length = es.length - first := List.length_drop
  refine ⟨Nat.le_add_right _ _, by unfold pk; omega, ?_, ?_⟩
  · have := List.findIdx_getElem (w := hlt)
    unfold pk
    rw [← getD_drop, List.getD_eq_getElem?_getD, List.getElem?_eq_getElem hlt]
    exact this
  · intro i hi1 hi2
    have hi3 : i - first < (es.drop first).findIdx (mt d m a) := by unfold pk at hi2; omega
    have := List.not_of_lt_findIdx hi3
    rw [show i = first + (i - first) from by omega, ← getD_drop, List.getD_eq_getElem?_getD, List.getElem?_eq_getElem (by omega)]
    simpa using this

theorem pk_eq (es : List (Nat × Nat)) (first : Nat) (d : List Int) (m a j : Nat) (h1 : first ≤ j) (h2 : j < es.length) (h3 : mt d m a (es.getD j (0, 0)) = true) (h4 : ∀ i, first ≤ i → i < j → mt d m a (es.getD i (0, 0)) = false) : pk es first d m a = j := by
  obtain ⟨a1, a2, a3, a4⟩ := pk_spec es first d m a ⟨j, h1, h2, h3⟩
  rcases Nat.lt_trichotomy (pk es first d m a) j with h | h | h
  · rw [h4 _ a1 h] at a3; cases a3
  · exact h
  · rw [a4 j h1 h] at h3; cases h3

theorem mem_tE {es : List (Nat × Nat)} {a b : Nat} : (a, b) ∈ tE es ↔ (b, a) ∈ es := by
  unfold tE
  rw [List.mem_map]
  constructor
  · rintro ⟨⟨x, y⟩, h, e⟩
    simp only [Prod.mk.injEq] at e
    obtain ⟨rfl, rfl⟩ := e
    exact h
  · exact fun h => ⟨(b, a), h, rfl⟩

theorem tE_length (es : List (Nat × Nat)) : (tE es).length = es.length := by simp [tE]
theorem tE_drop (es : List (Nat × Nat)) (n : Nat) : (tE es).drop n = tE (es.drop n) := by simp [tE, List.map_drop]
theorem tE_val {es : List (Nat × Nat)} {N : Nat} (h : ∀ e ∈ es, e.1 < N ∧ e.2 < N) : ∀ e ∈ tE es, e.1 < N ∧ e.2 < N := by
  rintro ⟨a, b⟩ he
  have := h _ (mem_tE.1 he)
  exact ⟨this.2, this.1⟩

/-- From a node that is m + 1 away an edge leads to one that is m away. -/
theorem nearer {es : List (Nat × Nat)} {N t first : Nat} {d : List Int} (hv : ∀ e ∈ es, e.1 < N ∧ e.2 < N) (hd : IsD (tE (es.drop first)) N t d) (a m : Nat) (ha : a < N) (hm : d.getD a 0 = (m + 1 : Nat)) :
    ∃ j, first ≤ j ∧ j < es.length ∧ mt d m a (es.getD j (0, 0)) = true := by
  have h1 := (hd.pos a ha (by omega)).1
  rw [hm] at h1
  obtain ⟨c, hc, he⟩ : ∃ c, W (tE (es.drop first)) m t c ∧ (c, a) ∈ tE (es.drop first) := h1
  have he := mem_tE.1 he
  have hcN : c < N := (hv _ (List.mem_of_mem_drop he)).2
  have hdc : d.getD c 0 = (m : Int) := by
    by_cases h0 : d.getD c 0 < 0
    · exact ((hd.neg c hcN h0).2 m hc).elim
    · have h2 := hd.pos c hcN (by omega)
      have h3 := h2.2 m hc
      have h4 := (hd.pos a ha (by omega)).2 ((d.getD c 0).toNat + 1) ⟨c, h2.1, mem_tE.2 he⟩
      omega
  obtain ⟨i, hi, hie⟩ := List.getElem_of_mem he
  have hi' : i < es.length - first := by simpa using hi
  refine ⟨first + i, by omega, by omega, ?_⟩
  rw [← getD_drop, List.getD_eq_getElem?_getD, List.getElem?_eq_getElem hi, hie]
  exact (mt_iff ..).2 ⟨rfl, hdc⟩
end Go.Plain
