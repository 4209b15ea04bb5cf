/- Plain law of IndexHolds: one entry holds, the span's bounds. -/
import Derived.Test.YtomlhedichdkkaaTimes
namespace Go.Proofs.Ytomlhedichdkkaa
open Go Go.RowKit
set_option linter.unusedVariables false

theorem holds_lt {base : Int} {L : List Ent} (h : Valid base L) {k : Int} {i j : Nat} {e x : Ent} (hij : i < j) (hi : L[i]? = some e) (hj : L[j]? = some x) (he : holdsB k e = true) : holdsB k x = false := by
  have hjl : j < L.length := (List.getElem?_eq_some_iff.1 hj).1
  obtain ⟨a1, _⟩ := h.ent i e hi
  obtain ⟨b1, _⟩ := h.ent j x hj
  have hm := h.mono (i := i + 1) (j := j) (by omega) (by omega)
  rw [take_snoc' hi, cntSum_append, cntSum_one] at hm
  unfold holdsB at he ⊢
  simp only [Bool.and_eq_true, decide_eq_true_eq] at he
  rw [Bool.and_eq_false_iff, decide_eq_false_iff_not, decide_eq_false_iff_not]
  omega

theorem holds_one {base : Int} {L : List Ent} (h : Valid base L) {k : Int} {i j : Nat} {e x : Ent} (hi : L[i]? = some e) (hj : L[j]? = some x) (he : holdsB k e = true) (hx : holdsB k x = true) : i = j := by
  rcases Nat.lt_trichotomy i j with hlt | heq | hgt
  · rw [holds_lt h hlt hi hj he] at hx; cases hx
  · exact heq
  · rw [holds_lt h hgt hj hi hx] at he; cases he

theorem at_of_holds {base : Int} {L : List Ent} (h : Valid base L) {k : Int} {i : Nat} {e : Ent} (hi : L[i]? = some e) (he : holdsB k e = true) : atOf base L k = some e := by
  rw [at_find h]
  refine find_at L i e hi he fun j x hj hx => ?_
  cases hb : holdsB k x with
  | false => rfl
  | true => have := holds_one h hi hx he hb; omega

theorem spanTo_facts {base : Int} {L : List Ent} (h : Valid base L) (f most : Int) : ∀ (r : List Ent) (m : Nat), r = L.drop m → m ≤ L.length →
    sizSum (L.take m) ≤ spanTo r f (sizSum (L.take m)) most ∧ spanTo r f (sizSum (L.take m)) most ≤ sizSum L ∧ (spanTo r f (sizSum (L.take m)) most = sizSum (L.take m) ∨ spanTo r f (sizSum (L.take m)) most - f ≤ most) := by
  intro r
  induction r with
  | nil =>
    intro m hr hm
    have hml : m = L.length := by
      have := congrArg List.length hr
      simp at this
      omega
    subst hml
    rw [List.take_length]
    exact ⟨Int.le_refl _, Int.le_refl _, .inl rfl⟩
  | cons x r ih =>
    intro m hr hm
    have hml : m < L.length := by
      have := congrArg List.length hr
      simp at this
      omega
    have hx : L[m]? = some x := by
      have := congrArg (fun l => l[0]?) hr
      simpa using this.symm
    obtain ⟨_, a2, _, _, s1, s2, _⟩ := h.ent m x hx
    have hsn : sizSum (L.take (m + 1)) = sizSum (L.take m) + x.size := by rw [take_snoc' hx, sizSum_append, sizSum_one]
    have hmono := (h.mono (i := m + 1) (j := L.length) (by omega) (Nat.le_refl _)).2
    rw [List.take_length] at hmono
    simp only [spanTo]
    split
    · refine ⟨Int.le_refl _, by omega, .inl rfl⟩
    · have hd : r = L.drop (m + 1) := by
        have := congrArg List.tail hr
        simpa using this
      have := ih (m + 1) hd (by omega)
      rw [hsn, ← a2] at this
      rw [← a2]
      obtain ⟨i1, i2, i3⟩ := this
      refine ⟨by omega, i2, ?_⟩
      rcases i3 with i3 | i3
      · right; omega
      · right; exact i3

/-- What Span answers where an entry holds. -/
theorem span_facts {base : Int} {L : List Ent} (h : Valid base L) (k most : Int) {e : Ent} (ha : atOf base L k = some e) :
    ∃ T, spanOf base L k most = (e.at_, T, true) ∧ e.at_ + e.size ≤ T ∧ T ≤ sizeOf L ∧ (T = e.at_ + e.size ∨ T - e.at_ ≤ most) ∧ 0 ≤ e.at_ ∧ 1 ≤ e.size ∧ e.size ≤ 36000 ∧ sizeOf L ≤ 36000 * (L.length : Int) := by
  refine ⟨spanTo (L.drop (fromE L k + 1)) e.at_ (e.at_ + e.size) most, by unfold spanOf; rw [ha], ?_⟩
  have hi : L[fromE L k]? = some e := by
    unfold atOf at ha
    split at ha
    · cases ha
    · exact ha
  have hlt : fromE L k < L.length := (List.getElem?_eq_some_iff.1 hi).1
  obtain ⟨_, a2, _, _, s1, s2, _⟩ := h.ent _ e hi
  have hsn : sizSum (L.take (fromE L k + 1)) = e.at_ + e.size := by rw [take_snoc' hi, sizSum_append, sizSum_one, ← a2]
  have := spanTo_facts h e.at_ most _ (fromE L k + 1) rfl (by omega)
  rw [hsn] at this
  have hs := h.sums (fromE L k) (by omega)
  have hs2 := h.sums L.length (Nat.le_refl _)
  rw [List.take_length] at hs2
  unfold sizeOf
  refine ⟨this.1, this.2.1, this.2.2, by omega, s1, s2, by omega⟩
theorem span_none {base : Int} {L : List Ent} (k most : Int) (ha : atOf base L k = none) : spanOf base L k most = (0, 0, false) := by
  unfold spanOf; rw [ha]
end Go.Proofs.Ytomlhedichdkkaa
