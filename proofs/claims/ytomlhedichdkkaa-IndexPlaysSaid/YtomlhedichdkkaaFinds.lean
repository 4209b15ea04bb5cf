/- Plain law: At and Since are first finds. -/
import Derived.Test.YtomlhedichdkkaaBuilt
namespace Go.Proofs.Ytomlhedichdkkaa
open Go Go.RowKit
set_option linter.unusedVariables false
set_option linter.unusedSimpArgs false

theorem find_at {α : Type} {p : α → Bool} (L : List α) (m : Nat) (e : α) (h : L[m]? = some e) (hp : p e = true) (hn : ∀ (j : Nat) (x : α), j < m → L[j]? = some x → p x = false) : L.find? p = some e := by
  induction L generalizing m with
  | nil => simp at h
  | cons a r ih =>
    cases m with
    | zero =>
      simp at h
      subst h
      simp [List.find?_cons, hp]
    | succ m =>
      have h0 := hn 0 a (by omega) rfl
      rw [List.find?_cons, h0]
      exact ih m (by simpa using h) fun j x hj hx => hn (j + 1) x (by omega) (by simpa using hx)
theorem find_no {α : Type} {p : α → Bool} (L : List α) (hn : ∀ (j : Nat) (x : α), L[j]? = some x → p x = false) : L.find? p = none := by
  rw [List.find?_eq_none]
  intro x hx
  obtain ⟨i, hi, rfl⟩ := List.getElem_of_mem hx
  rw [hn i _ (List.getElem?_eq_getElem hi)]
  decide

def isLate (t : Int) (e : Ent) : Bool := decide (t ≤ e.last)
def holdsB (k : Int) (e : Ent) : Bool := decide (e.base ≤ k) && decide (k < e.base + e.count)

theorem since_find (es : List Ent) (t : Int) : sinceOf es t = es.find? (isLate t) := by
  have hle : fromP es t ≤ (peaks es).length := List.findIdx_le_length
  have hbefore : ∀ j x, j < fromP es t → es[j]? = some x → isLate t x = false := by
    intro j x hj hx
    have hlt : j < es.length := (List.getElem?_eq_some_iff.1 hx).1
    have hn := List.not_of_lt_findIdx (p := fun p => decide (t ≤ p)) (xs := peaks es) hj
    have hg := peaks_get es j hlt
    rw [List.getElem?_eq_getElem (by rw [peaks_length]; exact hlt)] at hg
    injection hg with hg
    rw [hg] at hn
    have hne : es.take (j + 1) ≠ [] := by intro h; have := congrArg List.length h; rw [List.length_take, List.length_nil] at this; omega
    simp only [Bool.not_eq_true, decide_eq_false_iff_not] at hn
    unfold isLate
    rw [decide_eq_false_iff_not]
    intro hx2
    refine hn ((pk_late _ t hne).2 ⟨x, ?_, hx2⟩)
    rw [take_snoc' hx]
    simp
  unfold sinceOf
  rcases Nat.lt_or_ge (fromP es t) es.length with hlt | hge
  · have hp := List.findIdx_getElem (p := fun p => decide (t ≤ p)) (xs := peaks es) (w := by rw [peaks_length]; exact hlt)
    have hg := peaks_get es (fromP es t) hlt
    rw [List.getElem?_eq_getElem (by rw [peaks_length]; exact hlt)] at hg
    injection hg with hg
    have hp' : t ≤ (peaks es)[fromP es t]'(by rw [peaks_length]; exact hlt) := of_decide_eq_true hp
    rw [hg] at hp'
    have hne : es.take (fromP es t + 1) ≠ [] := by intro h; have := congrArg List.length h; rw [List.length_take, List.length_nil] at this; omega
    obtain ⟨x, hx, hxt⟩ := (pk_late _ t hne).1 hp'
    have hx0 := List.getElem?_eq_getElem hlt
    rw [take_snoc' hx0, List.mem_append, List.mem_singleton] at hx
    rw [hx0]
    symm
    refine find_at es _ _ hx0 ?_ hbefore
    rcases hx with hx | rfl
    · exfalso
      obtain ⟨i, hi, rfl⟩ := List.getElem_of_mem hx
      simp only [List.length_take] at hi
      rw [List.getElem_take] at hxt
      have := hbefore i _ (by omega) (List.getElem?_eq_getElem (by omega))
      unfold isLate at this
      rw [decide_eq_false_iff_not] at this
      exact this hxt
    · unfold isLate
      rw [decide_eq_true_eq]
      exact hxt
  · rw [List.getElem?_eq_none hge]
    symm
    refine find_no es fun j x hx => hbefore j x ?_ hx
    have : j < es.length := (List.getElem?_eq_some_iff.1 hx).1
    omega

theorem at_find {base : Int} {es : List Ent} (h : Valid base es) (k : Int) : atOf base es k = es.find? (holdsB k) := by
  unfold atOf
  by_cases hr : k < base ∨ nextOf base es ≤ k
  · rw [if_pos hr]
    symm
    refine find_no es fun j x hx => ?_
    have hlt : j < es.length := (List.getElem?_eq_some_iff.1 hx).1
    obtain ⟨h1, _, c1, _⟩ := h.ent j x hx
    have hm := h.mono (i := j + 1) (j := es.length) (by omega) (Nat.le_refl _)
    rw [take_snoc' hx, List.take_length, cntSum_append, cntSum_one] at hm
    have hs := h.sums j (by omega)
    unfold nextOf at hr
    unfold holdsB
    rw [Bool.and_eq_false_iff, decide_eq_false_iff_not, decide_eq_false_iff_not]
    omega
  · rw [if_neg hr]
    obtain ⟨e, hlt, he, h1, h2⟩ := fromE_in h k (by omega) (by omega)
    rw [he]
    symm
    refine find_at es _ e he (by unfold holdsB; simp [h1, h2]) fun j x hj hx => ?_
    have hn := List.not_of_lt_findIdx (p := fun e : Ent => decide (k ≤ e.base + e.count - 1)) (xs := es) hj
    have hjl : j < es.length := by omega
    rw [List.getElem?_eq_getElem hjl] at hx
    injection hx with hx
    rw [hx] at hn
    simp only [Bool.not_eq_true, decide_eq_false_iff_not] at hn
    unfold holdsB
    rw [Bool.and_eq_false_iff, decide_eq_false_iff_not, decide_eq_false_iff_not]
    omega

theorem atOf_some {base : Int} {es : List Ent} (h : Valid base es) (k : Int) : (atOf base es k).isSome = true ↔ base ≤ k ∧ k < nextOf base es := by
  constructor
  · intro hs
    unfold atOf at hs
    split at hs
    · cases hs
    · omega
  · rintro ⟨h1, h2⟩
    obtain ⟨e, hlt, he, _⟩ := fromE_in h k h1 h2
    unfold atOf
    rw [if_neg (by omega), he]
    rfl
end Go.Proofs.Ytomlhedichdkkaa
