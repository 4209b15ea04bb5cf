/- The reference's Span. -/
import Derived.Test.YtomlhedichdkkaaRef2
namespace Go.Proofs.Ytomlhedichdkkaa
open Go Go.RowKit
set_option linter.unusedVariables false

/-- What the reference's Span has seen of the first m entries. -/
def SpanSeen (base : Int) (L : List Ent) (k most : Int) (m : Nat) (from_ to : Int) (found done : Bool) : Prop :=
  (found = false ∧ done = false ∧ from_ = 0 ∧ to = 0 ∧ ∀ (j : Nat) (x : Ent), j < m → L[j]? = some x → holdsB k x = false) ∨
  (found = true ∧ ∃ i e, i < m ∧ L[i]? = some e ∧ holdsB k e = true ∧ from_ = e.at_ ∧
    ((done = false ∧ to = sizSum (L.take m) ∧ spanOf base L k most = (e.at_, spanTo (L.drop m) e.at_ to most, true)) ∨ (done = true ∧ 0 ≤ to ∧ to ≤ 36000 * (L.length : Int) ∧ spanOf base L k most = (e.at_, to, true))))

theorem SpanSeen.done {base : Int} {L : List Ent} (hv : Valid base L) {k most from_ to : Int} {found dn : Bool} (h : SpanSeen base L k most L.length from_ to found dn) : spanOf base L k most = (from_, to, found) := by
  rcases h with ⟨rfl, rfl, rfl, rfl, hno⟩ | ⟨rfl, i, e, hi, hie, hh, rfl, ⟨rfl, rfl, hs⟩ | ⟨rfl, _, _, hs⟩⟩
  · refine span_none k most ?_
    rw [at_find hv]
    exact find_no L fun j x hx => hno j x (List.getElem?_eq_some_iff.1 hx).1 hx
  · rw [hs, List.drop_length]
    rfl
  · exact hs

/-- The round in which the entry is met. -/
theorem SpanSeen.meet {base : Int} {L : List Ent} (hv : Valid base L) {k most from_ to : Int} {dn : Bool} {m : Nat} {e : Ent} (h : SpanSeen base L k most m from_ to false dn) (he : L[m]? = some e) (hh : holdsB k e = true) : SpanSeen base L k most (m + 1) e.at_ (e.at_ + e.size) true dn := by
  rcases h with ⟨_, rfl, rfl, rfl, hno⟩ | ⟨h, _⟩
  · refine .inr ⟨rfl, m, e, by omega, he, hh, rfl, .inl ⟨rfl, ?_, ?_⟩⟩
    · obtain ⟨_, h2, _⟩ := hv.ent m e he
      rw [size_step he, h2]
    · have hat := at_of_holds hv he hh
      have hf : fromE L k = m := by
        have hi : L[fromE L k]? = some e := by
          unfold atOf at hat
          split at hat
          · cases hat
          · exact hat
        exact holds_one hv hi he hh hh
      unfold spanOf
      rw [hat, hf]
  · cases h
theorem SpanSeen.skip {base : Int} {L : List Ent} {k most from_ to : Int} {dn : Bool} {m : Nat} {e : Ent} (h : SpanSeen base L k most m from_ to false dn) (he : L[m]? = some e) (hh : holdsB k e = false) : SpanSeen base L k most (m + 1) from_ to false dn := by
  rcases h with ⟨_, rfl, rfl, rfl, hno⟩ | ⟨h, _⟩
  · refine .inl ⟨rfl, rfl, rfl, rfl, fun j x hj hx => ?_⟩
    rcases Nat.lt_or_ge j m with h | h
    · exact hno j x h hx
    · obtain rfl : j = m := by omega
      rw [he] at hx
      injection hx with hx
      subst hx
      exact hh
  · cases h
/-- Behind the end nothing turns. -/
theorem SpanSeen.rest {base : Int} {L : List Ent} {k most from_ to : Int} {m : Nat} (h : SpanSeen base L k most m from_ to true true) : SpanSeen base L k most (m + 1) from_ to true true := by
  rcases h with ⟨h, _⟩ | ⟨_, i, e, hi, hie, hh, rfl, ⟨h, _⟩ | ⟨_, h1, h2, hs⟩⟩
  · cases h
  · cases h
  · exact .inr ⟨rfl, i, e, by omega, hie, hh, rfl, .inr ⟨rfl, h1, h2, hs⟩⟩
/-- A batch more, or the end. -/
theorem SpanSeen.more {base : Int} {L : List Ent} (hv : Valid base L) {k most from_ to : Int} {m : Nat} {e : Ent} (h : SpanSeen base L k most m from_ to true false) (he : L[m]? = some e) :
    0 ≤ from_ ∧ from_ ≤ 36000 * (L.length : Int) ∧ 0 ≤ to ∧ to ≤ 36000 * (L.length : Int) ∧
    (to - from_ + e.size ≤ most → SpanSeen base L k most (m + 1) from_ (to + e.size) true false) ∧ (most < to - from_ + e.size → SpanSeen base L k most (m + 1) from_ to true true) := by
  rcases h with ⟨h, _⟩ | ⟨_, i, x, hi, hie, hh, rfl, ⟨_, rfl, hs⟩ | ⟨h, _⟩⟩
  · cases h
  · have hml : m < L.length := (List.getElem?_eq_some_iff.1 he).1
    obtain ⟨_, a2, _, _, s1, s2, _⟩ := hv.ent m e he
    obtain ⟨_, b2, _, _, _, _, _⟩ := hv.ent i x hie
    have s := hv.sums m (by omega)
    have si := hv.sums i (by omega)
    have hd : L.drop m = e :: L.drop (m + 1) := by
      rw [List.drop_eq_getElem_cons hml]
      congr 1
      rw [List.getElem?_eq_getElem hml] at he
      injection he
    rw [hd] at hs
    simp only [spanTo] at hs
    refine ⟨by omega, by omega, by omega, by omega, fun hle => ?_, fun hlt => ?_⟩
    · rw [if_neg (by omega)] at hs
      refine .inr ⟨rfl, i, x, by omega, hie, hh, rfl, .inl ⟨rfl, by rw [size_step he], ?_⟩⟩
      rw [hs, a2]
    · rw [if_pos (by omega)] at hs
      exact .inr ⟨rfl, i, x, by omega, hie, hh, rfl, .inr ⟨rfl, by omega, by omega, hs⟩⟩
  · cases h
end Go.Proofs.Ytomlhedichdkkaa
