/- Add, whatever the entry. -/
import Derived.Test.YtomlhedichdkkaaAdd2
namespace Go.Proofs.Ytomlhedichdkkaa
open Go Go.RowKit
set_option linter.unusedVariables false

theorem add_any (w : World) (g : Nat) (base : Int) (es : List Ent) (ve vp : Value) (hx : IX w g base es ve vp) (e : Ent) (hroom : (es.length + 1) * 56 ≤ 140737488355328) :
    Calls Try.prog 19 #[.pointer (some ⟨g, 0, none⟩), e.val] w fun r w' => r = .returned (.int .i64 (addE base es e : Nat)) ∧ Turned w g base ve vp (addTo base es e) w' := by
  have hm : es.length ≤ 140737488355328 := by omega
  unfold addTo addE
  by_cases h : badE e
  · rw [if_pos h, if_neg (by decide)]
    refine (add_bad w g e h).mono ?_
    rintro r w' ⟨rfl, hb⟩
    exact ⟨rfl, same_turned hx hb⟩
  rw [if_neg h]
  by_cases h1 : e.base = nextOf base es
  · by_cases h2 : e.at_ = sizeOf es
    · rw [if_neg (by simp [h1, h2])]
      by_cases h3 : 4611686018427387904 - e.count < e.base
      · rw [if_pos h3, if_neg (by decide)]
        refine (add_end w g base es ve vp hx hm e h h1 h2 h3).mono ?_
        rintro r w' ⟨rfl, hb⟩
        exact ⟨rfl, same_turned hx hb⟩
      · rw [if_neg h3, if_pos rfl]
        refine (add_ok w g base es ve vp hx hm e h h1 h2 h3 hroom).mono ?_
        rintro r w' ⟨rfl, hb⟩
        exact ⟨rfl, hb⟩
    · rw [if_pos (.inr h2), if_neg (by decide)]
      refine (add_gap2 w g base es ve vp hx hm e h h1 h2).mono ?_
      rintro r w' ⟨rfl, hb⟩
      exact ⟨rfl, same_turned hx hb⟩
  · rw [if_pos (.inl h1), if_neg (by decide)]
    refine (add_gap1 w g base es ve vp hx hm e h h1).mono ?_
    rintro r w' ⟨rfl, hb⟩
    exact ⟨rfl, same_turned hx hb⟩
end Go.Proofs.Ytomlhedichdkkaa
