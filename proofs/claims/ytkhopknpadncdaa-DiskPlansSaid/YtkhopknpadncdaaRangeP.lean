/- What of a map has been met, as a function of what is left: sums and names. -/
import Derived.Test.YtkhopknpadncdaaM
namespace Go.Proofs.Ytkhopknpadncdaa
open Go Go.RowKit Go.Maps
set_option linter.unusedVariables false

/-- The sum over what is no longer to come. -/
def doneSum (len : Fil → Nat) (L : List (Nm × Fil)) (P : Nm → Bool) : Nat := ((L.filter fun p => !P p.1).map fun p => len p.2).sum
theorem doneSum_start (len : Fil → Nat) {L : List (Nm × Fil)} {P : Nm → Bool} (h : ∀ p ∈ L, P p.1 = true) : doneSum len L P = 0 := by
  unfold doneSum
  rw [List.filter_eq_nil_iff.2 (fun p hp => by rw [h p hp]; decide)]
  rfl
theorem doneSum_end (len : Fil → Nat) {L : List (Nm × Fil)} {P : Nm → Bool} (h : ∀ p ∈ L, P p.1 = false) : doneSum len L P = (L.map fun p => len p.2).sum := by
  unfold doneSum
  rw [List.filter_eq_self.2 (fun p hp => by rw [h p hp]; rfl)]
theorem doneSum_step (len : Fil → Nat) {L : List (Nm × Fil)} (hn : L.Pairwise fun a b => a.1 ≠ b.1) {P : Nm → Bool} {x : Nm} {f : Fil} (hx : (x, f) ∈ L) (hP : P x = true) :
    doneSum len L (fun z => P z && !(z == x)) = doneSum len L P + len f := by
  induction L with
  | nil => cases hx
  | cons y r ih =>
    have h1 := List.pairwise_cons.1 hn
    unfold doneSum
    rcases List.mem_cons.1 hx with e | e
    · subst e
      have hr : r.filter (fun p => !(P p.1 && !(p.1 == x))) = r.filter fun p => !P p.1 := List.filter_congr fun p hp => by
        have : p.1 ≠ x := fun e => h1.1 p hp e.symm
        rw [show (p.1 == x) = false by simpa using this]
        simp
      rw [List.filter_cons_of_pos (by simp), List.filter_cons_of_neg (by simp [hP]), List.map_cons, List.sum_cons, hr]
      simp only
      omega
    · have ih' := ih h1.2 e
      unfold doneSum at ih'
      have hne : y.1 ≠ x := h1.1 _ e
      have e3 : (!(P y.1 && !(y.1 == x))) = !P y.1 := by rw [show (y.1 == x) = false by simpa using hne]; simp
      by_cases hy : P y.1 = true
      · rw [List.filter_cons_of_neg (by rw [e3]; simp [hy]), List.filter_cons_of_neg (by simp [hy])]
        exact ih'
      · have hy' : P y.1 = false := by simpa using hy
        rw [List.filter_cons_of_pos (by rw [e3]; simp [hy']), List.filter_cons_of_pos (by simp [hy']), List.map_cons, List.map_cons, List.sum_cons, List.sum_cons, ih']
        omega
theorem doneSum_le (len : Fil → Nat) (L : List (Nm × Fil)) (P : Nm → Bool) (B : Nat) (h : ∀ p ∈ L, len p.2 ≤ B) : doneSum len L P ≤ L.length * B := by
  induction L with
  | nil => simp [doneSum]
  | cons y r ih =>
    have h1 := ih (fun p hp => h p (List.mem_cons_of_mem _ hp))
    have h2 := h y (List.mem_cons_self ..)
    unfold doneSum at h1 ⊢
    rw [List.length_cons, Nat.succ_mul]
    rw [List.filter_cons]
    split
    · rw [List.map_cons, List.sum_cons]; omega
    · omega
theorem used_eq (L : List (Nm × Fil)) : used L = (L.map fun p => p.2.seen.length).sum := rfl

/-- An entry that has come. -/
theorem dat_came {L : List (Nm × Nat)} {x : Nm} {c : Value} (h : ∀ zd, (dat L).atKey (.string x) zd = .held c) : ∃ p, look L x = some p ∧ c = fptr p := by
  have h1 := h (.held (.pointer none))
  rw [dat_at] at h1
  injection h1 with h1
  cases hl : look L x with
  | some p => rw [hl] at h1; exact ⟨p, rfl, h1.symm⟩
  | none =>
    have h2 := h (.held (.bool true))
    unfold dat DataW.atKey look at *
    simp only at h2 hl
    rw [List.find?_map] at h2
    have e : ((fun p : Lit × DataW Value => p.1.sameKey (.string x)) ∘ fun p : Nm × Nat => (Lit.string p.1, DataW.held (fptr p.2))) = fun p => p.1 == x := rfl
    rw [e] at h2
    rw [Option.map_eq_none_iff] at hl
    rw [hl] at h2 h1
    simp only [Option.map_none] at h2 h1
    injection h2 with h2
    rw [← h2] at h1
    cases h1
theorem dat_has (L : List (Nm × Nat)) {p : Nm × Nat} (hp : p ∈ L) : Maps.has (dat L) (.string p.1) = true := by
  unfold dat
  rw [has_eq, List.any_map, List.any_eq_true]
  exact ⟨p, hp, by simp [Lit.sameKey]⟩
end Go.Proofs.Ytkhopknpadncdaa
