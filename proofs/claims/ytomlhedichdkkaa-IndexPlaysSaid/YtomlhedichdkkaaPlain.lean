/- Plain facts on lists of entries that follow on. -/
import Derived.Test.YtomlhedichdkkaaBase
namespace Go.Proofs.Ytomlhedichdkkaa
open Go Go.RowKit

def cntSum (es : List Ent) : Int := (es.map (·.count)).sum
def sizSum (es : List Ent) : Int := (es.map (·.size)).sum
theorem cntSum_append (a b : List Ent) : cntSum (a ++ b) = cntSum a + cntSum b := by simp [cntSum, List.sum_append]
theorem sizSum_append (a b : List Ent) : sizSum (a ++ b) = sizSum a + sizSum b := by simp [sizSum, List.sum_append]
theorem cntSum_one (e : Ent) : cntSum [e] = e.count := by simp [cntSum]
theorem sizSum_one (e : Ent) : sizSum [e] = e.size := by simp [sizSum]

structure Valid (base : Int) (es : List Ent) : Prop where
  lo : -9223372036854775808 ≤ base
  hi : base ≤ 9223372036854775807
  ent : ∀ i e, es[i]? = some e → e.base = base + cntSum (es.take i) ∧ e.at_ = sizSum (es.take i) ∧ 1 ≤ e.count ∧ e.count ≤ 256 ∧ 1 ≤ e.size ∧ e.size ≤ 36000 ∧ e.base + e.count ≤ 4611686018427387904

def nextOf (base : Int) (es : List Ent) : Int := base + cntSum es
def sizeOf (es : List Ent) : Int := sizSum es

theorem Valid.nil {base : Int} (lo : -9223372036854775808 ≤ base) (hi : base ≤ 9223372036854775807) : Valid base [] := ⟨lo, hi, fun i e h => by simp at h⟩

theorem Valid.take {base : Int} {es : List Ent} (h : Valid base es) (n : Nat) : Valid base (es.take n) := by
  refine ⟨h.lo, h.hi, fun i e he => ?_⟩
  rw [List.getElem?_take] at he
  split at he
  · have := h.ent i e he
    rw [List.take_take, Nat.min_eq_left (by omega)]
    exact this
  · cases he

theorem Valid.snoc {base : Int} {es : List Ent} {e : Ent} (h : Valid base es) (h1 : e.base = nextOf base es) (h2 : e.at_ = sizeOf es) (c1 : 1 ≤ e.count) (c2 : e.count ≤ 256) (s1 : 1 ≤ e.size) (s2 : e.size ≤ 36000) (hE : e.base + e.count ≤ 4611686018427387904) : Valid base (es ++ [e]) := by
  refine ⟨h.lo, h.hi, fun i x hx => ?_⟩
  rcases Nat.lt_or_ge i es.length with hi | hi
  · rw [List.getElem?_append_left hi] at hx
    have := h.ent i x hx
    rwa [List.take_append_of_le_length (by omega)]
  · rw [List.getElem?_append_right hi] at hx
    have hi0 : i = es.length := by
      rcases Nat.lt_or_ge (i - es.length) 1 with h0 | h0
      · omega
      · rw [List.getElem?_eq_none (by simpa using h0)] at hx; cases hx
    subst hi0
    simp at hx
    subst hx
    rw [List.take_left']
    · exact ⟨h1, h2, c1, c2, s1, s2, hE⟩
    · rfl

theorem take_snoc' {es : List Ent} {i : Nat} {e : Ent} (h : es[i]? = some e) : es.take (i + 1) = es.take i ++ [e] := by
  rw [List.take_add_one, h]; rfl

/-- Sums over the front, in bounds. -/
theorem Valid.sums {base : Int} {es : List Ent} (h : Valid base es) : ∀ i, i ≤ es.length → 0 ≤ cntSum (es.take i) ∧ (i : Int) ≤ cntSum (es.take i) ∧ (i : Int) ≤ sizSum (es.take i) ∧ sizSum (es.take i) ≤ 36000 * (i : Int) := by
  intro i
  induction i with
  | zero => intro _; simp [cntSum, sizSum]
  | succ i ih =>
    intro hi
    have hlt : i < es.length := by omega
    obtain ⟨e, he⟩ : ∃ e, es[i]? = some e := ⟨_, List.getElem?_eq_getElem hlt⟩
    obtain ⟨_, _, c1, c2, s1, s2, _⟩ := h.ent i e he
    obtain ⟨a, b, c, d⟩ := ih (by omega)
    rw [take_snoc' he, cntSum_append, sizSum_append, cntSum_one, sizSum_one]
    omega

theorem Valid.mono {base : Int} {es : List Ent} (h : Valid base es) {i j : Nat} (hij : i ≤ j) (hj : j ≤ es.length) : cntSum (es.take i) ≤ cntSum (es.take j) ∧ sizSum (es.take i) ≤ sizSum (es.take j) := by
  induction j with
  | zero =>
    have : i = 0 := by omega
    subst this; simp
  | succ j ih =>
    rcases Nat.lt_or_ge i (j + 1) with hlt | hge
    · obtain ⟨e, he⟩ : ∃ e, es[j]? = some e := ⟨_, List.getElem?_eq_getElem (by omega)⟩
      obtain ⟨_, _, c1, c2, s1, s2, _⟩ := h.ent j e he
      have := ih (by omega) (by omega)
      rw [take_snoc' he, cntSum_append, sizSum_append, cntSum_one, sizSum_one]
      omega
    · have : i = j + 1 := by omega
      subst this; simp

/-- The last entry tells what follows on. -/
theorem Valid.last {base : Int} {es : List Ent} {e : Ent} (h : Valid base (es ++ [e])) :
    nextOf base (es ++ [e]) = e.base + e.count ∧ sizeOf (es ++ [e]) = e.at_ + e.size ∧ -9223372036854775808 ≤ e.base ∧ e.base + e.count ≤ 4611686018427387904 ∧ 1 ≤ e.count ∧ e.count ≤ 256 ∧ 1 ≤ e.size ∧ e.size ≤ 36000 ∧ 0 ≤ e.at_ ∧ e.at_ ≤ 36000 * (es.length : Int) := by
  obtain ⟨h1, h2, c1, c2, s1, s2, hE⟩ := h.ent es.length e (by simp)
  rw [List.take_left' rfl] at h1 h2
  have hs := h.sums es.length (by simp)
  rw [List.take_left' rfl] at hs
  have := h.lo
  unfold nextOf sizeOf
  rw [cntSum_append, sizSum_append, cntSum_one, sizSum_one]
  omega

theorem snoc_cases (es : List Ent) : es = [] ∨ ∃ es' e, es = es' ++ [e] := by
  rcases List.eq_nil_or_concat es with h | ⟨l, a, h⟩
  · exact .inl h
  · exact .inr ⟨l, a, by rw [h, List.concat_eq_append]⟩

theorem Valid.next_lo {base : Int} {es : List Ent} (h : Valid base es) : base ≤ nextOf base es ∧ (es ≠ [] → nextOf base es ≤ 4611686018427387904) ∧ nextOf base es ≤ 9223372036854775807 := by
  rcases snoc_cases es with rfl | ⟨es, e, rfl⟩
  · have := h.hi
    simp [nextOf, cntSum]
    omega
  · have := h.last
    have hs := h.sums (es ++ [e]).length (Nat.le_refl _)
    rw [List.take_length] at hs
    unfold nextOf at *
    omega

/-! ### the greatest time up to each entry -/
def pkStep (acc : Option Int) (e : Ent) : Option Int := some (match acc with | none => e.last | some p => max e.last p)
def pk (es : List Ent) : Option Int := es.foldl pkStep none
theorem pk_snoc (es : List Ent) (e : Ent) : pk (es ++ [e]) = pkStep (pk es) e := by simp [pk]
def peaks (es : List Ent) : List Int := (List.range es.length).map fun i => (pk (es.take (i + 1))).getD 0
theorem peaks_length (es : List Ent) : (peaks es).length = es.length := by simp [peaks]
theorem peaks_get (es : List Ent) (i : Nat) (h : i < es.length) : (peaks es)[i]? = some ((pk (es.take (i + 1))).getD 0) := by simp [peaks, h]
theorem pk_some (es : List Ent) (h : es ≠ []) : ∃ p, pk es = some p := by
  rcases snoc_cases es with rfl | ⟨es, e, rfl⟩
  · exact absurd rfl h
  · exact ⟨_, pk_snoc es e⟩
theorem peaks_snoc (es : List Ent) (e : Ent) : peaks (es ++ [e]) = peaks es ++ [(pkStep (pk es) e).getD 0] := by
  apply List.ext_getElem?
  intro i
  rcases Nat.lt_or_ge i es.length with h | h
  · rw [peaks_get _ _ (by simp; omega), List.getElem?_append_left (by rw [peaks_length]; exact h), peaks_get _ _ h, List.take_append_of_le_length (by omega)]
  · rcases Nat.lt_or_ge i (es.length + 1) with h2 | h2
    · have : i = es.length := by omega
      subst this
      rw [peaks_get _ _ (by simp), List.getElem?_append_right (by rw [peaks_length]; omega), peaks_length, Nat.sub_self, List.take_of_length_le (by simp), pk_snoc]
      rfl
    · rw [List.getElem?_eq_none (by rw [peaks_length]; simp; omega), List.getElem?_eq_none (by simp [peaks_length]; omega)]
theorem peaks_take (es : List Ent) (n : Nat) : peaks (es.take n) = (peaks es).take n := by
  apply List.ext_getElem?
  intro i
  rw [List.getElem?_take]
  by_cases h : i < n
  · rw [if_pos h]
    rcases Nat.lt_or_ge i es.length with h1 | h1
    · rw [peaks_get _ _ (by simp; omega), peaks_get _ _ h1, List.take_take, Nat.min_eq_left (by omega)]
    · rw [List.getElem?_eq_none (by rw [peaks_length]; simp; omega), List.getElem?_eq_none (by rw [peaks_length]; omega)]
  · rw [if_neg h, List.getElem?_eq_none (by rw [peaks_length]; simp; omega)]

/-- A peak is late just where an entry up to there is. -/
theorem pk_late (es : List Ent) (t : Int) : es ≠ [] → (t ≤ (pk es).getD 0 ↔ ∃ e ∈ es, t ≤ e.last) := by
  have key : ∀ (l : List Ent), (∀ p, pk l = some p → (t ≤ p ↔ ∃ e ∈ l, t ≤ e.last)) ∧ (pk l = none → l = []) := by
    intro l
    generalize hn : l.length = n
    induction n generalizing l with
    | zero =>
      have : l = [] := List.eq_nil_of_length_eq_zero hn
      subst this
      exact ⟨fun p hp => by simp [pk] at hp, fun _ => rfl⟩
    | succ n ih =>
      rcases snoc_cases l with rfl | ⟨l, e, rfl⟩
      · simp at hn
      · obtain ⟨i1, i2⟩ := ih l (by simpa using hn)
        refine ⟨fun p hp => ?_, fun hp => by rw [pk_snoc] at hp; cases hp⟩
        rw [pk_snoc] at hp
        unfold pkStep at hp
        cases hq : pk l with
        | none =>
          have hl := i2 hq
          subst hl
          rw [hq] at hp
          simp at hp
          subst hp
          simp
        | some q =>
          have hi := i1 q hq
          rw [hq] at hp
          simp only [Option.some.injEq] at hp
          subst hp
          simp only [List.mem_append, List.mem_singleton]
          constructor
          · intro h
            rcases Int.le_total e.last q with h1 | h1
            · rw [Int.max_eq_right h1] at h
              obtain ⟨x, hx, hxt⟩ := hi.1 h
              exact ⟨x, .inl hx, hxt⟩
            · rw [Int.max_eq_left h1] at h
              exact ⟨e, .inr rfl, h⟩
          · rintro ⟨x, hx | rfl, hxt⟩
            · have := hi.2 ⟨x, hx, hxt⟩
              omega
            · omega
  intro hne
  obtain ⟨p, hp⟩ := pk_some es hne
  rw [hp]
  exact (key es).1 p hp

theorem peaks_getD (es : List Ent) (i : Nat) (h : i < es.length) : (peaks es).getD i 0 = (pk (es.take (i + 1))).getD 0 := by
  simp [List.getD, peaks_get es i h]

theorem peak_mono (es : List Ent) (k : Int) : ∀ a b, a ≤ b → b < es.length → decide (k ≤ (peaks es).getD a 0) = true → decide (k ≤ (peaks es).getD b 0) = true := by
  intro a b hab hb h
  simp only [decide_eq_true_eq] at h ⊢
  rw [peaks_getD es a (by omega)] at h
  rw [peaks_getD es b hb]
  have na : es.take (a + 1) ≠ [] := by intro h; have := congrArg List.length h; rw [List.length_take, List.length_nil] at this; omega
  have nb : es.take (b + 1) ≠ [] := by intro h; have := congrArg List.length h; rw [List.length_take, List.length_nil] at this; omega
  obtain ⟨e, he, het⟩ := (pk_late _ k na).1 h
  refine (pk_late _ k nb).2 ⟨e, ?_, het⟩
  obtain ⟨i, hi, rfl⟩ := List.getElem_of_mem he
  simp only [List.length_take] at hi
  rw [List.getElem_take]
  exact List.mem_take_iff_getElem.2 ⟨i, by omega, rfl⟩

/-- The first place of which a test says yes. -/
theorem found_idx {α : Type} (l : List α) (p : Nat → Bool) (q : α → Bool) (hpq : ∀ i a, l[i]? = some a → p i = q a) (m : Nat) (hm : m ≤ l.length) (h1 : ∀ j, j < m → p j = false) (h2 : m < l.length → p m = true) : m = l.findIdx q := by
  symm
  rcases Nat.lt_or_ge m l.length with hlt | hge
  · rw [List.findIdx_eq hlt]
    refine ⟨?_, fun j hj => ?_⟩
    · rw [← hpq m _ (List.getElem?_eq_getElem hlt)]; exact h2 hlt
    · rw [← hpq j _ (List.getElem?_eq_getElem (by omega))]; exact h1 j hj
  · have : m = l.length := by omega
    subst this
    rw [List.findIdx_eq_length]
    intro x hx
    obtain ⟨i, hi, rfl⟩ := List.getElem_of_mem hx
    rw [← hpq i _ (List.getElem?_eq_getElem hi)]
    exact h1 i hi
end Go.Proofs.Ytomlhedichdkkaa
