/- Plain: replacing every dot by a line below. -/
import Derived.Lib.Replace
namespace Go.Proofs.YtjiblegnknhghaaDoor
open Go Go.Lib

def sub1 (c : UInt8) : UInt8 := if c = 46 then 95 else c

theorem isPre_one (b : UInt8) (l : List UInt8) : ([46] : List UInt8).isPrefixOf (b :: l) = (46 == b) := by simp [List.isPrefixOf]

theorem map_none : ∀ (l : List UInt8), l.count 46 = 0 → l.map sub1 = l
  | [], _ => rfl
  | b :: l, h => by
    rw [List.count_cons] at h
    have hb : b ≠ 46 := by rintro rfl; simp at h
    have hl : l.count 46 = 0 := by omega
    rw [List.map_cons, map_none l hl]
    simp [sub1, hb]

theorem replaceK_one : ∀ (l : List UInt8) (k : Nat), l.count 46 ≤ k → replaceK [46] [95] k l = l.map sub1
  | l, 0, h => by rw [map_none l (by omega)]; rfl
  | [], k + 1, _ => by simp [replaceK, index]
  | b :: l, k + 1, h => by
    by_cases hb : b = 46
    · subst hb
      have h0 : index (46 :: l) [46] = ((0 : Nat) : Int) := by unfold index; rw [isPre_one]; rfl
      rw [replaceK_hit _ _ _ _ 0 h0]
      have hc : l.count 46 ≤ k := by simpa using h
      simp only [List.take_zero, List.nil_append, List.length_cons, List.length_nil, Nat.zero_add, List.drop_succ_cons, List.drop_zero]
      rw [replaceK_one l k hc, List.map_cons]
      rfl
    · have hc : l.count 46 ≤ k + 1 := by
        rw [List.count_cons] at h
        omega
      have ih := replaceK_one l (k + 1) hc
      have hp : ([46] : List UInt8).isPrefixOf (b :: l) = false := by
        rw [isPre_one]
        simp only [beq_eq_false_iff_ne, ne_eq]
        exact fun e => hb e.symm
      have hs : sub1 b = b := by simp [sub1, hb]
      by_cases hi : index l [46] = -1
      · have h1 : index (b :: l) [46] = -1 := by unfold index; rw [hp, hi]; rfl
        simp only [replaceK, hi] at ih
        simp only [replaceK, h1]
        simp only [BEq.rfl, if_true] at ih ⊢
        rw [List.map_cons, ← ih, hs]
      · have hge := index_ge l [46]
        obtain ⟨i, hii⟩ : ∃ i : Nat, index l [46] = i := ⟨(index l [46]).toNat, by omega⟩
        have h1 : index (b :: l) [46] = ((i + 1 : Nat) : Int) := by
          unfold index
          rw [hp, hii]
          have : ((i : Int) == -1) = false := by rw [beq_eq_false_iff_ne]; omega
          simp [this]
        rw [replaceK_hit _ _ _ _ _ hii] at ih
        rw [replaceK_hit _ _ _ _ _ h1, List.map_cons, ← ih, hs]
        simp only [List.length_cons, List.length_nil, Nat.zero_add, List.take_succ_cons, List.cons_append]
        congr 1

theorem replaceAll_dot (l : List UInt8) : replaceAll l [46] [95] = l.map sub1 := by
  unfold replaceAll replace
  rw [if_neg (by decide)]
  refine replaceK_one l _ ?_
  unfold replaceNum
  rw [if_pos (.inl (by decide)), count_one]
  exact Nat.le_refl _
end Go.Proofs.YtjiblegnknhghaaDoor
