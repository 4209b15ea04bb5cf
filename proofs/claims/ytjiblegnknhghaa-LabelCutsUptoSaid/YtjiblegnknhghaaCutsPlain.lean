/- Plain facts: well-formed texts cut and put together. -/
import Derived.Test.YtjiblegnknhghaaRunes
namespace Go.Proofs.Ytjiblegnknhghaa
open Go Go.RowKit

/-- What a character hangs on: the bytes that it takes, and that they are there. -/
theorem chrN_local (a b c d b' c' d' : Nat) (x y z x' y' z' : Bool) (h : 0 < chrN a b c d x y z)
    (h2 : 2 ≤ chrN a b c d x y z → b' = b ∧ x' = true) (h3 : 3 ≤ chrN a b c d x y z → c' = c ∧ y' = true) (h4 : 4 ≤ chrN a b c d x y z → d' = d ∧ z' = true) : chrN a b' c' d' x' y' z' = chrN a b c d x y z := by
  obtain ⟨_, l2, l3, l4⟩ := chrN_le a b c d x y z
  by_cases k1 : a < 128
  · rw [chr_one _ _ _ _ _ _ _ k1, chr_one _ _ _ _ _ _ _ k1]
  by_cases k2 : a < 194 ∨ 244 < a
  · rw [chr_no _ _ _ _ _ _ _ (by omega) k2, chr_no _ _ _ _ _ _ _ (by omega) k2]
  rw [chr_more _ _ _ _ _ _ _ (by omega) (by omega)] at h h2 h3 h4 l2 l3 l4 ⊢
  rw [chr_more _ _ _ _ _ _ _ (by omega) (by omega)]
  cases hx : win x b (loOf a) (hiOf a) with
  | false => rw [hx] at h; simp at h
  | true =>
    simp only [hx, Bool.true_eq_false, if_false] at h h2 h3 h4 l2 l3 l4 ⊢
    have e1 : 2 ≤ (if a < 224 then 2 else if win y c 128 191 = false then 0 else if a < 240 then 3 else if win z d 128 191 = false then 0 else 4) := by
      split
      · omega
      · rw [if_neg ‹_›] at h
        split
        · rw [if_pos ‹_›] at h; omega
        · rw [if_neg ‹_›] at h
          split
          · omega
          · rw [if_neg ‹_›] at h
            split
            · rw [if_pos ‹_›] at h; omega
            · omega
    obtain ⟨rfl, rfl⟩ := h2 e1
    have ex := l2 e1
    subst ex
    rw [hx]
    simp only [Bool.true_eq_false, if_false]
    by_cases k3 : a < 224
    · rw [if_pos k3, if_pos k3]
    rw [if_neg k3] at h h3 h4 l3 l4 ⊢
    rw [if_neg k3]
    cases hy : win y c 128 191 with
    | false => rw [hy] at h; simp at h
    | true =>
      simp only [hy, Bool.true_eq_false, if_false] at h h3 h4 l3 l4 ⊢
      have e2 : 3 ≤ (if a < 240 then 3 else if win z d 128 191 = false then 0 else 4) := by
        split
        · omega
        · rw [if_neg ‹_›] at h
          split
          · rw [if_pos ‹_›] at h; omega
          · omega
      obtain ⟨rfl, rfl⟩ := h3 e2
      have ey := l3 e2
      subst ey
      rw [hy]
      simp only [Bool.true_eq_false, if_false]
      by_cases k4 : a < 240
      · rw [if_pos k4, if_pos k4]
      rw [if_neg k4] at h h4 l4 ⊢
      rw [if_neg k4]
      cases hz : win z d 128 191 with
      | false => rw [hz] at h; simp at h
      | true =>
        simp only [hz, Bool.true_eq_false, if_false] at h h4 l4 ⊢
        obtain ⟨rfl, rfl⟩ := h4 (Nat.le_refl _)
        have ez := l4 (Nat.le_refl _)
        subst ez
        rw [hz]
        rfl

/-- Two texts that agree on the bytes of a character have it both. -/
theorem chr_local (s t : ByteArray) (i j : Nat) (h : 0 < chr s i) (hag : ∀ m, m < chr s i → bat t (j + m) = bat s (i + m) ∧ j + m < t.size) : chr t j = chr s i := by
  unfold chr at h hag ⊢
  have h0 := (hag 0 (by omega)).1
  simp only [Nat.add_zero] at h0
  rw [h0]
  refine chrN_local _ _ _ _ _ _ _ _ _ _ _ _ _ h (fun k => ?_) (fun k => ?_) (fun k => ?_)
  · have := hag 1 (by omega); exact ⟨this.1, by simpa using this.2⟩
  · have := hag 2 (by omega); exact ⟨this.1, by simpa using this.2⟩
  · have := hag 3 (by omega); exact ⟨this.1, by simpa using this.2⟩

theorem utfGo_ge (s : ByteArray) : ∀ k i, i ≤ (utfGo s k i).1
  | 0, i => Nat.le_refl _
  | k + 1, i => by
    unfold utfGo
    split
    · split
      · exact Nat.le_refl _
      · exact Nat.le_trans (Nat.le_add_right _ _) (utfGo_ge s k _)
    · exact Nat.le_refl _

theorem utfGo_fuel (s : ByteArray) : ∀ k k' i, i ≤ s.size → s.size ≤ i + k → s.size ≤ i + k' → utfGo s k i = utfGo s k' i
  | 0, 0, _, _, _, _ => rfl
  | 0, k' + 1, i, h, h1, _ => by
    have : ¬ i < s.size := by omega
    simp [utfGo, this]
  | k + 1, 0, i, h, _, h2 => by
    have : ¬ i < s.size := by omega
    simp [utfGo, this]
  | k + 1, k' + 1, i, h, h1, h2 => by
    simp only [utfGo]
    by_cases hi : i < s.size
    · rw [if_pos hi, if_pos hi]
      by_cases hz : chr s i = 0
      · rw [if_pos hz, if_pos hz]
      · rw [if_neg hz, if_neg hz]
        exact utfGo_fuel s k k' _ (chr_le s i hi).2 (by omega) (by omega)
    · rw [if_neg hi, if_neg hi]

/-- Where it stops: at the end, or where no character begins. -/
theorem utfGo_stop (s : ByteArray) : ∀ k i, i ≤ s.size → s.size ≤ i + k → ((utfGo s k i).2 = true ∧ (utfGo s k i).1 = s.size) ∨ ((utfGo s k i).2 = false ∧ (utfGo s k i).1 < s.size ∧ chr s (utfGo s k i).1 = 0)
  | 0, i, h, h1 => .inl ⟨rfl, by show i = _; omega⟩
  | k + 1, i, h, h1 => by
    simp only [utfGo]
    by_cases hi : i < s.size
    · rw [if_pos hi]
      by_cases hz : chr s i = 0
      · rw [if_pos hz]
        exact .inr ⟨rfl, hi, hz⟩
      · rw [if_neg hz]
        exact utfGo_stop s k _ (chr_le s i hi).2 (by omega)
    · rw [if_neg hi]
      exact .inl ⟨rfl, by show i = _; omega⟩

theorem utf_stop (s : ByteArray) : ((utf s).2 = true ∧ (utf s).1 = s.size) ∨ ((utf s).2 = false ∧ (utf s).1 < s.size ∧ chr s (utf s).1 = 0) := utfGo_stop s _ 0 (by omega) (by omega)

/-- What is ahead of the stop is well-formed by itself. -/
theorem utfGo_head (s t : ByteArray) : ∀ k k' i, i ≤ s.size → s.size ≤ i + k → t.size = (utfGo s k i).1 → (∀ m, m < t.size → bat t m = bat s m) → t.size ≤ i + k' → utfGo t k' i = (t.size, true)
  | 0, k', i, h, h1, ht, _, h2 => by
    have e : t.size = i := ht
    cases k' <;> simp [utfGo, e]
  | k + 1, k', i, h, h1, ht, hag, h2 => by
    simp only [utfGo] at ht
    by_cases hi : i < s.size
    · rw [if_pos hi] at ht
      by_cases hz : chr s i = 0
      · rw [if_pos hz] at ht
        have e : t.size = i := ht
        cases k' <;> simp [utfGo, e]
      · rw [if_neg hz] at ht
        have hge := utfGo_ge s k (i + chr s i)
        have hc : chr t i = chr s i := chr_local s t i i (by omega) fun m hm => ⟨hag _ (by omega), by omega⟩
        obtain ⟨k', rfl⟩ : ∃ q, k' = q + 1 := ⟨k' - 1, by omega⟩
        simp only [utfGo]
        rw [if_pos (by omega), if_neg (by omega), hc]
        exact utfGo_head s t k k' _ (chr_le s i hi).2 (by omega) ht hag (by omega)
    · rw [if_neg hi] at ht
      have e : t.size = i := ht
      cases k' <;> simp [utfGo, e]

theorem bat_get (s : ByteArray) (i : Nat) (h : i < s.size) : s.data.toList[i]? = some (s.get! i) := get_at_data s i h

theorem bat_extract (s : ByteArray) (a b m : Nat) (hb : b ≤ s.size) (h : a + m < b) : bat (s.extract a b) m = bat s (a + m) := by
  have h1 : m < (s.extract a b).size := by simp; omega
  have g1 := get_at_data _ _ h1
  have g2 := get_at_data s (a + m) (by omega)
  rw [ByteArray.data_extract, Array.toList_extract, List.extract_eq_take_drop, List.getElem?_take, if_pos (by omega), List.getElem?_drop, g2] at g1
  injection g1 with g1
  unfold bat
  rw [g1]

theorem bat_append (s t : ByteArray) (m : Nat) : (m < s.size → bat (s ++ t) m = bat s m) ∧ (m < t.size → bat (s ++ t) (s.size + m) = bat t m) := by
  have hd : (s ++ t).data.toList = s.data.toList ++ t.data.toList := by simp
  have hz : (s ++ t).size = s.size + t.size := by simp
  have hl : s.data.toList.length = s.size := by simp
  refine ⟨fun h => ?_, fun h => ?_⟩
  · have g1 := get_at_data (s ++ t) m (by omega)
    rw [hd, List.getElem?_append_left (by omega), get_at_data s m h] at g1
    injection g1 with g1
    unfold bat
    rw [g1]
  · have g1 := get_at_data (s ++ t) (s.size + m) (by omega)
    rw [hd, List.getElem?_append_right (by omega), hl, Nat.add_sub_cancel_left, get_at_data t m h] at g1
    injection g1 with g1
    unfold bat
    rw [g1]

theorem utf_head (s : ByteArray) : utf (s.extract 0 (utf s).1) = ((utf s).1, true) := by
  have hle : (utf s).1 ≤ s.size := utfGo_le s _ 0 (by omega)
  have hsz : (s.extract 0 (utf s).1).size = (utf s).1 := by simp; omega
  have h := utfGo_head s (s.extract 0 (utf s).1) s.size (s.extract 0 (utf s).1).size 0 (by omega) (by omega) hsz (fun m hm => by
    rw [hsz] at hm
    have := bat_extract s 0 (utf s).1 m hle (by omega)
    rwa [Nat.zero_add] at this) (by omega)
  unfold utf at h ⊢
  rw [h]
  unfold utf at hsz
  rw [hsz]

theorem chr_extract (s : ByteArray) (a : Nat) (h : a < s.size) : chr (s.extract a s.size) 0 = chr s a := by
  have hsz : (s.extract a s.size).size = s.size - a := by simp
  have hb : ∀ m, a + m < s.size → bat (s.extract a s.size) m = bat s (a + m) := fun m hm => bat_extract s a s.size m (Nat.le_refl _) (by omega)
  rcases Nat.eq_zero_or_pos (chr s a) with hz | hz
  · rcases Nat.eq_zero_or_pos (chr (s.extract a s.size) 0) with hy | hy
    · rw [hz, hy]
    · have hle := (chr_le (s.extract a s.size) 0 (by omega)).2
      exact (chr_local (s.extract a s.size) s 0 a hy fun m hm => ⟨by rw [Nat.zero_add]; exact (hb m (by omega)).symm, by omega⟩).symm
  · have hle := (chr_le s a h).2
    exact chr_local s (s.extract a s.size) a 0 hz fun m hm => ⟨by rw [Nat.zero_add]; exact hb m (by omega), by omega⟩

theorem utf_tail (s : ByteArray) (h : (utf s).2 = false) : utf (s.extract (utf s).1 s.size) = (0, false) := by
  rcases utf_stop s with ⟨h1, _⟩ | ⟨_, h2, h3⟩
  · rw [h] at h1; cases h1
  · have hc := chr_extract s _ h2
    have hsz : (s.extract (utf s).1 s.size).size = s.size - (utf s).1 := by simp
    obtain ⟨k, hk⟩ : ∃ k, (s.extract (utf s).1 s.size).size = k + 1 := ⟨s.size - (utf s).1 - 1, by omega⟩
    unfold utf at hk hc h2 h3 ⊢
    rw [hk]
    simp only [utfGo]
    rw [if_pos (by omega), if_pos (by rw [hc]; exact h3)]

theorem chr_append_right (s t : ByteArray) (j : Nat) (h : j < t.size) : chr (s ++ t) (s.size + j) = chr t j := by
  have hz : (s ++ t).size = s.size + t.size := by simp
  rcases Nat.eq_zero_or_pos (chr t j) with hp | hp
  · rcases Nat.eq_zero_or_pos (chr (s ++ t) (s.size + j)) with hy | hy
    · rw [hp, hy]
    · have hle := (chr_le (s ++ t) (s.size + j) (by omega)).2
      exact (chr_local (s ++ t) t (s.size + j) j hy fun m hm => ⟨by rw [Nat.add_assoc]; exact ((bat_append s t (j + m)).2 (by omega)).symm, by omega⟩).symm
  · have hle := (chr_le t j h).2
    exact chr_local t (s ++ t) j (s.size + j) hp fun m hm => ⟨by rw [Nat.add_assoc]; exact (bat_append s t (j + m)).2 (by omega), by omega⟩

theorem utfGo_right (s t : ByteArray) : ∀ k j, j ≤ t.size → t.size ≤ j + k → utfGo (s ++ t) k (s.size + j) = (s.size + (utfGo t k j).1, (utfGo t k j).2)
  | 0, j, _, _ => rfl
  | k + 1, j, h, h1 => by
    have hz : (s ++ t).size = s.size + t.size := by simp
    simp only [utfGo]
    by_cases hj : j < t.size
    · rw [if_pos (by omega), if_pos hj, chr_append_right s t j hj]
      by_cases hc : chr t j = 0
      · rw [if_pos hc, if_pos hc]
      · rw [if_neg hc, if_neg hc, Nat.add_assoc]
        exact utfGo_right s t k _ (chr_le t j hj).2 (by omega)
    · rw [if_neg (by omega), if_neg hj]

theorem utfGo_left (s t : ByteArray) : ∀ k i q, i ≤ s.size → s.size ≤ i + k → utfGo s k i = (s.size, true) → (s ++ t).size ≤ i + q → utfGo (s ++ t) q i = utfGo (s ++ t) t.size s.size
  | 0, i, q, h, h1, _, hq => by
    have hz : (s ++ t).size = s.size + t.size := by simp
    have : i = s.size := by omega
    subst this
    exact utfGo_fuel _ _ _ _ (by omega) hq (by omega)
  | k + 1, i, q, h, h1, he, hq => by
    have hz : (s ++ t).size = s.size + t.size := by simp
    simp only [utfGo] at he
    by_cases hi : i < s.size
    · rw [if_pos hi] at he
      by_cases hc : chr s i = 0
      · rw [if_pos hc] at he
        injection he with _ he
        cases he
      · rw [if_neg hc] at he
        have hle := (chr_le s i hi).2
        have hcc : chr (s ++ t) i = chr s i := chr_local s (s ++ t) i i (by omega) fun m hm => ⟨(bat_append s t (i + m)).1 (by omega), by omega⟩
        obtain ⟨q, rfl⟩ : ∃ r, q = r + 1 := ⟨q - 1, by omega⟩
        rw [← utfGo_left s t k _ q hle (by omega) he (by omega)]
        conv => lhs; unfold utfGo
        rw [if_pos (by omega), if_neg (by omega), hcc]
    · have : i = s.size := by omega
      subst this
      exact utfGo_fuel _ _ _ _ (by omega) hq (by omega)

theorem utf_append (s t : ByteArray) (h : (utf s).2 = true) : utf (s ++ t) = (s.size + (utf t).1, (utf t).2) := by
  have hz : (s ++ t).size = s.size + t.size := by simp
  have he : utf s = (s.size, true) := by
    rcases utf_stop s with ⟨h1, h2⟩ | ⟨h1, _⟩
    · rw [← h1, ← h2]
    · rw [h] at h1; cases h1
  unfold utf at he ⊢
  rw [utfGo_left s t s.size 0 (s ++ t).size (by omega) (by omega) he (by omega)]
  have := utfGo_right s t t.size 0 (by omega) (by omega)
  rwa [Nat.add_zero] at this

theorem heads_append (s t : ByteArray) : (∀ k, k ≤ s.size → heads (s ++ t) k = heads s k) ∧ (∀ j, j ≤ t.size → heads (s ++ t) (s.size + j) = heads s s.size + heads t j) := by
  have h1 : ∀ k, k ≤ s.size → heads (s ++ t) k = heads s k := by
    intro k
    induction k with
    | zero => intro _; rfl
    | succ k ih =>
      intro hk
      rw [heads, heads, ih (by omega), (bat_append s t k).1 (by omega)]
  refine ⟨h1, ?_⟩
  intro j
  induction j with
  | zero => intro _; exact h1 _ (Nat.le_refl _)
  | succ j ih =>
    intro hj
    rw [← Nat.add_assoc, heads, heads, ih (by omega), (bat_append s t j).2 (by omega), Nat.add_assoc]

theorem rN_append (s t : ByteArray) (h : (utf s).2 = true) (k : (utf t).2 = true) : rN (s ++ t) = rN s + rN t := by
  unfold rN
  rw [utf_append s t h]
  simp only [h, k, if_true]
  have hz : (s ++ t).size = s.size + t.size := by simp
  rw [hz]
  exact (heads_append s t).2 _ (Nat.le_refl _)
theorem rE_append (s t : ByteArray) (h : (utf s).2 = true) : rE (s ++ t) = rE t := by
  unfold rE
  rw [utf_append s t h]
theorem rN_append_no (s t : ByteArray) (h : (utf s).2 = true) (k : (utf t).2 = false) : rN (s ++ t) = 0 := by
  unfold rN
  rw [utf_append s t h, k]
  rfl
end Go.Proofs.Ytjiblegnknhghaa
