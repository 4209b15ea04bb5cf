/- Plain: what is remembered of one producer, and the law IdemOnce over it (no program in sight). -/
import GoSem.Core.Utf8
namespace Go.Proofs.Ytnooekflmjebiaa

/-- A remembered batch. -/
structure Mk where
  seq : Int
  count : Int
  base : Int

/-- The sequence behind it. -/
def Mk.next (m : Mk) : Int := (m.seq + m.count) % 2147483648
/-- Arguments out of their range. -/
def badI (pid ep seq cnt : Int) : Bool := if pid < 0 then decide (pid ≠ -1) else decide (ep < 0 ∨ seq < 0 ∨ cnt < 1 ∨ 256 < cnt)
/-- Judge over what is remembered of the producer (arguments in their range, pid not -1): base, known, the error's number. -/
def judgeM (m : Option (Int × List Mk)) (ep seq cnt : Int) : Int × Bool × Int :=
  match m with
  | none => (0, false, 0)
  | some (e, ms) =>
    if ep < e then (0, false, 210)
    else if e < ep then (if seq ≠ 0 then (0, false, 211) else (0, false, 0))
    else match ms.reverse.find? (fun k => k.seq == seq && k.count == cnt) with
      | some k => (k.base, true, 0)
      | none => match ms.getLast? with
        | some l => if l.next ≠ seq then (0, false, 211) else (0, false, 0)
        | none => (0, false, 0)
/-- What is remembered behind Note. -/
def noteM (m : Option (Int × List Mk)) (ep : Int) (k : Mk) : Int × List Mk :=
  match m with
  | none => (ep, [k])
  | some (e, ms) => if e ≠ ep then (ep, [k]) else (ep, (ms ++ [k]).drop (ms.length + 1 - 5))

theorem find_uniq {α : Type} (p : α → Bool) (x : α) : ∀ l : List α, x ∈ l → p x = true → (∀ y ∈ l, p y = true → y = x) → l.find? p = some x
  | [], h, _, _ => by cases h
  | y :: l, h, hp, hu => by
    rw [List.find?_cons]
    cases hy : p y with
    | true => rw [hu y (List.mem_cons_self ..) hy]
    | false =>
      rcases List.mem_cons.1 h with rfl | h
      · rw [hp] at hy; cases hy
      · exact find_uniq p x l h hp fun z hz => hu z (List.mem_cons_of_mem _ hz)

section
variable (seq0 : Int) (counts : List Int)
/-- All of the first i counts. -/
def tot (i : Nat) : Int := (counts.take i).sum
/-- The sequence of batch i. -/
def sq (i : Nat) : Int := (seq0 + tot counts i) % 2147483648
def mk (i : Nat) : Mk := ⟨sq seq0 counts i, counts.getD i 0, i⟩
/-- What is remembered when i batches are noted. -/
def mks (i : Nat) : List Mk := ((List.range i).map (mk seq0 counts)).drop (i - 5)

theorem tot_succ (i : Nat) (h : i < counts.length) : tot counts (i + 1) = tot counts i + counts.getD i 0 := by
  unfold tot
  rw [List.take_add_one, List.sum_append]
  simp [List.getD, h]
theorem mks_mem {i : Nat} {m : Mk} (h : m ∈ mks seq0 counts i) : ∃ j, j < i ∧ i ≤ j + 5 ∧ m = mk seq0 counts j := by
  unfold mks at h
  obtain ⟨n, hn, rfl⟩ := List.mem_iff_getElem.1 h
  simp only [List.length_drop, List.length_map, List.length_range] at hn
  refine ⟨i - 5 + n, by omega, by omega, ?_⟩
  simp
theorem mks_has {i j : Nat} (h : j < i) (h5 : i ≤ j + 5) : mk seq0 counts j ∈ mks seq0 counts i := by
  unfold mks
  refine List.mem_iff_getElem.2 ⟨j - (i - 5), by simp; omega, ?_⟩
  simp only [List.getElem_drop, List.getElem_map, List.getElem_range]
  congr 1
  omega
theorem mks_length (i : Nat) : (mks seq0 counts i).length = min i 5 := by
  unfold mks
  simp
  omega
theorem mks_succ (i : Nat) : (mks seq0 counts i ++ [mk seq0 counts i]).drop ((mks seq0 counts i).length + 1 - 5) = mks seq0 counts (i + 1) := by
  rw [mks_length]
  unfold mks
  rw [List.range_succ, List.map_append, List.map_cons, List.map_nil]
  rcases Nat.lt_or_ge i 5 with h | h
  · rw [show min i 5 + 1 - 5 = 0 by omega, show i - 5 = 0 by omega, show i + 1 - 5 = 0 by omega]
    rfl
  · rw [show min i 5 + 1 - 5 = 1 by omega, show i + 1 - 5 = (i - 5) + 1 by omega]
    rw [List.drop_append_of_le_length (by simp; omega), List.drop_append_of_le_length (by simp; omega), List.drop_drop]
theorem mks_last (i : Nat) : (mks seq0 counts (i + 1)).getLast? = some (mk seq0 counts i) := by
  rw [← mks_succ, List.getLast?_drop]
  rw [if_neg (by rw [List.length_append, mks_length]; simp; omega), List.getLast?_append]
  rfl

variable {seq0 counts}
variable {n : Nat} (hn : n ≤ counts.length) (hpos : ∀ i, i < n → 1 ≤ counts.getD i 0) (htot : tot counts n ≤ 1073741824)
include hn hpos
theorem tot_lt {i j : Nat} (hij : i < j) (hj : j ≤ n) : tot counts i < tot counts j := by
  induction j with
  | zero => omega
  | succ j ih =>
    rw [tot_succ counts j (by omega)]
    have := hpos j (by omega)
    rcases Nat.lt_or_ge i j with h | h
    · have := ih h (by omega)
      omega
    · obtain rfl : i = j := by omega
      omega
theorem tot_nonneg {i : Nat} (hi : i ≤ n) : 0 ≤ tot counts i := by
  rcases Nat.eq_zero_or_pos i with rfl | h
  · simp [tot]
  · have := tot_lt hn hpos h hi
    have h0 : tot counts 0 = 0 := by simp [tot]
    omega
include htot
theorem sq_ne {i j : Nat} (hij : i < j) (hj : j ≤ n) : sq seq0 counts i ≠ sq seq0 counts j := by
  have h1 := tot_lt hn hpos hij hj
  have h2 := tot_nonneg hn hpos (by omega : i ≤ n)
  have h3 : tot counts j ≤ tot counts n := by
    rcases Nat.lt_or_ge j n with h | h
    · exact Int.le_of_lt (tot_lt hn hpos h (Nat.le_refl _))
    · obtain rfl : j = n := by omega
      exact Int.le_refl _
  unfold sq
  omega
omit hpos htot in
theorem next_mk {i : Nat} (hi : i < n) : (mk seq0 counts i).next = sq seq0 counts (i + 1) := by
  unfold Mk.next mk sq
  rw [tot_succ counts i (by omega)]
  simp only
  omega

/-- A new batch is fit. -/
theorem once_new (ep : Int) {i : Nat} (hi : i < n) : judgeM (if i = 0 then none else some (ep, mks seq0 counts i)) ep (sq seq0 counts i) (counts.getD i 0) = (0, false, 0) := by
  rcases i with _ | i
  · rfl
  · rw [if_neg (by omega)]
    have hf : (mks seq0 counts (i + 1)).reverse.find? (fun k => k.seq == sq seq0 counts (i + 1) && k.count == counts.getD (i + 1) 0) = none := by
      rw [List.find?_eq_none]
      intro m hm
      obtain ⟨j, h1, _, rfl⟩ := mks_mem seq0 counts (List.mem_reverse.1 hm)
      have := sq_ne (seq0 := seq0) hn hpos htot h1 (by omega)
      simp [mk, this]
    simp only [judgeM]
    rw [if_neg (by omega), if_neg (by omega), hf, mks_last]
    simp only
    rw [next_mk hn (by omega), if_neg (by simp)]
omit hn hpos htot in
/-- What is remembered behind it. -/
theorem once_note (ep : Int) (i : Nat) : noteM (if i = 0 then none else some (ep, mks seq0 counts i)) ep (mk seq0 counts i) = (ep, mks seq0 counts (i + 1)) := by
  rcases i with _ | i
  · rfl
  · rw [if_neg (by omega)]
    simp only [noteM]
    rw [if_neg (by simp), mks_succ]
/-- Sent again. -/
theorem once_again (ep : Int) {i k : Nat} (hi : i < n) (hk : k ≤ i) : judgeM (some (ep, mks seq0 counts (i + 1))) ep (sq seq0 counts k) (counts.getD k 0) = if i - k < 5 then ((k : Int), true, 0) else (0, false, 211) := by
  simp only [judgeM]
  rw [if_neg (by omega), if_neg (by omega)]
  have huniq : ∀ m ∈ (mks seq0 counts (i + 1)).reverse, (m.seq == sq seq0 counts k && m.count == counts.getD k 0) = true → m = mk seq0 counts k := by
    intro m hm hp
    obtain ⟨j, h1, _, rfl⟩ := mks_mem seq0 counts (List.mem_reverse.1 hm)
    simp only [mk, Bool.and_eq_true, beq_iff_eq] at hp
    rcases Nat.lt_trichotomy j k with h | h | h
    · exact absurd hp.1 (sq_ne hn hpos htot h (by omega))
    · rw [h]
    · exact absurd hp.1.symm (sq_ne hn hpos htot h (by omega))
  by_cases h5 : i - k < 5
  · rw [if_pos h5, find_uniq _ (mk seq0 counts k) _ (List.mem_reverse.2 (mks_has seq0 counts (by omega) (by omega))) (by simp [mk]) huniq]
    rfl
  · rw [if_neg h5]
    have hf : (mks seq0 counts (i + 1)).reverse.find? (fun m => m.seq == sq seq0 counts k && m.count == counts.getD k 0) = none := by
      rw [List.find?_eq_none]
      intro m hm hp
      have he := huniq m hm hp
      obtain ⟨j, h1, h2, h3⟩ := mks_mem seq0 counts (List.mem_reverse.1 hm)
      have hb : (j : Int) = (k : Int) := by
        have := congrArg Mk.base (h3.symm.trans he)
        exact this
      omega
    rw [hf, mks_last]
    simp only
    rw [next_mk hn hi, if_pos (fun h => sq_ne hn hpos htot (by omega : k < i + 1) (by omega) h.symm)]
end
end Go.Proofs.Ytnooekflmjebiaa
