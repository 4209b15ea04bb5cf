/- Several things in memory, each with blocks of its own. -/
import Derived.Test.YtkhopknpadncdaaD5
import Derived.Test.YtkhopknpadncdaaWShare
namespace Go.Proofs.Ytkhopknpadncdaa
open Go Go.RowKit Go.Maps Go.Proofs.YtkhopknpadncdaaW.PrintWords Go.Proofs.Ytkhopknpadncdaa.PDiskMemory Go.Proofs.YtkhopknpadncdaaW.PrintMore
set_option linter.unusedVariables false

/-- Something in memory, with the blocks that bear it. -/
structure Lies where
  P : World → (Nat → Prop) → Prop
  lt : ∀ {W S}, P W S → ∀ b, S b → b < W.heap.size
  keep : ∀ {W W' S}, P W S → W.heap.size ≤ W'.heap.size → (∀ b, S b → W'.heap[b]? = W.heap[b]?) → P W' S
/-- A disk. -/
def diskO (d : Nat) (k : Dk) (N : Nat) : Lies where
  P := fun W S => Disk W d S k N
  lt := fun h _ hb => h.lt hb
  keep := fun {W W' S} h hs hb => by
    obtain ⟨m, O, pv, Z, h, hS⟩ := h
    exact ⟨m, O, pv, Z, h.step hs (fun b _ ho => hb b ((hS b).2 ho)), hS⟩
/-- A row. -/
def rowO {α : Type} (d : Kd α) (e : Nat) (v : Value) (l : List α) : Lies where
  P := fun W S => d.R e W 0 S v l ∧ ∀ b, S b → b < W.heap.size
  lt := fun h => h.2
  keep := fun h hs hb => ⟨Kd.R_step h.1 (fun b ho _ => hb b ho), fun b h1 => Nat.lt_of_lt_of_le (h.2 b h1) hs⟩
/-- A row whose elements' rows lie apart. -/
def rowsO {α : Type} (d : Kd α) (e : Nat) (v : Value) (l : List α) : Lies where
  P := fun W S => Kd.S d e W 0 S v l ∧ ∀ b, S b → b < W.heap.size
  lt := fun h => h.2
  keep := fun h hs hb => ⟨Kd.S_step h.1 (fun b ho _ => hb b ho), fun b h1 => Nat.lt_of_lt_of_le (h.2 b h1) hs⟩
/-- Nothing is said. -/
def anyO : Lies where
  P := fun W S => ∀ b, S b → b < W.heap.size
  lt := fun h => h
  keep := fun h hs _ b h1 => Nat.lt_of_lt_of_le (h b h1) hs

/-- Since w only new memory was written; in it these things lie, each apart from the others. -/
def Sep (w W : World) (L : List Lies) : Prop := Below w.heap.size w W ∧ ∃ O : Nat → Nat, (∀ b, O b ≠ 0 → w.heap.size ≤ b ∧ b < W.heap.size) ∧ ∀ (i : Nat) (P : Lies), L[i]? = some P → P.P W (fun b => O b = i + 1)
section
variable {w W W' : World} {L : List Lies} {i : Nat} {P P' : Lies}
theorem Sep.bl (h : Sep w W L) : Below w.heap.size w W := h.1
theorem Sep.nil (h : Below w.heap.size w W) : Sep w W [] := ⟨h, fun _ => 0, fun b h => absurd rfl h, fun i P h => by simp at h⟩
theorem Sep.below (h : Sep w W L) (hb : Below W.heap.size W W') : Sep w W' L := by
  obtain ⟨h1, O, h2, h3⟩ := h
  exact ⟨h1.trans (hb.mono h1.size), O, fun b h => ⟨(h2 b h).1, Nat.lt_of_lt_of_le (h2 b h).2 hb.size⟩, fun i P hi => P.keep (h3 i P hi) hb.size (fun b hO => hb.block b (h2 b (by omega)).2)⟩
/-- One thing, the others apart from it; and the whole behind an event that turns it alone. -/
theorem Sep.open (h : Sep w W L) (hi : L[i]? = some P) : ∃ S, P.P W S ∧ (∀ b, S b → w.heap.size ≤ b ∧ b < W.heap.size) ∧ (∀ (j : Nat) (Q : Lies), j ≠ i → L[j]? = some Q → ∃ T, (∀ b, T b → ¬ S b ∧ w.heap.size ≤ b ∧ b < W.heap.size) ∧ Q.P W T) ∧
    ∀ (W' : World) (S' : Nat → Prop) (P' : Lies), Tch S W W' → P'.P W' S' → (∀ b, S' b → S b ∨ W.heap.size ≤ b) → Sep w W' (L.set i P') := by
  obtain ⟨h1, O, h2, h3⟩ := h
  refine ⟨fun b => O b = i + 1, h3 i P hi, fun b hb => h2 b (by omega), fun j Q hj hQ => ⟨fun b => O b = j + 1, fun b hb => ⟨by omega, h2 b (by omega)⟩, h3 j Q hQ⟩, fun W' S' P' hT hP hS => ?_⟩
  classical
  have hne : ∀ b, S' b → O b = i + 1 ∨ O b = 0 := fun b hb => by
    rcases hS b hb with h | h
    · exact .inl h
    · refine .inr (Classical.byContradiction fun h0 => ?_)
      have := (h2 b h0).2
      omega
  refine ⟨h1.trans (hT.below h1.size (fun b hb => (h2 b (by omega)).1)), fun b => if S' b then i + 1 else if O b = i + 1 then 0 else O b, fun b hb => ?_, fun j Q hQ => ?_⟩
  · by_cases hs : S' b
    · have hlt := P'.lt hP b hs
      refine ⟨?_, hlt⟩
      rcases hS b hs with h | h
      · exact (h2 b (by omega)).1
      · have := h1.size
        omega
    · simp only [if_neg hs] at hb
      by_cases ho : O b = i + 1
      · rw [if_pos ho] at hb
        exact absurd rfl hb
      · rw [if_neg ho] at hb
        exact ⟨(h2 b hb).1, Nat.lt_of_lt_of_le (h2 b hb).2 hT.size⟩
  · by_cases hj : j = i
    · subst hj
      have hlt : j < L.length := (List.getElem?_eq_some_iff.1 hi).1
      rw [List.getElem?_set_self hlt] at hQ
      injection hQ with hQ
      subst hQ
      have he : (fun b => (if S' b then j + 1 else if O b = j + 1 then 0 else O b) = j + 1) = S' := by
        funext b
        apply propext
        by_cases hs : S' b
        · simp [hs]
        · simp only [if_neg hs]
          by_cases ho : O b = j + 1
          · rw [if_pos ho]
            exact ⟨fun h => by omega, fun h => absurd h hs⟩
          · rw [if_neg ho]
            exact ⟨fun h => absurd h ho, fun h => absurd h hs⟩
      rw [he]
      exact hP
    · rw [List.getElem?_set_ne (fun e => hj e.symm)] at hQ
      have he : (fun b => (if S' b then i + 1 else if O b = i + 1 then 0 else O b) = j + 1) = (fun b => O b = j + 1) := by
        funext b
        apply propext
        by_cases hs : S' b
        · have := hne b hs
          simp only [if_pos hs]
          constructor
          · intro h; omega
          · intro h; omega
        · simp only [if_neg hs]
          by_cases ho : O b = i + 1
          · rw [if_pos ho]
            constructor
            · intro h; omega
            · intro h; omega
          · rw [if_neg ho]
      rw [he]
      exact Q.keep (h3 j Q hQ) hT.size (fun b hb => hT.block b (h2 b (by omega)).2 (fun h => hj (by omega)))
theorem Sep.get (h : Sep w W L) (hi : L[i]? = some P) : ∃ S, P.P W S ∧ ∀ b, S b → w.heap.size ≤ b ∧ b < W.heap.size := by
  obtain ⟨S, h1, h2, _⟩ := h.open hi
  exact ⟨S, h1, h2⟩
/-- Something new. -/
theorem Sep.push {S : Nat → Prop} (h : Sep w W L) (hb : Below W.heap.size W W') (hP : P.P W' S) (hS : ∀ b, S b → W.heap.size ≤ b) : Sep w W' (L ++ [P]) := by
  obtain ⟨h1, O, h2, h3⟩ := h
  classical
  have h0 : ∀ b, S b → O b = 0 := fun b hb => Classical.byContradiction fun h0 => by
    have := (h2 b h0).2
    have := hS b hb
    omega
  refine ⟨h1.trans (hb.mono h1.size), fun b => if S b then L.length + 1 else if L.length < O b then 0 else O b, fun b hb2 => ?_, fun j Q hQ => ?_⟩
  · by_cases hs : S b
    · refine ⟨?_, P.lt hP b hs⟩
      have := hS b hs
      have := h1.size
      omega
    · simp only [if_neg hs] at hb2
      by_cases hl : L.length < O b
      · rw [if_pos hl] at hb2
        exact absurd rfl hb2
      · rw [if_neg hl] at hb2
        exact ⟨(h2 b hb2).1, Nat.lt_of_lt_of_le (h2 b hb2).2 hb.size⟩
  · by_cases hj : j < L.length
    · rw [List.getElem?_append_left hj] at hQ
      have he : (fun b => (if S b then L.length + 1 else if L.length < O b then 0 else O b) = j + 1) = (fun b => O b = j + 1) := by
        funext b
        apply propext
        by_cases hs : S b
        · have := h0 b hs
          simp only [if_pos hs]
          constructor
          · intro h; omega
          · intro h; omega
        · simp only [if_neg hs]
          by_cases ho : L.length < O b
          · rw [if_pos ho]
            constructor
            · intro h; omega
            · intro h; omega
          · rw [if_neg ho]
      rw [he]
      exact Q.keep (h3 j Q hQ) hb.size (fun b hb2 => hb.block b (h2 b (by omega)).2)
    · rw [List.getElem?_append_right (by omega)] at hQ
      obtain rfl : j = L.length := by
        have := (List.getElem?_eq_some_iff.1 hQ).1
        simp at this
        omega
      rw [Nat.sub_self] at hQ
      injection hQ with hQ
      subst hQ
      have he : (fun b => (if S b then L.length + 1 else if L.length < O b then 0 else O b) = L.length + 1) = S := by
        funext b
        apply propext
        by_cases hs : S b
        · simp [hs]
        · simp only [if_neg hs]
          by_cases ho : L.length < O b
          · rw [if_pos ho]
            exact ⟨fun h => by omega, fun h => absurd h hs⟩
          · rw [if_neg ho]
            exact ⟨fun h => by omega, fun h => absurd h hs⟩
      rw [he]
      exact hP
/-- One thing told otherwise. -/
theorem Sep.as (h : Sep w W L) (hi : L[i]? = some P) (hP : ∀ S, P.P W S → P'.P W S) : Sep w W (L.set i P') := by
  obtain ⟨S, h1, h2, _, h4⟩ := h.open hi
  exact h4 W S P' (Tch.refl _ _) (hP S h1) (fun b hb => .inl hb)
/-- The last ones forgotten. -/
theorem Sep.take (h : Sep w W L) (n : Nat) : Sep w W (L.take n) := by
  obtain ⟨h1, O, h2, h3⟩ := h
  refine ⟨h1, O, h2, fun i P hi => h3 i P ?_⟩
  rw [List.getElem?_take] at hi
  split at hi
  · exact hi
  · cases hi
end
end Go.Proofs.Ytkhopknpadncdaa
