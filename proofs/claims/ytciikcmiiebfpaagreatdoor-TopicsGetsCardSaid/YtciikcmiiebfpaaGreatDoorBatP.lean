/- DecP, BatP as one text (a claim holds at most 60 files). -/
import Derived.Test.YtciikcmiiebfpaaGreatDoorP

/- DecP -/
section
/- What the program's decoders answer, in plain Lean: numbers, tokens, blocks, rows. -/
namespace Go.Proofs.YtciikcmiiebfpaaGreatDoor
set_option linter.unusedVariables false

abbrev Bs := List Int
theorem Byt.nil : Byt [] := fun _ h => nomatch h
theorem Byt.take {l : Bs} (h : Byt l) (n : Nat) : Byt (l.take n) := fun b hb => h b (List.mem_of_mem_take hb)
theorem Byt.drop {l : Bs} (h : Byt l) (n : Nat) : Byt (l.drop n) := fun b hb => h b (List.mem_of_mem_drop hb)
theorem Byt.append {l m : Bs} (h : Byt l) (k : Byt m) : Byt (l ++ m) := fun b hb => (List.mem_append.1 hb).elim (h b) (k b)
theorem Byt.cons {x : Int} {l : Bs} (h : Byt (x :: l)) : (0 ≤ x ∧ x ≤ 255) ∧ Byt l := ⟨h x (List.mem_cons_self ..), fun b hb => h b (List.mem_cons_of_mem _ hb)⟩
theorem Byt.at {l : Bs} (h : Byt l) {i : Nat} {x : Int} (hx : l[i]? = some x) : 0 ≤ x ∧ x ≤ 255 := h x (List.mem_of_getElem? hx)

/-- vint.read over what is left: the number, how many bytes, the error. -/
def vgo (most : Nat) (top : Int) : Nat → Int → Bs → Int × Nat × Int
  | _, _, [] => (0, 0, 1)
  | i, u, c :: r =>
    if i + 1 = most ∧ top < c then (0, 0, 21)
    else if 128 ≤ c then vgo most top (i + 1) (u + c % 128 * 2 ^ (7 * i)) r
    else if c = 0 ∧ 0 < i then (0, 0, 20)
    else (u + c % 128 * 2 ^ (7 * i), i + 1, 0)
/-- vint.read. -/
def vread (b : Bs) (at_ : Int) (most : Nat) (top : Int) : Int × Int × Int :=
  if at_ < 0 ∨ (b.length : Int) < at_ then (0, 0, 3)
  else match vgo most top 0 0 (b.drop at_.toNat) with
    | (u, n, e) => if e = 0 then (u, at_ + n, 0) else (0, 0, e)
def zag (u : Int) : Int := if u % 2 = 0 then u / 2 else -(u / 2) - 1
def vget (b : Bs) (at_ : Int) : Int × Int × Int := match vread b at_ 10 1 with | (u, n, e) => (zag u, n, e)
def vget32 (b : Bs) (at_ : Int) : Int × Int × Int := match vread b at_ 5 15 with | (u, n, e) => (zag u, n, e)

theorem pow7 (i : Nat) : (2 : Int) ^ (7 * (i + 1)) = 128 * 2 ^ (7 * i) := by
  rw [show 7 * (i + 1) = 7 * i + 7 by omega, Int.pow_add]
  show (2 : Int) ^ (7 * i) * 128 = _
  rw [Int.mul_comm]
theorem pow7_pos (i : Nat) : (0 : Int) < 2 ^ (7 * i) := Int.pow_pos (by decide)
theorem pow7_le {i j : Nat} (h : i ≤ j) : (2 : Int) ^ (7 * i) ≤ 2 ^ (7 * j) := by
  induction h with
  | refl => exact Int.le_refl _
  | step _ ih => rw [pow7]; have := pow7_pos i; omega
/-- The number read fits: seven bits a byte, the last byte up to the top. -/
theorem vgo_val {most : Nat} {top : Int} (ht : 0 ≤ top ∧ top < 128) : ∀ (b : Bs) (i : Nat) (u : Int), Byt b → 0 ≤ u → u < 2 ^ (7 * i) → i < most → (vgo most top i u b).2.2 = 0 → 0 ≤ (vgo most top i u b).1 ∧ (vgo most top i u b).1 < (top + 1) * 2 ^ (7 * (most - 1))
  | [], i, u, hb, h0, hu, hi, he => absurd (show (1 : Int) = 0 from he) (by decide)
  | c :: r, i, u, hb, h0, hu, hi, he => by
    obtain ⟨⟨hc0, hc1⟩, hr⟩ := hb.cons
    have hp := pow7_pos i
    have hm : 0 ≤ c % 128 ∧ c % 128 ≤ 127 := by omega
    have hmul : 0 ≤ c % 128 * 2 ^ (7 * i) ∧ c % 128 * 2 ^ (7 * i) ≤ 127 * 2 ^ (7 * i) := ⟨Int.mul_nonneg hm.1 (Int.le_of_lt hp), Int.mul_le_mul_of_nonneg_right hm.2 (Int.le_of_lt hp)⟩
    unfold vgo at he ⊢
    by_cases c1 : i + 1 = most ∧ top < c
    · rw [if_pos c1] at he
      exact absurd he (by decide)
    rw [if_neg c1] at he ⊢
    by_cases c2 : 128 ≤ c
    · rw [if_pos c2] at he ⊢
      have hi2 : i + 1 < most := by
        rcases Nat.lt_or_ge (i + 1) most with h | h
        · exact h
        · exact absurd ⟨by omega, by omega⟩ c1
      exact vgo_val ht r (i + 1) _ hr (by omega) (by rw [pow7]; omega) hi2 he
    rw [if_neg c2] at he ⊢
    by_cases c3 : c = 0 ∧ 0 < i
    · rw [if_pos c3] at he
      exact absurd he (by decide)
    rw [if_neg c3]
    refine ⟨by show 0 ≤ u + _; omega, ?_⟩
    show u + c % 128 * 2 ^ (7 * i) < _
    by_cases h : i + 1 = most
    · have hct : c % 128 ≤ top := by
        have : ¬ top < c := fun h2 => c1 ⟨h, h2⟩
        omega
      have h2 : c % 128 * 2 ^ (7 * i) ≤ top * 2 ^ (7 * i) := Int.mul_le_mul_of_nonneg_right hct (Int.le_of_lt hp)
      rw [show most - 1 = i by omega, Int.add_mul]
      omega
    · have h2 := pow7_le (i := i + 1) (j := most - 1) (by omega)
      rw [pow7] at h2
      have h3 : (2 : Int) ^ (7 * (most - 1)) ≤ (top + 1) * 2 ^ (7 * (most - 1)) := by
        have := Int.mul_le_mul_of_nonneg_right (show (1 : Int) ≤ top + 1 by omega) (Int.le_of_lt (pow7_pos (most - 1)))
        omega
      omega
theorem vread_range {b : Bs} {at_ : Int} {most : Nat} {top : Int} (hb : Byt b) (ht : 0 ≤ top ∧ top < 128) (hm : 0 < most) : 0 ≤ (vread b at_ most top).1 ∧ (vread b at_ most top).1 < (top + 1) * 2 ^ (7 * (most - 1)) := by
  have hp : (0 : Int) < (top + 1) * 2 ^ (7 * (most - 1)) := Int.mul_pos (by omega) (pow7_pos _)
  unfold vread
  split
  · exact ⟨Int.le_refl _, hp⟩
  · have h := vgo_val (most := most) ht (b.drop at_.toNat) 0 0 (hb.drop _) (Int.le_refl _) (by simp) hm
    generalize vgo most top 0 0 (b.drop at_.toNat) = q at h
    obtain ⟨u, m, e⟩ := q
    simp only at h ⊢
    split
    · rename_i he
      exact h he
    · exact ⟨Int.le_refl _, hp⟩

end Go.Proofs.YtciikcmiiebfpaaGreatDoor
end

/- BatP -/
section
/- What the program's decoders answer, in plain Lean: rows, batches, sets, segments. U: is it well-formed UTF-8? C: the check sum. -/
namespace Go.Proofs.YtciikcmiiebfpaaGreatDoor
set_option linter.unusedVariables false

/-- A step of a reading: its error ends it. -/
def rb {α β : Type} (z : β) (x : α × Int × Int) (f : α → Int → β × Int × Int) : β × Int × Int := if x.2.2 ≠ 0 then (z, 0, x.2.2) else f x.1 x.2.1
section
variable (U C : Bs → Bool) (S : Bs → Int)
end

/-- A number of n bytes at a place, big end first, no sign. -/
def beL : Bs → Int → Int
  | [], v => v
  | c :: r, v => beL r (v * 256 + c)
def be (b : Bs) (at_ n : Nat) : Int := beL ((b.drop at_).take n) 0
/-- .. with its sign. -/
def sg (n : Nat) (v : Int) : Int := if 2 ^ (8 * n - 1) ≤ v then v - 2 ^ (8 * n) else v
def bes (b : Bs) (at_ n : Nat) : Int := sg n (be b at_ n)
def badBase (x : Int) : Bool := decide (x < 0 ∨ 4611686018427387648 < x)
def badProd (pid ep seq : Int) : Bool := !(decide (pid = -1 ∧ ep = -1 ∧ seq = -1) || decide (0 ≤ pid ∧ 0 ≤ ep ∧ 0 ≤ seq))
/-- batch.Measure. -/
def measure_ (b : Bs) (at_ : Int) : Int × Int :=
  if at_ < 0 ∨ (b.length : Int) < at_ then (0, 3)
  else if (b.length : Int) - at_ < 12 then (0, 1)
  else
    let n := bes b (at_.toNat + 8) 4
    if n < 49 then (0, 5) else if 35988 < n then (0, 4) else if (b.length : Int) - at_ - 12 < n then (0, 1) else (12 + n, 0)
section
variable (U : Bs → Bool) (C : Bs → Int)
/-- The bytes of a number of n bytes, big end first. -/
def digs (v : Int) : Nat → Bs
  | 0 => []
  | n + 1 => v / 256 ^ n % 256 :: digs v n
/-- An entry of an index. -/
structure Ent where
  base : Int
  count : Int
  at_ : Int
  size : Int
  last : Int
  pid : Int
  pep : Int
  seq : Int
end
end Go.Proofs.YtciikcmiiebfpaaGreatDoor
end
