-- PRINTED BY print.sh 35421559b90ae4d0a3588c463048766b98c2df88dd9212a6774a882060cdf62d: not written by this session
import Derived.Test.YtciikcmiiebfpaaGreatDoorPTopicsGetsx0
namespace Go.Proofs.YtciikcmiiebfpaaGreatDoor.PTopicsGets
open Go.RowKit Go.Proofs.YtciikcmiiebfpaaGreatDoorW.PrintWords Go.Proofs.YtciikcmiiebfpaaGreatDoorW.PrintLast Go.Proofs.YtciikcmiiebfpaaGreatDoorW.PrintMore
attribute [local go_sem] max2_int min2_int max_two min_two max_three min_three max_four min_four   -- for this text's walks alone
set_option linter.unusedVariables false
set_option linter.unusedSimpArgs false

mutual
def leatref09_mixed.l0 : Nat → List (S95) → Int → Option (Int)
  | 0, _, _ => none
  | k + 1, x0, x3 => if x3 < (x0.length : Int) then (leatref09_mixed.j1 k x0 x3 (decide ((x0.length : Int) > 1))) else (leatref09_mixed.j1 k x0 x3 false)
def leatref09_mixed.j1 : Nat → List (S95) → Int → Bool → Option (Int)
  | 0, _, _, _ => none
  | k + 1, x0, x3, x12 => if x12 = true then (if 0 ≤ x3 then (if x3 < (x0.length : Int) then (if ((rd_T95 x0 x3).f2) = (-1) then (leatref09_mixed.l0 k x0 (wrap64 (x3 + 1))) else (some x3)) else (none)) else (none)) else (some (-1))
end
def leatref09_mixed.f (k : Nat) (l0 : List (S95)) : Option (Int) := leatref09_mixed.l0 k l0 0
theorem leatref09_mixed.mono_l : ∀ k, (∀ y0 y1, LeO (leatref09_mixed.l0 k y0 y1) (leatref09_mixed.l0 (k + 1) y0 y1)) ∧ (∀ y0 y1 y2, LeO (leatref09_mixed.j1 k y0 y1 y2) (leatref09_mixed.j1 (k + 1) y0 y1 y2))
  | 0 => ⟨fun _ _ r h => by simp [leatref09_mixed.l0] at h, fun _ _ _ r h => by simp [leatref09_mixed.j1] at h⟩
  | k + 1 => by
    obtain ⟨ih0, ih1⟩ := leatref09_mixed.mono_l k
    refine ⟨?_, ?_⟩
    · intro y0 y1
      unfold leatref09_mixed.l0
      repeat' first
      | (with_reducible exact ih0 _ _)
      | (with_reducible exact ih1 _ _ _)
      | (with_reducible exact LeO.refl _)
      | (with_reducible exact LeO.none _)
      | (with_reducible refine LeO.ite ?_ ?_)
      | (with_reducible refine LeO.bind ?_ (fun _ => ?_))
      | exact ih0 _ _
      | exact ih1 _ _ _
      | exact LeO.none _
      | refine LeO.ite ?_ ?_
      | refine LeO.bind ?_ (fun _ => ?_)
    · intro y0 y1 y2
      unfold leatref09_mixed.j1
      repeat' first
      | (with_reducible exact ih0 _ _)
      | (with_reducible exact ih1 _ _ _)
      | (with_reducible exact LeO.refl _)
      | (with_reducible exact LeO.none _)
      | (with_reducible refine LeO.ite ?_ ?_)
      | (with_reducible refine LeO.bind ?_ (fun _ => ?_))
      | exact ih0 _ _
      | exact ih1 _ _ _
      | exact LeO.none _
      | refine LeO.ite ?_ ?_
      | refine LeO.bind ?_ (fun _ => ?_)
theorem leatref09_mixed.mono : ∀ a0 k, LeO (leatref09_mixed.f k a0) (leatref09_mixed.f (k + 1) a0) := by
  intro a0 k
  obtain ⟨ih0, ih1⟩ := leatref09_mixed.mono_l k
  unfold leatref09_mixed.f
  repeat' first
      | (with_reducible exact ih0 _ _)
      | (with_reducible exact ih1 _ _ _)
      | (with_reducible exact LeO.refl _)
      | (with_reducible exact LeO.none _)
      | (with_reducible refine LeO.ite ?_ ?_)
      | (with_reducible refine LeO.bind ?_ (fun _ => ?_))
      | exact ih0 _ _
      | exact ih1 _ _ _
      | exact LeO.none _
      | refine LeO.ite ?_ ?_
      | refine LeO.bind ?_ (fun _ => ?_)
def leatref06_length.l0 : Nat → List Int → Int → Int → Int → Option (Int)
  | 0, _, _, _, _ => none
  | k + 1, x0, x1, x2, x7 => if x7 < 131 then (if x7 < (wrap64 ((x0.length : Int) - x2)) then (if 0 ≤ (wrap64 (x1 + x7)) then (if (wrap64 (x1 + x7)) < (x0.length : Int) then (if 0 ≤ (wrap64 (x2 + x7)) then (if (wrap64 (x2 + x7)) < (x0.length : Int) then (if (rd x0 (wrap64 (x1 + x7))) = (rd x0 (wrap64 (x2 + x7))) then (leatref06_length.l0 k x0 x1 x2 (wrap64 (x7 + 1))) else (some x7)) else (none)) else (none)) else (none)) else (none)) else (some x7)) else (some x7)
def leatref06_length.f (k : Nat) (l0 : List Int) (a1 : Int) (a2 : Int) : Option (Int) := leatref06_length.l0 k l0 a1 a2 0
theorem leatref06_length.mono_l : ∀ k, (∀ y0 y1 y2 y3, LeO (leatref06_length.l0 k y0 y1 y2 y3) (leatref06_length.l0 (k + 1) y0 y1 y2 y3))
  | 0 => fun _ _ _ _ r h => by simp [leatref06_length.l0] at h
  | k + 1 => by
    have ih0 := leatref06_length.mono_l k
    · intro y0 y1 y2 y3
      unfold leatref06_length.l0
      repeat' first
      | (with_reducible exact ih0 _ _ _ _)
      | (with_reducible exact LeO.refl _)
      | (with_reducible exact LeO.none _)
      | (with_reducible refine LeO.ite ?_ ?_)
      | (with_reducible refine LeO.bind ?_ (fun _ => ?_))
      | exact ih0 _ _ _ _
      | exact LeO.none _
      | refine LeO.ite ?_ ?_
      | refine LeO.bind ?_ (fun _ => ?_)
theorem leatref06_length.mono : ∀ a0 a1 a2 k, LeO (leatref06_length.f k a0 a1 a2) (leatref06_length.f (k + 1) a0 a1 a2) := by
  intro a0 a1 a2 k
  have ih0 := leatref06_length.mono_l k
  unfold leatref06_length.f
  repeat' first
      | (with_reducible exact ih0 _ _ _ _)
      | (with_reducible exact LeO.refl _)
      | (with_reducible exact LeO.none _)
      | (with_reducible refine LeO.ite ?_ ?_)
      | (with_reducible refine LeO.bind ?_ (fun _ => ?_))
      | exact ih0 _ _ _ _
      | exact LeO.none _
      | refine LeO.ite ?_ ?_
      | refine LeO.bind ?_ (fun _ => ?_)
mutual
def leatref06_best.l0 : Nat → List Int → Int → Int → Int → Int → Int → Int → Option (Int × Int)
  | 0, _, _, _, _, _, _, _ => none
  | k + 1, x0, x1, x2, x8, x9, x10, x11 => if x11 ≥ 0 then (if (wrap64 (x1 - x11)) ≤ 4096 then (leatref06_best.j1 k x0 x1 x2 x8 x9 x10 x11 (decide (x10 < x2))) else (leatref06_best.j1 k x0 x1 x2 x8 x9 x10 x11 false)) else (leatref06_best.j1 k x0 x1 x2 x8 x9 x10 x11 false)
def leatref06_best.j1 : Nat → List Int → Int → Int → Int → Int → Int → Int → Bool → Option (Int × Int)
  | 0, _, _, _, _, _, _, _, _ => none
  | k + 1, x0, x1, x2, x8, x9, x10, x11, x27 => if x27 = true then ((leatref06_length.f k x0 x11 x1).bind fun t449 => (if t449 ≥ 4 then (if t449 > x9 then (leatref06_best.l0 k x0 x1 x2 (wrap64 (x1 - x11)) t449 (wrap64 (x10 + 1)) (wrap64 (x11 - 1))) else (leatref06_best.l0 k x0 x1 x2 x8 x9 (wrap64 (x10 + 1)) (wrap64 (x11 - 1)))) else (leatref06_best.l0 k x0 x1 x2 x8 x9 x10 (wrap64 (x11 - 1))))) else (some (x8, x9))
end
def leatref06_best.f (k : Nat) (l0 : List Int) (a1 : Int) (a2 : Int) : Option (Int × Int) := leatref06_best.l0 k l0 a1 a2 0 0 0 (wrap64 (a1 - 1))
theorem leatref06_best.mono_l : ∀ k, (∀ y0 y1 y2 y3 y4 y5 y6, LeO (leatref06_best.l0 k y0 y1 y2 y3 y4 y5 y6) (leatref06_best.l0 (k + 1) y0 y1 y2 y3 y4 y5 y6)) ∧ (∀ y0 y1 y2 y3 y4 y5 y6 y7, LeO (leatref06_best.j1 k y0 y1 y2 y3 y4 y5 y6 y7) (leatref06_best.j1 (k + 1) y0 y1 y2 y3 y4 y5 y6 y7))
  | 0 => ⟨fun _ _ _ _ _ _ _ r h => by simp [leatref06_best.l0] at h, fun _ _ _ _ _ _ _ _ r h => by simp [leatref06_best.j1] at h⟩
  | k + 1 => by
    obtain ⟨ih0, ih1⟩ := leatref06_best.mono_l k
    refine ⟨?_, ?_⟩
    · intro y0 y1 y2 y3 y4 y5 y6
      unfold leatref06_best.l0
      repeat' first
      | (with_reducible exact ih0 _ _ _ _ _ _ _)
      | (with_reducible exact ih1 _ _ _ _ _ _ _ _)
      | (with_reducible exact leatref06_length.mono _ _ _ _)
      | (with_reducible exact LeO.refl _)
      | (with_reducible exact LeO.none _)
      | (with_reducible refine LeO.ite ?_ ?_)
      | (with_reducible refine LeO.bind ?_ (fun _ => ?_))
      | exact ih0 _ _ _ _ _ _ _
      | exact ih1 _ _ _ _ _ _ _ _
      | exact leatref06_length.mono _ _ _ _
      | exact LeO.none _
      | refine LeO.ite ?_ ?_
      | refine LeO.bind ?_ (fun _ => ?_)
    · intro y0 y1 y2 y3 y4 y5 y6 y7
      unfold leatref06_best.j1
      repeat' first
      | (with_reducible exact ih0 _ _ _ _ _ _ _)
      | (with_reducible exact ih1 _ _ _ _ _ _ _ _)
      | (with_reducible exact leatref06_length.mono _ _ _ _)
      | (with_reducible exact LeO.refl _)
      | (with_reducible exact LeO.none _)
      | (with_reducible refine LeO.ite ?_ ?_)
      | (with_reducible refine LeO.bind ?_ (fun _ => ?_))
      | exact ih0 _ _ _ _ _ _ _
      | exact ih1 _ _ _ _ _ _ _ _
      | exact leatref06_length.mono _ _ _ _
      | exact LeO.none _
      | refine LeO.ite ?_ ?_
      | refine LeO.bind ?_ (fun _ => ?_)
theorem leatref06_best.mono : ∀ a0 a1 a2 k, LeO (leatref06_best.f k a0 a1 a2) (leatref06_best.f (k + 1) a0 a1 a2) := by
  intro a0 a1 a2 k
  obtain ⟨ih0, ih1⟩ := leatref06_best.mono_l k
  unfold leatref06_best.f
  repeat' first
      | (with_reducible exact ih0 _ _ _ _ _ _ _)
      | (with_reducible exact ih1 _ _ _ _ _ _ _ _)
      | (with_reducible exact leatref06_length.mono _ _ _ _)
      | (with_reducible exact LeO.refl _)
      | (with_reducible exact LeO.none _)
      | (with_reducible refine LeO.ite ?_ ?_)
      | (with_reducible refine LeO.bind ?_ (fun _ => ?_))
      | exact ih0 _ _ _ _ _ _ _
      | exact ih1 _ _ _ _ _ _ _ _
      | exact leatref06_length.mono _ _ _ _
      | exact LeO.none _
      | refine LeO.ite ?_ ?_
      | refine LeO.bind ?_ (fun _ => ?_)
-- NOT PRINTED: function 234 (leatref06_literals)

-- NOT PRINTED: function 183 (leatref06_Tokens)

def leatref05_Literal.f (l0_0 : List Int) (a0_1 : Int) (a0_2 : Int) : Option (Bool) := if a0_1 = 0 then (if a0_2 = 0 then (if (l0_0.length : Int) > 0 then (some (decide ((l0_0.length : Int) ≤ 128))) else (some false)) else (some false)) else (some false)
def leatref05_Copies.f (l0_0 : List Int) (a0_1 : Int) (a0_2 : Int) : Option (Bool) := if (l0_0.length : Int) > 0 then (some false) else (if a0_1 < 1 then (some false) else (if a0_1 > 4096 then (some false) else (if a0_2 ≥ 4 then (some (decide (a0_2 ≤ 131))) else (some false))))
end Go.Proofs.YtciikcmiiebfpaaGreatDoor.PTopicsGets
