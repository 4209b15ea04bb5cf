-- PRINTED BY print.sh 35421559b90ae4d0a3588c463048766b98c2df88dd9212a6774a882060cdf62d: not written by this session
import Derived.Test.YtciikcmiiebfpaaGreatDoorPTopicsGetsx0
namespace Go.Proofs.YtciikcmiiebfpaaGreatDoor.PTopicsGets
open Go.RowKit Go.Proofs.YtciikcmiiebfpaaGreatDoorW.PrintWords Go.Proofs.YtciikcmiiebfpaaGreatDoorW.PrintLast Go.Proofs.YtciikcmiiebfpaaGreatDoorW.PrintMore
attribute [local go_sem] max2_int min2_int max_two min_two max_three min_three max_four min_four   -- for this text's walks alone
set_option linter.unusedVariables false
set_option linter.unusedSimpArgs false

mutual
def leatref18_Named.j0 : Nat → ByteArray → Bool → Option (Bool)
  | 0, _, _ => none
  | k + 1, x0, x13 => if x13 = true then (some false) else (leatref18_Named.l0 k x0 0)
def leatref18_Named.l0 : Nat → ByteArray → Int → Option (Bool)
  | 0, _, _ => none
  | k + 1, x0, x3 => if x3 < (x0.size : Int) then (if 0 ≤ x3 then (if (bt x0 x3) ≥ 97 then (if (bt x0 x3) ≤ 122 then (leatref18_Named.l0 k x0 (wrap64 (x3 + 1))) else (if (bt x0 x3) ≥ 65 then (if (bt x0 x3) ≤ 90 then (leatref18_Named.l0 k x0 (wrap64 (x3 + 1))) else (if (bt x0 x3) ≥ 48 then (if ((bt x0 x3) ≤ 57) then (leatref18_Named.l0 k x0 (wrap64 (x3 + 1))) else (if (bt x0 x3) = 46 then (leatref18_Named.l0 k x0 (wrap64 (x3 + 1))) else (if (bt x0 x3) = 95 then (leatref18_Named.l0 k x0 (wrap64 (x3 + 1))) else (if (bt x0 x3) = 45 then (leatref18_Named.l0 k x0 (wrap64 (x3 + 1))) else (if (bt x0 x3) = 47 then (leatref18_Named.l0 k x0 (wrap64 (x3 + 1))) else (some false)))))) else (if (bt x0 x3) = 46 then (leatref18_Named.l0 k x0 (wrap64 (x3 + 1))) else (if (bt x0 x3) = 95 then (leatref18_Named.l0 k x0 (wrap64 (x3 + 1))) else (if (bt x0 x3) = 45 then (leatref18_Named.l0 k x0 (wrap64 (x3 + 1))) else (if (bt x0 x3) = 47 then (leatref18_Named.l0 k x0 (wrap64 (x3 + 1))) else (some false))))))) else (if (bt x0 x3) ≥ 48 then (if ((bt x0 x3) ≤ 57) then (leatref18_Named.l0 k x0 (wrap64 (x3 + 1))) else (if (bt x0 x3) = 46 then (leatref18_Named.l0 k x0 (wrap64 (x3 + 1))) else (if (bt x0 x3) = 95 then (leatref18_Named.l0 k x0 (wrap64 (x3 + 1))) else (if (bt x0 x3) = 45 then (leatref18_Named.l0 k x0 (wrap64 (x3 + 1))) else (if (bt x0 x3) = 47 then (leatref18_Named.l0 k x0 (wrap64 (x3 + 1))) else (some false)))))) else (if (bt x0 x3) = 46 then (leatref18_Named.l0 k x0 (wrap64 (x3 + 1))) else (if (bt x0 x3) = 95 then (leatref18_Named.l0 k x0 (wrap64 (x3 + 1))) else (if (bt x0 x3) = 45 then (leatref18_Named.l0 k x0 (wrap64 (x3 + 1))) else (if (bt x0 x3) = 47 then (leatref18_Named.l0 k x0 (wrap64 (x3 + 1))) else (some false)))))))) else (if (bt x0 x3) ≥ 65 then (if (bt x0 x3) ≤ 90 then (leatref18_Named.l0 k x0 (wrap64 (x3 + 1))) else (if (bt x0 x3) ≥ 48 then (if ((bt x0 x3) ≤ 57) then (leatref18_Named.l0 k x0 (wrap64 (x3 + 1))) else (if (bt x0 x3) = 46 then (leatref18_Named.l0 k x0 (wrap64 (x3 + 1))) else (if (bt x0 x3) = 95 then (leatref18_Named.l0 k x0 (wrap64 (x3 + 1))) else (if (bt x0 x3) = 45 then (leatref18_Named.l0 k x0 (wrap64 (x3 + 1))) else (if (bt x0 x3) = 47 then (leatref18_Named.l0 k x0 (wrap64 (x3 + 1))) else (some false)))))) else (if (bt x0 x3) = 46 then (leatref18_Named.l0 k x0 (wrap64 (x3 + 1))) else (if (bt x0 x3) = 95 then (leatref18_Named.l0 k x0 (wrap64 (x3 + 1))) else (if (bt x0 x3) = 45 then (leatref18_Named.l0 k x0 (wrap64 (x3 + 1))) else (if (bt x0 x3) = 47 then (leatref18_Named.l0 k x0 (wrap64 (x3 + 1))) else (some false))))))) else (if (bt x0 x3) ≥ 48 then (if ((bt x0 x3) ≤ 57) then (leatref18_Named.l0 k x0 (wrap64 (x3 + 1))) else (if (bt x0 x3) = 46 then (leatref18_Named.l0 k x0 (wrap64 (x3 + 1))) else (if (bt x0 x3) = 95 then (leatref18_Named.l0 k x0 (wrap64 (x3 + 1))) else (if (bt x0 x3) = 45 then (leatref18_Named.l0 k x0 (wrap64 (x3 + 1))) else (if (bt x0 x3) = 47 then (leatref18_Named.l0 k x0 (wrap64 (x3 + 1))) else (some false)))))) else (if (bt x0 x3) = 46 then (leatref18_Named.l0 k x0 (wrap64 (x3 + 1))) else (if (bt x0 x3) = 95 then (leatref18_Named.l0 k x0 (wrap64 (x3 + 1))) else (if (bt x0 x3) = 45 then (leatref18_Named.l0 k x0 (wrap64 (x3 + 1))) else (if (bt x0 x3) = 47 then (leatref18_Named.l0 k x0 (wrap64 (x3 + 1))) else (some false)))))))) else (none)) else (some true)
end
def leatref18_Named.f (k : Nat) (a0 : ByteArray) : Option (Bool) := if (a0.size : Int) = 0 then (leatref18_Named.j0 k a0 true) else (leatref18_Named.j0 k a0 (decide ((a0.size : Int) > 120)))
theorem leatref18_Named.mono_l : ∀ k, (∀ y0 y1, LeO (leatref18_Named.j0 k y0 y1) (leatref18_Named.j0 (k + 1) y0 y1)) ∧ (∀ y0 y1, LeO (leatref18_Named.l0 k y0 y1) (leatref18_Named.l0 (k + 1) y0 y1))
  | 0 => ⟨fun _ _ r h => by simp [leatref18_Named.j0] at h, fun _ _ r h => by simp [leatref18_Named.l0] at h⟩
  | k + 1 => by
    obtain ⟨ih0, ih1⟩ := leatref18_Named.mono_l k
    refine ⟨?_, ?_⟩
    · intro y0 y1
      unfold leatref18_Named.j0
      repeat' first
      | (with_reducible exact ih0 _ _)
      | (with_reducible exact ih1 _ _)
      | (with_reducible exact LeO.refl _)
      | (with_reducible exact LeO.none _)
      | (with_reducible refine LeO.ite ?_ ?_)
      | (with_reducible refine LeO.bind ?_ (fun _ => ?_))
      | exact ih0 _ _
      | exact ih1 _ _
      | exact LeO.none _
      | refine LeO.ite ?_ ?_
      | refine LeO.bind ?_ (fun _ => ?_)
    · intro y0 y1
      unfold leatref18_Named.l0
      repeat' first
      | (with_reducible exact ih0 _ _)
      | (with_reducible exact ih1 _ _)
      | (with_reducible exact LeO.refl _)
      | (with_reducible exact LeO.none _)
      | (with_reducible refine LeO.ite ?_ ?_)
      | (with_reducible refine LeO.bind ?_ (fun _ => ?_))
      | exact ih0 _ _
      | exact ih1 _ _
      | exact LeO.none _
      | refine LeO.ite ?_ ?_
      | refine LeO.bind ?_ (fun _ => ?_)
theorem leatref18_Named.mono : ∀ a0 k, LeO (leatref18_Named.f k a0) (leatref18_Named.f (k + 1) a0) := by
  intro a0 k
  obtain ⟨ih0, ih1⟩ := leatref18_Named.mono_l k
  unfold leatref18_Named.f
  repeat' first
      | (with_reducible exact ih0 _ _)
      | (with_reducible exact ih1 _ _)
      | (with_reducible exact LeO.refl _)
      | (with_reducible exact LeO.none _)
      | (with_reducible refine LeO.ite ?_ ?_)
      | (with_reducible refine LeO.bind ?_ (fun _ => ?_))
      | exact ih0 _ _
      | exact ih1 _ _
      | exact LeO.none _
      | refine LeO.ite ?_ ?_
      | refine LeO.bind ?_ (fun _ => ?_)
set_option maxHeartbeats 8000000 in
set_option maxRecDepth 100000 in
theorem leatref18_Named.calls (k : Nat) (a0 : ByteArray) (r : Bool) (w : World) (h : leatref18_Named.f k a0 = some r) :
    Calls Tryz.prog 54 #[.string a0] w fun e w' => e = .returned (.bool r) ∧ Drawn0 w w' := by
  have H : (if (a0.size : Int) = 0 then (leatref18_Named.j0 k a0 true) else (leatref18_Named.j0 k a0 (decide ((a0.size : Int) > 120)))) = some r := h
  clear h
  have HC2 := Aside0.mk H
  clear H
  go_enter Tryz.func54, Tryz.ntmps54
  go_upto_region 1 with (fail)
  go_cut [13] (fun v13 wc => ∃ (kq : Nat) (x13_1 : Bool), v13 = .bool x13_1 ∧ Aside0 (leatref18_Named.j0 kq a0 x13_1 = some r) ∧ Aside0 (kq ≤ k) ∧ Drawn0 w wc)
  case first =>
    have H := HC2.out
    clear HC2
    by_cases c3 : (a0.size : Int) = 0
    · rw [if_pos c3] at H
      have c3b0 : ((a0.size : Int) == 0) = true := beq_iff_eq.mpr c3
      have c3b1 : ((a0.size : Int) != 0) = false := bne_eq_false_iff_eq.mpr c3
      clear c3
      (first | rw [c3b0] | (simp only [i64_w, i32_w]; rw [c3b0]) | skip)
      have H' := Aside0.mk H
      clear H
      go_wp2
      go_meet
      case rel => exact ⟨_, (true), (by first | rfl | (simp; done) | (simp [*]; done)), H', ⟨by first | omega | exact Nat.le_refl _⟩, by repeat (first | exact Drawn0.refl _ | apply Drawn0.step)⟩
    · rw [if_neg c3] at H
      have c3b0 : ((a0.size : Int) == 0) = false := beq_eq_false_iff_ne.mpr c3
      have c3b1 : ((a0.size : Int) != 0) = true := bne_iff_ne.mpr c3
      (first | rw [c3b0] | (simp only [i64_w, i32_w]; rw [c3b0]) | skip)
      have H' := Aside0.mk H
      clear H
      go_wp2
      go_meet
      case rel => exact ⟨_, (decide ((a0.size : Int) > 120)), (by first | rfl | (simp; done) | (simp [*]; done)), H', ⟨by first | omega | exact Nat.le_refl _⟩, by repeat (first | exact Drawn0.refl _ | apply Drawn0.step)⟩
  case rest =>
    clear HC2
    try clear p2
    try clear c3
    try clear c3b0
    try clear c3b1
    obtain ⟨kq, x13_1, rfl, HA, HJ1, ⟨mc1, rfl⟩⟩ := hcut
    cases kq with
    | zero => exact absurd HA.out (by simp [leatref18_Named.j0])
    | succ kj1 =>
      have H := HA.out
      clear HA
      simp only [leatref18_Named.j0] at H
      by_cases c4 : x13_1 = true
      · subst c4
        have H1 : (some false) = some r := by rw [if_pos rfl] at H; exact H
        clear H
        have H := H1
        clear H1
        obtain rfl := Option.some.inj H
        go_wp2
        go_ret
        exact ⟨by first | rfl | (simp; done) | (simp [*]; done), by repeat (first | exact Drawn0.refl _ | apply Drawn0.step)⟩
      · replace c4 := Bool.eq_false_iff.mpr c4
        subst c4
        have H1 : (leatref18_Named.l0 kj1 a0 0) = some r := by rw [if_neg (show ¬ (false = true) by decide)] at H; exact H
        clear H
        have H := H1
        clear H1
        have H' := Aside0.mk H
        clear H
        go_wp2
        go_loopg [3] kj1 (fun kq v3 w' => ∃ (x3_2 : Int), v3 = .int .i64 x3_2 ∧ Aside0 (leatref18_Named.l0 kq a0 x3_2 = some r) ∧ Aside0 (kq ≤ kj1) ∧ Drawn0 w w')
        case atStart => exact ⟨(0), (by first | rfl | (simp; done) | (simp [*]; done)), H', ⟨Nat.le_refl _⟩, by repeat (first | exact Drawn0.refl _ | apply Drawn0.step)⟩
        case round =>
          clear H'
          try clear c1
          try clear p2
          try clear c3
          try clear c3b0
          try clear c3b1
          try clear c4
          try clear p2
          obtain ⟨x3_2, rfl, HA, HK2, ⟨m2, rfl⟩⟩ := hrel
          cases gk with
          | zero => exact absurd HA.out (by simp [leatref18_Named.l0])
          | succ k2 =>
            have H := HA.out
            clear HA
            simp only [leatref18_Named.l0] at H
            by_cases c5 : x3_2 < (a0.size : Int)
            · rw [if_pos c5] at H
              have c5b0 : decide (x3_2 < (a0.size : Int)) = true := decide_eq_true c5
              clear c5
              by_cases c6 : 0 ≤ x3_2
              · rw [if_pos c6] at H
                have c6b0 : decide (0 ≤ x3_2) = true := decide_eq_true c6
                clear c6
                by_cases c8 : (bt a0 x3_2) ≥ 97
                · rw [if_pos c8] at H
                  have c8b0 : decide (97 ≤ (bt a0 x3_2)) = true := decide_eq_true c8
                  clear c8
                  by_cases c9 : (bt a0 x3_2) ≤ 122
                  · rw [if_pos c9] at H
                    have c9b0 : decide ((bt a0 x3_2) ≤ 122) = true := decide_eq_true c9
                    clear c9
                    have H' := Aside0.mk H
                    clear H
                    have p7 : 0 ≤ (x3_2 : Int) := of_decide_eq_true (by first | (with_reducible assumption) | assumption)
                    have q7 : x3_2 < (a0.size : Int) := of_decide_eq_true (by first | (with_reducible assumption) | assumption)
                    have hx7 := bt_at a0 x3_2
                    replace p7 := eq_true p7
                    replace q7 := eq_true q7
                    go_wp2
                    go_roundg k2
                    case measure => have := HJ1.out; have := HK2.out; omega
                    case rel => exact ⟨(wrap64 (x3_2 + 1)), (by first | rfl | (simp; done) | (simp [*]; done)), H', ⟨by have := HJ1.out; have := HK2.out; omega⟩, by repeat (first | exact Drawn0.refl _ | apply Drawn0.step)⟩
                  · rw [if_neg c9] at H
                    have c9b0 : decide ((bt a0 x3_2) ≤ 122) = false := decide_eq_false c9
                    clear c9
                    by_cases c10 : (bt a0 x3_2) ≥ 65
                    · rw [if_pos c10] at H
                      have c10b0 : decide (65 ≤ (bt a0 x3_2)) = true := decide_eq_true c10
                      clear c10
                      by_cases c11 : (bt a0 x3_2) ≤ 90
                      · rw [if_pos c11] at H
                        have c11b0 : decide ((bt a0 x3_2) ≤ 90) = true := decide_eq_true c11
                        clear c11
                        have H' := Aside0.mk H
                        clear H
                        have p7 : 0 ≤ (x3_2 : Int) := of_decide_eq_true (by first | (with_reducible assumption) | assumption)
                        have q7 : x3_2 < (a0.size : Int) := of_decide_eq_true (by first | (with_reducible assumption) | assumption)
                        have hx7 := bt_at a0 x3_2
                        replace p7 := eq_true p7
                        replace q7 := eq_true q7
                        go_wp2
                        go_roundg k2
                        case measure => have := HJ1.out; have := HK2.out; omega
                        case rel => exact ⟨(wrap64 (x3_2 + 1)), (by first | rfl | (simp; done) | (simp [*]; done)), H', ⟨by have := HJ1.out; have := HK2.out; omega⟩, by repeat (first | exact Drawn0.refl _ | apply Drawn0.step)⟩
                      · rw [if_neg c11] at H
                        have c11b0 : decide ((bt a0 x3_2) ≤ 90) = false := decide_eq_false c11
                        clear c11
                        by_cases c12 : (bt a0 x3_2) ≥ 48
                        · rw [if_pos c12] at H
                          have c12b0 : decide (48 ≤ (bt a0 x3_2)) = true := decide_eq_true c12
                          clear c12
                          by_cases c13 : ((bt a0 x3_2) ≤ 57)
                          · rw [if_pos c13] at H
                            have c13b0 : decide ((bt a0 x3_2) ≤ 57) = true := decide_eq_true c13
                            clear c13
                            have H' := Aside0.mk H
                            clear H
                            have p7 : 0 ≤ (x3_2 : Int) := of_decide_eq_true (by first | (with_reducible assumption) | assumption)
                            have q7 : x3_2 < (a0.size : Int) := of_decide_eq_true (by first | (with_reducible assumption) | assumption)
                            have hx7 := bt_at a0 x3_2
                            replace p7 := eq_true p7
                            replace q7 := eq_true q7
                            go_wp2
                            go_roundg k2
                            case measure => have := HJ1.out; have := HK2.out; omega
                            case rel => exact ⟨(wrap64 (x3_2 + 1)), (by first | rfl | (simp; done) | (simp [*]; done)), H', ⟨by have := HJ1.out; have := HK2.out; omega⟩, by repeat (first | exact Drawn0.refl _ | apply Drawn0.step)⟩
                          · rw [if_neg c13] at H
                            have c13b0 : decide ((bt a0 x3_2) ≤ 57) = false := decide_eq_false c13
                            clear c13
                            by_cases c14 : (bt a0 x3_2) = 46
                            · rw [if_pos c14] at H
                              have c14b0 : ((bt a0 x3_2) == 46) = true := beq_iff_eq.mpr c14
                              have c14b1 : ((bt a0 x3_2) != 46) = false := bne_eq_false_iff_eq.mpr c14
                              clear c14
                              have H' := Aside0.mk H
                              clear H
                              have p7 : 0 ≤ (x3_2 : Int) := of_decide_eq_true (by first | (with_reducible assumption) | assumption)
                              have q7 : x3_2 < (a0.size : Int) := of_decide_eq_true (by first | (with_reducible assumption) | assumption)
                              have hx7 := bt_at a0 x3_2
                              replace p7 := eq_true p7
                              replace q7 := eq_true q7
                              go_wp2
                              go_roundg k2
                              case measure => have := HJ1.out; have := HK2.out; omega
                              case rel => exact ⟨(wrap64 (x3_2 + 1)), (by first | rfl | (simp; done) | (simp [*]; done)), H', ⟨by have := HJ1.out; have := HK2.out; omega⟩, by repeat (first | exact Drawn0.refl _ | apply Drawn0.step)⟩
                            · rw [if_neg c14] at H
                              have c14b0 : ((bt a0 x3_2) == 46) = false := beq_eq_false_iff_ne.mpr c14
                              have c14b1 : ((bt a0 x3_2) != 46) = true := bne_iff_ne.mpr c14
                              by_cases c15 : (bt a0 x3_2) = 95
                              · rw [if_pos c15] at H
                                have c15b0 : ((bt a0 x3_2) == 95) = true := beq_iff_eq.mpr c15
                                have c15b1 : ((bt a0 x3_2) != 95) = false := bne_eq_false_iff_eq.mpr c15
                                clear c15
                                have H' := Aside0.mk H
                                clear H
                                have p7 : 0 ≤ (x3_2 : Int) := of_decide_eq_true (by first | (with_reducible assumption) | assumption)
                                have q7 : x3_2 < (a0.size : Int) := of_decide_eq_true (by first | (with_reducible assumption) | assumption)
                                have hx7 := bt_at a0 x3_2
                                replace p7 := eq_true p7
                                replace q7 := eq_true q7
                                go_wp2
                                go_roundg k2
                                case measure => have := HJ1.out; have := HK2.out; omega
                                case rel => exact ⟨(wrap64 (x3_2 + 1)), (by first | rfl | (simp; done) | (simp [*]; done)), H', ⟨by have := HJ1.out; have := HK2.out; omega⟩, by repeat (first | exact Drawn0.refl _ | apply Drawn0.step)⟩
                              · rw [if_neg c15] at H
                                have c15b0 : ((bt a0 x3_2) == 95) = false := beq_eq_false_iff_ne.mpr c15
                                have c15b1 : ((bt a0 x3_2) != 95) = true := bne_iff_ne.mpr c15
                                by_cases c16 : (bt a0 x3_2) = 45
                                · rw [if_pos c16] at H
                                  have c16b0 : ((bt a0 x3_2) == 45) = true := beq_iff_eq.mpr c16
                                  have c16b1 : ((bt a0 x3_2) != 45) = false := bne_eq_false_iff_eq.mpr c16
                                  clear c16
                                  have H' := Aside0.mk H
                                  clear H
                                  have p7 : 0 ≤ (x3_2 : Int) := of_decide_eq_true (by first | (with_reducible assumption) | assumption)
                                  have q7 : x3_2 < (a0.size : Int) := of_decide_eq_true (by first | (with_reducible assumption) | assumption)
                                  have hx7 := bt_at a0 x3_2
                                  replace p7 := eq_true p7
                                  replace q7 := eq_true q7
                                  go_wp2
                                  go_roundg k2
                                  case measure => have := HJ1.out; have := HK2.out; omega
                                  case rel => exact ⟨(wrap64 (x3_2 + 1)), (by first | rfl | (simp; done) | (simp [*]; done)), H', ⟨by have := HJ1.out; have := HK2.out; omega⟩, by repeat (first | exact Drawn0.refl _ | apply Drawn0.step)⟩
                                · rw [if_neg c16] at H
                                  have c16b0 : ((bt a0 x3_2) == 45) = false := beq_eq_false_iff_ne.mpr c16
                                  have c16b1 : ((bt a0 x3_2) != 45) = true := bne_iff_ne.mpr c16
                                  by_cases c17 : (bt a0 x3_2) = 47
                                  · rw [if_pos c17] at H
                                    have c17b0 : ((bt a0 x3_2) == 47) = true := beq_iff_eq.mpr c17
                                    have c17b1 : ((bt a0 x3_2) != 47) = false := bne_eq_false_iff_eq.mpr c17
                                    clear c17
                                    have H' := Aside0.mk H
                                    clear H
                                    have p7 : 0 ≤ (x3_2 : Int) := of_decide_eq_true (by first | (with_reducible assumption) | assumption)
                                    have q7 : x3_2 < (a0.size : Int) := of_decide_eq_true (by first | (with_reducible assumption) | assumption)
                                    have hx7 := bt_at a0 x3_2
                                    replace p7 := eq_true p7
                                    replace q7 := eq_true q7
                                    go_wp2
                                    go_roundg k2
                                    case measure => have := HJ1.out; have := HK2.out; omega
                                    case rel => exact ⟨(wrap64 (x3_2 + 1)), (by first | rfl | (simp; done) | (simp [*]; done)), H', ⟨by have := HJ1.out; have := HK2.out; omega⟩, by repeat (first | exact Drawn0.refl _ | apply Drawn0.step)⟩
                                  · rw [if_neg c17] at H
                                    have c17b0 : ((bt a0 x3_2) == 47) = false := beq_eq_false_iff_ne.mpr c17
                                    have c17b1 : ((bt a0 x3_2) != 47) = true := bne_iff_ne.mpr c17
                                    obtain rfl := Option.some.inj H
                                    have p7 : 0 ≤ (x3_2 : Int) := of_decide_eq_true (by first | (with_reducible assumption) | assumption)
                                    have q7 : x3_2 < (a0.size : Int) := of_decide_eq_true (by first | (with_reducible assumption) | assumption)
                                    have hx7 := bt_at a0 x3_2
                                    replace p7 := eq_true p7
                                    replace q7 := eq_true q7
                                    go_wp2
                                    go_ret
                                    exact ⟨by first | rfl | (simp; done) | (simp [*]; done), by repeat (first | exact Drawn0.refl _ | apply Drawn0.step)⟩
                        · rw [if_neg c12] at H
                          have c12b0 : decide (48 ≤ (bt a0 x3_2)) = false := decide_eq_false c12
                          clear c12
                          by_cases c18 : (bt a0 x3_2) = 46
                          · rw [if_pos c18] at H
                            have c18b0 : ((bt a0 x3_2) == 46) = true := beq_iff_eq.mpr c18
                            have c18b1 : ((bt a0 x3_2) != 46) = false := bne_eq_false_iff_eq.mpr c18
                            clear c18
                            have H' := Aside0.mk H
                            clear H
                            have p7 : 0 ≤ (x3_2 : Int) := of_decide_eq_true (by first | (with_reducible assumption) | assumption)
                            have q7 : x3_2 < (a0.size : Int) := of_decide_eq_true (by first | (with_reducible assumption) | assumption)
                            have hx7 := bt_at a0 x3_2
                            replace p7 := eq_true p7
                            replace q7 := eq_true q7
                            go_wp2
                            go_roundg k2
                            case measure => have := HJ1.out; have := HK2.out; omega
                            case rel => exact ⟨(wrap64 (x3_2 + 1)), (by first | rfl | (simp; done) | (simp [*]; done)), H', ⟨by have := HJ1.out; have := HK2.out; omega⟩, by repeat (first | exact Drawn0.refl _ | apply Drawn0.step)⟩
                          · rw [if_neg c18] at H
                            have c18b0 : ((bt a0 x3_2) == 46) = false := beq_eq_false_iff_ne.mpr c18
                            have c18b1 : ((bt a0 x3_2) != 46) = true := bne_iff_ne.mpr c18
                            by_cases c19 : (bt a0 x3_2) = 95
                            · rw [if_pos c19] at H
                              have c19b0 : ((bt a0 x3_2) == 95) = true := beq_iff_eq.mpr c19
                              have c19b1 : ((bt a0 x3_2) != 95) = false := bne_eq_false_iff_eq.mpr c19
                              clear c19
                              have H' := Aside0.mk H
                              clear H
                              have p7 : 0 ≤ (x3_2 : Int) := of_decide_eq_true (by first | (with_reducible assumption) | assumption)
                              have q7 : x3_2 < (a0.size : Int) := of_decide_eq_true (by first | (with_reducible assumption) | assumption)
                              have hx7 := bt_at a0 x3_2
                              replace p7 := eq_true p7
                              replace q7 := eq_true q7
                              go_wp2
                              go_roundg k2
                              case measure => have := HJ1.out; have := HK2.out; omega
                              case rel => exact ⟨(wrap64 (x3_2 + 1)), (by first | rfl | (simp; done) | (simp [*]; done)), H', ⟨by have := HJ1.out; have := HK2.out; omega⟩, by repeat (first | exact Drawn0.refl _ | apply Drawn0.step)⟩
                            · rw [if_neg c19] at H
                              have c19b0 : ((bt a0 x3_2) == 95) = false := beq_eq_false_iff_ne.mpr c19
                              have c19b1 : ((bt a0 x3_2) != 95) = true := bne_iff_ne.mpr c19
                              by_cases c20 : (bt a0 x3_2) = 45
                              · rw [if_pos c20] at H
                                have c20b0 : ((bt a0 x3_2) == 45) = true := beq_iff_eq.mpr c20
                                have c20b1 : ((bt a0 x3_2) != 45) = false := bne_eq_false_iff_eq.mpr c20
                                clear c20
                                have H' := Aside0.mk H
                                clear H
                                have p7 : 0 ≤ (x3_2 : Int) := of_decide_eq_true (by first | (with_reducible assumption) | assumption)
                                have q7 : x3_2 < (a0.size : Int) := of_decide_eq_true (by first | (with_reducible assumption) | assumption)
                                have hx7 := bt_at a0 x3_2
                                replace p7 := eq_true p7
                                replace q7 := eq_true q7
                                go_wp2
                                go_roundg k2
                                case measure => have := HJ1.out; have := HK2.out; omega
                                case rel => exact ⟨(wrap64 (x3_2 + 1)), (by first | rfl | (simp; done) | (simp [*]; done)), H', ⟨by have := HJ1.out; have := HK2.out; omega⟩, by repeat (first | exact Drawn0.refl _ | apply Drawn0.step)⟩
                              · rw [if_neg c20] at H
                                have c20b0 : ((bt a0 x3_2) == 45) = false := beq_eq_false_iff_ne.mpr c20
                                have c20b1 : ((bt a0 x3_2) != 45) = true := bne_iff_ne.mpr c20
                                by_cases c21 : (bt a0 x3_2) = 47
                                · rw [if_pos c21] at H
                                  have c21b0 : ((bt a0 x3_2) == 47) = true := beq_iff_eq.mpr c21
                                  have c21b1 : ((bt a0 x3_2) != 47) = false := bne_eq_false_iff_eq.mpr c21
                                  clear c21
                                  have H' := Aside0.mk H
                                  clear H
                                  have p7 : 0 ≤ (x3_2 : Int) := of_decide_eq_true (by first | (with_reducible assumption) | assumption)
                                  have q7 : x3_2 < (a0.size : Int) := of_decide_eq_true (by first | (with_reducible assumption) | assumption)
                                  have hx7 := bt_at a0 x3_2
                                  replace p7 := eq_true p7
                                  replace q7 := eq_true q7
                                  go_wp2
                                  go_roundg k2
                                  case measure => have := HJ1.out; have := HK2.out; omega
                                  case rel => exact ⟨(wrap64 (x3_2 + 1)), (by first | rfl | (simp; done) | (simp [*]; done)), H', ⟨by have := HJ1.out; have := HK2.out; omega⟩, by repeat (first | exact Drawn0.refl _ | apply Drawn0.step)⟩
                                · rw [if_neg c21] at H
                                  have c21b0 : ((bt a0 x3_2) == 47) = false := beq_eq_false_iff_ne.mpr c21
                                  have c21b1 : ((bt a0 x3_2) != 47) = true := bne_iff_ne.mpr c21
                                  obtain rfl := Option.some.inj H
                                  have p7 : 0 ≤ (x3_2 : Int) := of_decide_eq_true (by first | (with_reducible assumption) | assumption)
                                  have q7 : x3_2 < (a0.size : Int) := of_decide_eq_true (by first | (with_reducible assumption) | assumption)
                                  have hx7 := bt_at a0 x3_2
                                  replace p7 := eq_true p7
                                  replace q7 := eq_true q7
                                  go_wp2
                                  go_ret
                                  exact ⟨by first | rfl | (simp; done) | (simp [*]; done), by repeat (first | exact Drawn0.refl _ | apply Drawn0.step)⟩
                    · rw [if_neg c10] at H
                      have c10b0 : decide (65 ≤ (bt a0 x3_2)) = false := decide_eq_false c10
                      clear c10
                      by_cases c22 : (bt a0 x3_2) ≥ 48
                      · rw [if_pos c22] at H
                        have c22b0 : decide (48 ≤ (bt a0 x3_2)) = true := decide_eq_true c22
                        clear c22
                        by_cases c23 : ((bt a0 x3_2) ≤ 57)
                        · rw [if_pos c23] at H
                          have c23b0 : decide ((bt a0 x3_2) ≤ 57) = true := decide_eq_true c23
                          clear c23
                          have H' := Aside0.mk H
                          clear H
                          have p7 : 0 ≤ (x3_2 : Int) := of_decide_eq_true (by first | (with_reducible assumption) | assumption)
                          have q7 : x3_2 < (a0.size : Int) := of_decide_eq_true (by first | (with_reducible assumption) | assumption)
                          have hx7 := bt_at a0 x3_2
                          replace p7 := eq_true p7
                          replace q7 := eq_true q7
                          go_wp2
                          go_roundg k2
                          case measure => have := HJ1.out; have := HK2.out; omega
                          case rel => exact ⟨(wrap64 (x3_2 + 1)), (by first | rfl | (simp; done) | (simp [*]; done)), H', ⟨by have := HJ1.out; have := HK2.out; omega⟩, by repeat (first | exact Drawn0.refl _ | apply Drawn0.step)⟩
                        · rw [if_neg c23] at H
                          have c23b0 : decide ((bt a0 x3_2) ≤ 57) = false := decide_eq_false c23
                          clear c23
                          by_cases c24 : (bt a0 x3_2) = 46
                          · rw [if_pos c24] at H
                            have c24b0 : ((bt a0 x3_2) == 46) = true := beq_iff_eq.mpr c24
                            have c24b1 : ((bt a0 x3_2) != 46) = false := bne_eq_false_iff_eq.mpr c24
                            clear c24
                            have H' := Aside0.mk H
                            clear H
                            have p7 : 0 ≤ (x3_2 : Int) := of_decide_eq_true (by first | (with_reducible assumption) | assumption)
                            have q7 : x3_2 < (a0.size : Int) := of_decide_eq_true (by first | (with_reducible assumption) | assumption)
                            have hx7 := bt_at a0 x3_2
                            replace p7 := eq_true p7
                            replace q7 := eq_true q7
                            go_wp2
                            go_roundg k2
                            case measure => have := HJ1.out; have := HK2.out; omega
                            case rel => exact ⟨(wrap64 (x3_2 + 1)), (by first | rfl | (simp; done) | (simp [*]; done)), H', ⟨by have := HJ1.out; have := HK2.out; omega⟩, by repeat (first | exact Drawn0.refl _ | apply Drawn0.step)⟩
                          · rw [if_neg c24] at H
                            have c24b0 : ((bt a0 x3_2) == 46) = false := beq_eq_false_iff_ne.mpr c24
                            have c24b1 : ((bt a0 x3_2) != 46) = true := bne_iff_ne.mpr c24
                            by_cases c25 : (bt a0 x3_2) = 95
                            · rw [if_pos c25] at H
                              have c25b0 : ((bt a0 x3_2) == 95) = true := beq_iff_eq.mpr c25
                              have c25b1 : ((bt a0 x3_2) != 95) = false := bne_eq_false_iff_eq.mpr c25
                              clear c25
                              have H' := Aside0.mk H
                              clear H
                              have p7 : 0 ≤ (x3_2 : Int) := of_decide_eq_true (by first | (with_reducible assumption) | assumption)
                              have q7 : x3_2 < (a0.size : Int) := of_decide_eq_true (by first | (with_reducible assumption) | assumption)
                              have hx7 := bt_at a0 x3_2
                              replace p7 := eq_true p7
                              replace q7 := eq_true q7
                              go_wp2
                              go_roundg k2
                              case measure => have := HJ1.out; have := HK2.out; omega
                              case rel => exact ⟨(wrap64 (x3_2 + 1)), (by first | rfl | (simp; done) | (simp [*]; done)), H', ⟨by have := HJ1.out; have := HK2.out; omega⟩, by repeat (first | exact Drawn0.refl _ | apply Drawn0.step)⟩
                            · rw [if_neg c25] at H
                              have c25b0 : ((bt a0 x3_2) == 95) = false := beq_eq_false_iff_ne.mpr c25
                              have c25b1 : ((bt a0 x3_2) != 95) = true := bne_iff_ne.mpr c25
                              by_cases c26 : (bt a0 x3_2) = 45
                              · rw [if_pos c26] at H
                                have c26b0 : ((bt a0 x3_2) == 45) = true := beq_iff_eq.mpr c26
                                have c26b1 : ((bt a0 x3_2) != 45) = false := bne_eq_false_iff_eq.mpr c26
                                clear c26
                                have H' := Aside0.mk H
                                clear H
                                have p7 : 0 ≤ (x3_2 : Int) := of_decide_eq_true (by first | (with_reducible assumption) | assumption)
                                have q7 : x3_2 < (a0.size : Int) := of_decide_eq_true (by first | (with_reducible assumption) | assumption)
                                have hx7 := bt_at a0 x3_2
                                replace p7 := eq_true p7
                                replace q7 := eq_true q7
                                go_wp2
                                go_roundg k2
                                case measure => have := HJ1.out; have := HK2.out; omega
                                case rel => exact ⟨(wrap64 (x3_2 + 1)), (by first | rfl | (simp; done) | (simp [*]; done)), H', ⟨by have := HJ1.out; have := HK2.out; omega⟩, by repeat (first | exact Drawn0.refl _ | apply Drawn0.step)⟩
                              · rw [if_neg c26] at H
                                have c26b0 : ((bt a0 x3_2) == 45) = false := beq_eq_false_iff_ne.mpr c26
                                have c26b1 : ((bt a0 x3_2) != 45) = true := bne_iff_ne.mpr c26
                                by_cases c27 : (bt a0 x3_2) = 47
                                · rw [if_pos c27] at H
                                  have c27b0 : ((bt a0 x3_2) == 47) = true := beq_iff_eq.mpr c27
                                  have c27b1 : ((bt a0 x3_2) != 47) = false := bne_eq_false_iff_eq.mpr c27
                                  clear c27
                                  have H' := Aside0.mk H
                                  clear H
                                  have p7 : 0 ≤ (x3_2 : Int) := of_decide_eq_true (by first | (with_reducible assumption) | assumption)
                                  have q7 : x3_2 < (a0.size : Int) := of_decide_eq_true (by first | (with_reducible assumption) | assumption)
                                  have hx7 := bt_at a0 x3_2
                                  replace p7 := eq_true p7
                                  replace q7 := eq_true q7
                                  go_wp2
                                  go_roundg k2
                                  case measure => have := HJ1.out; have := HK2.out; omega
                                  case rel => exact ⟨(wrap64 (x3_2 + 1)), (by first | rfl | (simp; done) | (simp [*]; done)), H', ⟨by have := HJ1.out; have := HK2.out; omega⟩, by repeat (first | exact Drawn0.refl _ | apply Drawn0.step)⟩
                                · rw [if_neg c27] at H
                                  have c27b0 : ((bt a0 x3_2) == 47) = false := beq_eq_false_iff_ne.mpr c27
                                  have c27b1 : ((bt a0 x3_2) != 47) = true := bne_iff_ne.mpr c27
                                  obtain rfl := Option.some.inj H
                                  have p7 : 0 ≤ (x3_2 : Int) := of_decide_eq_true (by first | (with_reducible assumption) | assumption)
                                  have q7 : x3_2 < (a0.size : Int) := of_decide_eq_true (by first | (with_reducible assumption) | assumption)
                                  have hx7 := bt_at a0 x3_2
                                  replace p7 := eq_true p7
                                  replace q7 := eq_true q7
                                  go_wp2
                                  go_ret
                                  exact ⟨by first | rfl | (simp; done) | (simp [*]; done), by repeat (first | exact Drawn0.refl _ | apply Drawn0.step)⟩
                      · rw [if_neg c22] at H
                        have c22b0 : decide (48 ≤ (bt a0 x3_2)) = false := decide_eq_false c22
                        clear c22
                        by_cases c28 : (bt a0 x3_2) = 46
                        · rw [if_pos c28] at H
                          have c28b0 : ((bt a0 x3_2) == 46) = true := beq_iff_eq.mpr c28
                          have c28b1 : ((bt a0 x3_2) != 46) = false := bne_eq_false_iff_eq.mpr c28
                          clear c28
                          have H' := Aside0.mk H
                          clear H
                          have p7 : 0 ≤ (x3_2 : Int) := of_decide_eq_true (by first | (with_reducible assumption) | assumption)
                          have q7 : x3_2 < (a0.size : Int) := of_decide_eq_true (by first | (with_reducible assumption) | assumption)
                          have hx7 := bt_at a0 x3_2
                          replace p7 := eq_true p7
                          replace q7 := eq_true q7
                          go_wp2
                          go_roundg k2
                          case measure => have := HJ1.out; have := HK2.out; omega
                          case rel => exact ⟨(wrap64 (x3_2 + 1)), (by first | rfl | (simp; done) | (simp [*]; done)), H', ⟨by have := HJ1.out; have := HK2.out; omega⟩, by repeat (first | exact Drawn0.refl _ | apply Drawn0.step)⟩
                        · rw [if_neg c28] at H
                          have c28b0 : ((bt a0 x3_2) == 46) = false := beq_eq_false_iff_ne.mpr c28
                          have c28b1 : ((bt a0 x3_2) != 46) = true := bne_iff_ne.mpr c28
                          by_cases c29 : (bt a0 x3_2) = 95
                          · rw [if_pos c29] at H
                            have c29b0 : ((bt a0 x3_2) == 95) = true := beq_iff_eq.mpr c29
                            have c29b1 : ((bt a0 x3_2) != 95) = false := bne_eq_false_iff_eq.mpr c29
                            clear c29
                            have H' := Aside0.mk H
                            clear H
                            have p7 : 0 ≤ (x3_2 : Int) := of_decide_eq_true (by first | (with_reducible assumption) | assumption)
                            have q7 : x3_2 < (a0.size : Int) := of_decide_eq_true (by first | (with_reducible assumption) | assumption)
                            have hx7 := bt_at a0 x3_2
                            replace p7 := eq_true p7
                            replace q7 := eq_true q7
                            go_wp2
                            go_roundg k2
                            case measure => have := HJ1.out; have := HK2.out; omega
                            case rel => exact ⟨(wrap64 (x3_2 + 1)), (by first | rfl | (simp; done) | (simp [*]; done)), H', ⟨by have := HJ1.out; have := HK2.out; omega⟩, by repeat (first | exact Drawn0.refl _ | apply Drawn0.step)⟩
                          · rw [if_neg c29] at H
                            have c29b0 : ((bt a0 x3_2) == 95) = false := beq_eq_false_iff_ne.mpr c29
                            have c29b1 : ((bt a0 x3_2) != 95) = true := bne_iff_ne.mpr c29
                            by_cases c30 : (bt a0 x3_2) = 45
                            · rw [if_pos c30] at H
                              have c30b0 : ((bt a0 x3_2) == 45) = true := beq_iff_eq.mpr c30
                              have c30b1 : ((bt a0 x3_2) != 45) = false := bne_eq_false_iff_eq.mpr c30
                              clear c30
                              have H' := Aside0.mk H
                              clear H
                              have p7 : 0 ≤ (x3_2 : Int) := of_decide_eq_true (by first | (with_reducible assumption) | assumption)
                              have q7 : x3_2 < (a0.size : Int) := of_decide_eq_true (by first | (with_reducible assumption) | assumption)
                              have hx7 := bt_at a0 x3_2
                              replace p7 := eq_true p7
                              replace q7 := eq_true q7
                              go_wp2
                              go_roundg k2
                              case measure => have := HJ1.out; have := HK2.out; omega
                              case rel => exact ⟨(wrap64 (x3_2 + 1)), (by first | rfl | (simp; done) | (simp [*]; done)), H', ⟨by have := HJ1.out; have := HK2.out; omega⟩, by repeat (first | exact Drawn0.refl _ | apply Drawn0.step)⟩
                            · rw [if_neg c30] at H
                              have c30b0 : ((bt a0 x3_2) == 45) = false := beq_eq_false_iff_ne.mpr c30
                              have c30b1 : ((bt a0 x3_2) != 45) = true := bne_iff_ne.mpr c30
                              by_cases c31 : (bt a0 x3_2) = 47
                              · rw [if_pos c31] at H
                                have c31b0 : ((bt a0 x3_2) == 47) = true := beq_iff_eq.mpr c31
                                have c31b1 : ((bt a0 x3_2) != 47) = false := bne_eq_false_iff_eq.mpr c31
                                clear c31
                                have H' := Aside0.mk H
                                clear H
                                have p7 : 0 ≤ (x3_2 : Int) := of_decide_eq_true (by first | (with_reducible assumption) | assumption)
                                have q7 : x3_2 < (a0.size : Int) := of_decide_eq_true (by first | (with_reducible assumption) | assumption)
                                have hx7 := bt_at a0 x3_2
                                replace p7 := eq_true p7
                                replace q7 := eq_true q7
                                go_wp2
                                go_roundg k2
                                case measure => have := HJ1.out; have := HK2.out; omega
                                case rel => exact ⟨(wrap64 (x3_2 + 1)), (by first | rfl | (simp; done) | (simp [*]; done)), H', ⟨by have := HJ1.out; have := HK2.out; omega⟩, by repeat (first | exact Drawn0.refl _ | apply Drawn0.step)⟩
                              · rw [if_neg c31] at H
                                have c31b0 : ((bt a0 x3_2) == 47) = false := beq_eq_false_iff_ne.mpr c31
                                have c31b1 : ((bt a0 x3_2) != 47) = true := bne_iff_ne.mpr c31
                                obtain rfl := Option.some.inj H
                                have p7 : 0 ≤ (x3_2 : Int) := of_decide_eq_true (by first | (with_reducible assumption) | assumption)
                                have q7 : x3_2 < (a0.size : Int) := of_decide_eq_true (by first | (with_reducible assumption) | assumption)
                                have hx7 := bt_at a0 x3_2
                                replace p7 := eq_true p7
                                replace q7 := eq_true q7
                                go_wp2
                                go_ret
                                exact ⟨by first | rfl | (simp; done) | (simp [*]; done), by repeat (first | exact Drawn0.refl _ | apply Drawn0.step)⟩
                · rw [if_neg c8] at H
                  have c8b0 : decide (97 ≤ (bt a0 x3_2)) = false := decide_eq_false c8
                  clear c8
                  by_cases c32 : (bt a0 x3_2) ≥ 65
                  · rw [if_pos c32] at H
                    have c32b0 : decide (65 ≤ (bt a0 x3_2)) = true := decide_eq_true c32
                    clear c32
                    by_cases c33 : (bt a0 x3_2) ≤ 90
                    · rw [if_pos c33] at H
                      have c33b0 : decide ((bt a0 x3_2) ≤ 90) = true := decide_eq_true c33
                      clear c33
                      have H' := Aside0.mk H
                      clear H
                      have p7 : 0 ≤ (x3_2 : Int) := of_decide_eq_true (by first | (with_reducible assumption) | assumption)
                      have q7 : x3_2 < (a0.size : Int) := of_decide_eq_true (by first | (with_reducible assumption) | assumption)
                      have hx7 := bt_at a0 x3_2
                      replace p7 := eq_true p7
                      replace q7 := eq_true q7
                      go_wp2
                      go_roundg k2
                      case measure => have := HJ1.out; have := HK2.out; omega
                      case rel => exact ⟨(wrap64 (x3_2 + 1)), (by first | rfl | (simp; done) | (simp [*]; done)), H', ⟨by have := HJ1.out; have := HK2.out; omega⟩, by repeat (first | exact Drawn0.refl _ | apply Drawn0.step)⟩
                    · rw [if_neg c33] at H
                      have c33b0 : decide ((bt a0 x3_2) ≤ 90) = false := decide_eq_false c33
                      clear c33
                      by_cases c34 : (bt a0 x3_2) ≥ 48
                      · rw [if_pos c34] at H
                        have c34b0 : decide (48 ≤ (bt a0 x3_2)) = true := decide_eq_true c34
                        clear c34
                        by_cases c35 : ((bt a0 x3_2) ≤ 57)
                        · rw [if_pos c35] at H
                          have c35b0 : decide ((bt a0 x3_2) ≤ 57) = true := decide_eq_true c35
                          clear c35
                          have H' := Aside0.mk H
                          clear H
                          have p7 : 0 ≤ (x3_2 : Int) := of_decide_eq_true (by first | (with_reducible assumption) | assumption)
                          have q7 : x3_2 < (a0.size : Int) := of_decide_eq_true (by first | (with_reducible assumption) | assumption)
                          have hx7 := bt_at a0 x3_2
                          replace p7 := eq_true p7
                          replace q7 := eq_true q7
                          go_wp2
                          go_roundg k2
                          case measure => have := HJ1.out; have := HK2.out; omega
                          case rel => exact ⟨(wrap64 (x3_2 + 1)), (by first | rfl | (simp; done) | (simp [*]; done)), H', ⟨by have := HJ1.out; have := HK2.out; omega⟩, by repeat (first | exact Drawn0.refl _ | apply Drawn0.step)⟩
                        · rw [if_neg c35] at H
                          have c35b0 : decide ((bt a0 x3_2) ≤ 57) = false := decide_eq_false c35
                          clear c35
                          by_cases c36 : (bt a0 x3_2) = 46
                          · rw [if_pos c36] at H
                            have c36b0 : ((bt a0 x3_2) == 46) = true := beq_iff_eq.mpr c36
                            have c36b1 : ((bt a0 x3_2) != 46) = false := bne_eq_false_iff_eq.mpr c36
                            clear c36
                            have H' := Aside0.mk H
                            clear H
                            have p7 : 0 ≤ (x3_2 : Int) := of_decide_eq_true (by first | (with_reducible assumption) | assumption)
                            have q7 : x3_2 < (a0.size : Int) := of_decide_eq_true (by first | (with_reducible assumption) | assumption)
                            have hx7 := bt_at a0 x3_2
                            replace p7 := eq_true p7
                            replace q7 := eq_true q7
                            go_wp2
                            go_roundg k2
                            case measure => have := HJ1.out; have := HK2.out; omega
                            case rel => exact ⟨(wrap64 (x3_2 + 1)), (by first | rfl | (simp; done) | (simp [*]; done)), H', ⟨by have := HJ1.out; have := HK2.out; omega⟩, by repeat (first | exact Drawn0.refl _ | apply Drawn0.step)⟩
                          · rw [if_neg c36] at H
                            have c36b0 : ((bt a0 x3_2) == 46) = false := beq_eq_false_iff_ne.mpr c36
                            have c36b1 : ((bt a0 x3_2) != 46) = true := bne_iff_ne.mpr c36
                            by_cases c37 : (bt a0 x3_2) = 95
                            · rw [if_pos c37] at H
                              have c37b0 : ((bt a0 x3_2) == 95) = true := beq_iff_eq.mpr c37
                              have c37b1 : ((bt a0 x3_2) != 95) = false := bne_eq_false_iff_eq.mpr c37
                              clear c37
                              have H' := Aside0.mk H
                              clear H
                              have p7 : 0 ≤ (x3_2 : Int) := of_decide_eq_true (by first | (with_reducible assumption) | assumption)
                              have q7 : x3_2 < (a0.size : Int) := of_decide_eq_true (by first | (with_reducible assumption) | assumption)
                              have hx7 := bt_at a0 x3_2
                              replace p7 := eq_true p7
                              replace q7 := eq_true q7
                              go_wp2
                              go_roundg k2
                              case measure => have := HJ1.out; have := HK2.out; omega
                              case rel => exact ⟨(wrap64 (x3_2 + 1)), (by first | rfl | (simp; done) | (simp [*]; done)), H', ⟨by have := HJ1.out; have := HK2.out; omega⟩, by repeat (first | exact Drawn0.refl _ | apply Drawn0.step)⟩
                            · rw [if_neg c37] at H
                              have c37b0 : ((bt a0 x3_2) == 95) = false := beq_eq_false_iff_ne.mpr c37
                              have c37b1 : ((bt a0 x3_2) != 95) = true := bne_iff_ne.mpr c37
                              by_cases c38 : (bt a0 x3_2) = 45
                              · rw [if_pos c38] at H
                                have c38b0 : ((bt a0 x3_2) == 45) = true := beq_iff_eq.mpr c38
                                have c38b1 : ((bt a0 x3_2) != 45) = false := bne_eq_false_iff_eq.mpr c38
                                clear c38
                                have H' := Aside0.mk H
                                clear H
                                have p7 : 0 ≤ (x3_2 : Int) := of_decide_eq_true (by first | (with_reducible assumption) | assumption)
                                have q7 : x3_2 < (a0.size : Int) := of_decide_eq_true (by first | (with_reducible assumption) | assumption)
                                have hx7 := bt_at a0 x3_2
                                replace p7 := eq_true p7
                                replace q7 := eq_true q7
                                go_wp2
                                go_roundg k2
                                case measure => have := HJ1.out; have := HK2.out; omega
                                case rel => exact ⟨(wrap64 (x3_2 + 1)), (by first | rfl | (simp; done) | (simp [*]; done)), H', ⟨by have := HJ1.out; have := HK2.out; omega⟩, by repeat (first | exact Drawn0.refl _ | apply Drawn0.step)⟩
                              · rw [if_neg c38] at H
                                have c38b0 : ((bt a0 x3_2) == 45) = false := beq_eq_false_iff_ne.mpr c38
                                have c38b1 : ((bt a0 x3_2) != 45) = true := bne_iff_ne.mpr c38
                                by_cases c39 : (bt a0 x3_2) = 47
                                · rw [if_pos c39] at H
                                  have c39b0 : ((bt a0 x3_2) == 47) = true := beq_iff_eq.mpr c39
                                  have c39b1 : ((bt a0 x3_2) != 47) = false := bne_eq_false_iff_eq.mpr c39
                                  clear c39
                                  have H' := Aside0.mk H
                                  clear H
                                  have p7 : 0 ≤ (x3_2 : Int) := of_decide_eq_true (by first | (with_reducible assumption) | assumption)
                                  have q7 : x3_2 < (a0.size : Int) := of_decide_eq_true (by first | (with_reducible assumption) | assumption)
                                  have hx7 := bt_at a0 x3_2
                                  replace p7 := eq_true p7
                                  replace q7 := eq_true q7
                                  go_wp2
                                  go_roundg k2
                                  case measure => have := HJ1.out; have := HK2.out; omega
                                  case rel => exact ⟨(wrap64 (x3_2 + 1)), (by first | rfl | (simp; done) | (simp [*]; done)), H', ⟨by have := HJ1.out; have := HK2.out; omega⟩, by repeat (first | exact Drawn0.refl _ | apply Drawn0.step)⟩
                                · rw [if_neg c39] at H
                                  have c39b0 : ((bt a0 x3_2) == 47) = false := beq_eq_false_iff_ne.mpr c39
                                  have c39b1 : ((bt a0 x3_2) != 47) = true := bne_iff_ne.mpr c39
                                  obtain rfl := Option.some.inj H
                                  have p7 : 0 ≤ (x3_2 : Int) := of_decide_eq_true (by first | (with_reducible assumption) | assumption)
                                  have q7 : x3_2 < (a0.size : Int) := of_decide_eq_true (by first | (with_reducible assumption) | assumption)
                                  have hx7 := bt_at a0 x3_2
                                  replace p7 := eq_true p7
                                  replace q7 := eq_true q7
                                  go_wp2
                                  go_ret
                                  exact ⟨by first | rfl | (simp; done) | (simp [*]; done), by repeat (first | exact Drawn0.refl _ | apply Drawn0.step)⟩
                      · rw [if_neg c34] at H
                        have c34b0 : decide (48 ≤ (bt a0 x3_2)) = false := decide_eq_false c34
                        clear c34
                        by_cases c40 : (bt a0 x3_2) = 46
                        · rw [if_pos c40] at H
                          have c40b0 : ((bt a0 x3_2) == 46) = true := beq_iff_eq.mpr c40
                          have c40b1 : ((bt a0 x3_2) != 46) = false := bne_eq_false_iff_eq.mpr c40
                          clear c40
                          have H' := Aside0.mk H
                          clear H
                          have p7 : 0 ≤ (x3_2 : Int) := of_decide_eq_true (by first | (with_reducible assumption) | assumption)
                          have q7 : x3_2 < (a0.size : Int) := of_decide_eq_true (by first | (with_reducible assumption) | assumption)
                          have hx7 := bt_at a0 x3_2
                          replace p7 := eq_true p7
                          replace q7 := eq_true q7
                          go_wp2
                          go_roundg k2
                          case measure => have := HJ1.out; have := HK2.out; omega
                          case rel => exact ⟨(wrap64 (x3_2 + 1)), (by first | rfl | (simp; done) | (simp [*]; done)), H', ⟨by have := HJ1.out; have := HK2.out; omega⟩, by repeat (first | exact Drawn0.refl _ | apply Drawn0.step)⟩
                        · rw [if_neg c40] at H
                          have c40b0 : ((bt a0 x3_2) == 46) = false := beq_eq_false_iff_ne.mpr c40
                          have c40b1 : ((bt a0 x3_2) != 46) = true := bne_iff_ne.mpr c40
                          by_cases c41 : (bt a0 x3_2) = 95
                          · rw [if_pos c41] at H
                            have c41b0 : ((bt a0 x3_2) == 95) = true := beq_iff_eq.mpr c41
                            have c41b1 : ((bt a0 x3_2) != 95) = false := bne_eq_false_iff_eq.mpr c41
                            clear c41
                            have H' := Aside0.mk H
                            clear H
                            have p7 : 0 ≤ (x3_2 : Int) := of_decide_eq_true (by first | (with_reducible assumption) | assumption)
                            have q7 : x3_2 < (a0.size : Int) := of_decide_eq_true (by first | (with_reducible assumption) | assumption)
                            have hx7 := bt_at a0 x3_2
                            replace p7 := eq_true p7
                            replace q7 := eq_true q7
                            go_wp2
                            go_roundg k2
                            case measure => have := HJ1.out; have := HK2.out; omega
                            case rel => exact ⟨(wrap64 (x3_2 + 1)), (by first | rfl | (simp; done) | (simp [*]; done)), H', ⟨by have := HJ1.out; have := HK2.out; omega⟩, by repeat (first | exact Drawn0.refl _ | apply Drawn0.step)⟩
                          · rw [if_neg c41] at H
                            have c41b0 : ((bt a0 x3_2) == 95) = false := beq_eq_false_iff_ne.mpr c41
                            have c41b1 : ((bt a0 x3_2) != 95) = true := bne_iff_ne.mpr c41
                            by_cases c42 : (bt a0 x3_2) = 45
                            · rw [if_pos c42] at H
                              have c42b0 : ((bt a0 x3_2) == 45) = true := beq_iff_eq.mpr c42
                              have c42b1 : ((bt a0 x3_2) != 45) = false := bne_eq_false_iff_eq.mpr c42
                              clear c42
                              have H' := Aside0.mk H
                              clear H
                              have p7 : 0 ≤ (x3_2 : Int) := of_decide_eq_true (by first | (with_reducible assumption) | assumption)
                              have q7 : x3_2 < (a0.size : Int) := of_decide_eq_true (by first | (with_reducible assumption) | assumption)
                              have hx7 := bt_at a0 x3_2
                              replace p7 := eq_true p7
                              replace q7 := eq_true q7
                              go_wp2
                              go_roundg k2
                              case measure => have := HJ1.out; have := HK2.out; omega
                              case rel => exact ⟨(wrap64 (x3_2 + 1)), (by first | rfl | (simp; done) | (simp [*]; done)), H', ⟨by have := HJ1.out; have := HK2.out; omega⟩, by repeat (first | exact Drawn0.refl _ | apply Drawn0.step)⟩
                            · rw [if_neg c42] at H
                              have c42b0 : ((bt a0 x3_2) == 45) = false := beq_eq_false_iff_ne.mpr c42
                              have c42b1 : ((bt a0 x3_2) != 45) = true := bne_iff_ne.mpr c42
                              by_cases c43 : (bt a0 x3_2) = 47
                              · rw [if_pos c43] at H
                                have c43b0 : ((bt a0 x3_2) == 47) = true := beq_iff_eq.mpr c43
                                have c43b1 : ((bt a0 x3_2) != 47) = false := bne_eq_false_iff_eq.mpr c43
                                clear c43
                                have H' := Aside0.mk H
                                clear H
                                have p7 : 0 ≤ (x3_2 : Int) := of_decide_eq_true (by first | (with_reducible assumption) | assumption)
                                have q7 : x3_2 < (a0.size : Int) := of_decide_eq_true (by first | (with_reducible assumption) | assumption)
                                have hx7 := bt_at a0 x3_2
                                replace p7 := eq_true p7
                                replace q7 := eq_true q7
                                go_wp2
                                go_roundg k2
                                case measure => have := HJ1.out; have := HK2.out; omega
                                case rel => exact ⟨(wrap64 (x3_2 + 1)), (by first | rfl | (simp; done) | (simp [*]; done)), H', ⟨by have := HJ1.out; have := HK2.out; omega⟩, by repeat (first | exact Drawn0.refl _ | apply Drawn0.step)⟩
                              · rw [if_neg c43] at H
                                have c43b0 : ((bt a0 x3_2) == 47) = false := beq_eq_false_iff_ne.mpr c43
                                have c43b1 : ((bt a0 x3_2) != 47) = true := bne_iff_ne.mpr c43
                                obtain rfl := Option.some.inj H
                                have p7 : 0 ≤ (x3_2 : Int) := of_decide_eq_true (by first | (with_reducible assumption) | assumption)
                                have q7 : x3_2 < (a0.size : Int) := of_decide_eq_true (by first | (with_reducible assumption) | assumption)
                                have hx7 := bt_at a0 x3_2
                                replace p7 := eq_true p7
                                replace q7 := eq_true q7
                                go_wp2
                                go_ret
                                exact ⟨by first | rfl | (simp; done) | (simp [*]; done), by repeat (first | exact Drawn0.refl _ | apply Drawn0.step)⟩
                  · rw [if_neg c32] at H
                    have c32b0 : decide (65 ≤ (bt a0 x3_2)) = false := decide_eq_false c32
                    clear c32
                    by_cases c44 : (bt a0 x3_2) ≥ 48
                    · rw [if_pos c44] at H
                      have c44b0 : decide (48 ≤ (bt a0 x3_2)) = true := decide_eq_true c44
                      clear c44
                      by_cases c45 : ((bt a0 x3_2) ≤ 57)
                      · rw [if_pos c45] at H
                        have c45b0 : decide ((bt a0 x3_2) ≤ 57) = true := decide_eq_true c45
                        clear c45
                        have H' := Aside0.mk H
                        clear H
                        have p7 : 0 ≤ (x3_2 : Int) := of_decide_eq_true (by first | (with_reducible assumption) | assumption)
                        have q7 : x3_2 < (a0.size : Int) := of_decide_eq_true (by first | (with_reducible assumption) | assumption)
                        have hx7 := bt_at a0 x3_2
                        replace p7 := eq_true p7
                        replace q7 := eq_true q7
                        go_wp2
                        go_roundg k2
                        case measure => have := HJ1.out; have := HK2.out; omega
                        case rel => exact ⟨(wrap64 (x3_2 + 1)), (by first | rfl | (simp; done) | (simp [*]; done)), H', ⟨by have := HJ1.out; have := HK2.out; omega⟩, by repeat (first | exact Drawn0.refl _ | apply Drawn0.step)⟩
                      · rw [if_neg c45] at H
                        have c45b0 : decide ((bt a0 x3_2) ≤ 57) = false := decide_eq_false c45
                        clear c45
                        by_cases c46 : (bt a0 x3_2) = 46
                        · rw [if_pos c46] at H
                          have c46b0 : ((bt a0 x3_2) == 46) = true := beq_iff_eq.mpr c46
                          have c46b1 : ((bt a0 x3_2) != 46) = false := bne_eq_false_iff_eq.mpr c46
                          clear c46
                          have H' := Aside0.mk H
                          clear H
                          have p7 : 0 ≤ (x3_2 : Int) := of_decide_eq_true (by first | (with_reducible assumption) | assumption)
                          have q7 : x3_2 < (a0.size : Int) := of_decide_eq_true (by first | (with_reducible assumption) | assumption)
                          have hx7 := bt_at a0 x3_2
                          replace p7 := eq_true p7
                          replace q7 := eq_true q7
                          go_wp2
                          go_roundg k2
                          case measure => have := HJ1.out; have := HK2.out; omega
                          case rel => exact ⟨(wrap64 (x3_2 + 1)), (by first | rfl | (simp; done) | (simp [*]; done)), H', ⟨by have := HJ1.out; have := HK2.out; omega⟩, by repeat (first | exact Drawn0.refl _ | apply Drawn0.step)⟩
                        · rw [if_neg c46] at H
                          have c46b0 : ((bt a0 x3_2) == 46) = false := beq_eq_false_iff_ne.mpr c46
                          have c46b1 : ((bt a0 x3_2) != 46) = true := bne_iff_ne.mpr c46
                          by_cases c47 : (bt a0 x3_2) = 95
                          · rw [if_pos c47] at H
                            have c47b0 : ((bt a0 x3_2) == 95) = true := beq_iff_eq.mpr c47
                            have c47b1 : ((bt a0 x3_2) != 95) = false := bne_eq_false_iff_eq.mpr c47
                            clear c47
                            have H' := Aside0.mk H
                            clear H
                            have p7 : 0 ≤ (x3_2 : Int) := of_decide_eq_true (by first | (with_reducible assumption) | assumption)
                            have q7 : x3_2 < (a0.size : Int) := of_decide_eq_true (by first | (with_reducible assumption) | assumption)
                            have hx7 := bt_at a0 x3_2
                            replace p7 := eq_true p7
                            replace q7 := eq_true q7
                            go_wp2
                            go_roundg k2
                            case measure => have := HJ1.out; have := HK2.out; omega
                            case rel => exact ⟨(wrap64 (x3_2 + 1)), (by first | rfl | (simp; done) | (simp [*]; done)), H', ⟨by have := HJ1.out; have := HK2.out; omega⟩, by repeat (first | exact Drawn0.refl _ | apply Drawn0.step)⟩
                          · rw [if_neg c47] at H
                            have c47b0 : ((bt a0 x3_2) == 95) = false := beq_eq_false_iff_ne.mpr c47
                            have c47b1 : ((bt a0 x3_2) != 95) = true := bne_iff_ne.mpr c47
                            by_cases c48 : (bt a0 x3_2) = 45
                            · rw [if_pos c48] at H
                              have c48b0 : ((bt a0 x3_2) == 45) = true := beq_iff_eq.mpr c48
                              have c48b1 : ((bt a0 x3_2) != 45) = false := bne_eq_false_iff_eq.mpr c48
                              clear c48
                              have H' := Aside0.mk H
                              clear H
                              have p7 : 0 ≤ (x3_2 : Int) := of_decide_eq_true (by first | (with_reducible assumption) | assumption)
                              have q7 : x3_2 < (a0.size : Int) := of_decide_eq_true (by first | (with_reducible assumption) | assumption)
                              have hx7 := bt_at a0 x3_2
                              replace p7 := eq_true p7
                              replace q7 := eq_true q7
                              go_wp2
                              go_roundg k2
                              case measure => have := HJ1.out; have := HK2.out; omega
                              case rel => exact ⟨(wrap64 (x3_2 + 1)), (by first | rfl | (simp; done) | (simp [*]; done)), H', ⟨by have := HJ1.out; have := HK2.out; omega⟩, by repeat (first | exact Drawn0.refl _ | apply Drawn0.step)⟩
                            · rw [if_neg c48] at H
                              have c48b0 : ((bt a0 x3_2) == 45) = false := beq_eq_false_iff_ne.mpr c48
                              have c48b1 : ((bt a0 x3_2) != 45) = true := bne_iff_ne.mpr c48
                              by_cases c49 : (bt a0 x3_2) = 47
                              · rw [if_pos c49] at H
                                have c49b0 : ((bt a0 x3_2) == 47) = true := beq_iff_eq.mpr c49
                                have c49b1 : ((bt a0 x3_2) != 47) = false := bne_eq_false_iff_eq.mpr c49
                                clear c49
                                have H' := Aside0.mk H
                                clear H
                                have p7 : 0 ≤ (x3_2 : Int) := of_decide_eq_true (by first | (with_reducible assumption) | assumption)
                                have q7 : x3_2 < (a0.size : Int) := of_decide_eq_true (by first | (with_reducible assumption) | assumption)
                                have hx7 := bt_at a0 x3_2
                                replace p7 := eq_true p7
                                replace q7 := eq_true q7
                                go_wp2
                                go_roundg k2
                                case measure => have := HJ1.out; have := HK2.out; omega
                                case rel => exact ⟨(wrap64 (x3_2 + 1)), (by first | rfl | (simp; done) | (simp [*]; done)), H', ⟨by have := HJ1.out; have := HK2.out; omega⟩, by repeat (first | exact Drawn0.refl _ | apply Drawn0.step)⟩
                              · rw [if_neg c49] at H
                                have c49b0 : ((bt a0 x3_2) == 47) = false := beq_eq_false_iff_ne.mpr c49
                                have c49b1 : ((bt a0 x3_2) != 47) = true := bne_iff_ne.mpr c49
                                obtain rfl := Option.some.inj H
                                have p7 : 0 ≤ (x3_2 : Int) := of_decide_eq_true (by first | (with_reducible assumption) | assumption)
                                have q7 : x3_2 < (a0.size : Int) := of_decide_eq_true (by first | (with_reducible assumption) | assumption)
                                have hx7 := bt_at a0 x3_2
                                replace p7 := eq_true p7
                                replace q7 := eq_true q7
                                go_wp2
                                go_ret
                                exact ⟨by first | rfl | (simp; done) | (simp [*]; done), by repeat (first | exact Drawn0.refl _ | apply Drawn0.step)⟩
                    · rw [if_neg c44] at H
                      have c44b0 : decide (48 ≤ (bt a0 x3_2)) = false := decide_eq_false c44
                      clear c44
                      by_cases c50 : (bt a0 x3_2) = 46
                      · rw [if_pos c50] at H
                        have c50b0 : ((bt a0 x3_2) == 46) = true := beq_iff_eq.mpr c50
                        have c50b1 : ((bt a0 x3_2) != 46) = false := bne_eq_false_iff_eq.mpr c50
                        clear c50
                        have H' := Aside0.mk H
                        clear H
                        have p7 : 0 ≤ (x3_2 : Int) := of_decide_eq_true (by first | (with_reducible assumption) | assumption)
                        have q7 : x3_2 < (a0.size : Int) := of_decide_eq_true (by first | (with_reducible assumption) | assumption)
                        have hx7 := bt_at a0 x3_2
                        replace p7 := eq_true p7
                        replace q7 := eq_true q7
                        go_wp2
                        go_roundg k2
                        case measure => have := HJ1.out; have := HK2.out; omega
                        case rel => exact ⟨(wrap64 (x3_2 + 1)), (by first | rfl | (simp; done) | (simp [*]; done)), H', ⟨by have := HJ1.out; have := HK2.out; omega⟩, by repeat (first | exact Drawn0.refl _ | apply Drawn0.step)⟩
                      · rw [if_neg c50] at H
                        have c50b0 : ((bt a0 x3_2) == 46) = false := beq_eq_false_iff_ne.mpr c50
                        have c50b1 : ((bt a0 x3_2) != 46) = true := bne_iff_ne.mpr c50
                        by_cases c51 : (bt a0 x3_2) = 95
                        · rw [if_pos c51] at H
                          have c51b0 : ((bt a0 x3_2) == 95) = true := beq_iff_eq.mpr c51
                          have c51b1 : ((bt a0 x3_2) != 95) = false := bne_eq_false_iff_eq.mpr c51
                          clear c51
                          have H' := Aside0.mk H
                          clear H
                          have p7 : 0 ≤ (x3_2 : Int) := of_decide_eq_true (by first | (with_reducible assumption) | assumption)
                          have q7 : x3_2 < (a0.size : Int) := of_decide_eq_true (by first | (with_reducible assumption) | assumption)
                          have hx7 := bt_at a0 x3_2
                          replace p7 := eq_true p7
                          replace q7 := eq_true q7
                          go_wp2
                          go_roundg k2
                          case measure => have := HJ1.out; have := HK2.out; omega
                          case rel => exact ⟨(wrap64 (x3_2 + 1)), (by first | rfl | (simp; done) | (simp [*]; done)), H', ⟨by have := HJ1.out; have := HK2.out; omega⟩, by repeat (first | exact Drawn0.refl _ | apply Drawn0.step)⟩
                        · rw [if_neg c51] at H
                          have c51b0 : ((bt a0 x3_2) == 95) = false := beq_eq_false_iff_ne.mpr c51
                          have c51b1 : ((bt a0 x3_2) != 95) = true := bne_iff_ne.mpr c51
                          by_cases c52 : (bt a0 x3_2) = 45
                          · rw [if_pos c52] at H
                            have c52b0 : ((bt a0 x3_2) == 45) = true := beq_iff_eq.mpr c52
                            have c52b1 : ((bt a0 x3_2) != 45) = false := bne_eq_false_iff_eq.mpr c52
                            clear c52
                            have H' := Aside0.mk H
                            clear H
                            have p7 : 0 ≤ (x3_2 : Int) := of_decide_eq_true (by first | (with_reducible assumption) | assumption)
                            have q7 : x3_2 < (a0.size : Int) := of_decide_eq_true (by first | (with_reducible assumption) | assumption)
                            have hx7 := bt_at a0 x3_2
                            replace p7 := eq_true p7
                            replace q7 := eq_true q7
                            go_wp2
                            go_roundg k2
                            case measure => have := HJ1.out; have := HK2.out; omega
                            case rel => exact ⟨(wrap64 (x3_2 + 1)), (by first | rfl | (simp; done) | (simp [*]; done)), H', ⟨by have := HJ1.out; have := HK2.out; omega⟩, by repeat (first | exact Drawn0.refl _ | apply Drawn0.step)⟩
                          · rw [if_neg c52] at H
                            have c52b0 : ((bt a0 x3_2) == 45) = false := beq_eq_false_iff_ne.mpr c52
                            have c52b1 : ((bt a0 x3_2) != 45) = true := bne_iff_ne.mpr c52
                            by_cases c53 : (bt a0 x3_2) = 47
                            · rw [if_pos c53] at H
                              have c53b0 : ((bt a0 x3_2) == 47) = true := beq_iff_eq.mpr c53
                              have c53b1 : ((bt a0 x3_2) != 47) = false := bne_eq_false_iff_eq.mpr c53
                              clear c53
                              have H' := Aside0.mk H
                              clear H
                              have p7 : 0 ≤ (x3_2 : Int) := of_decide_eq_true (by first | (with_reducible assumption) | assumption)
                              have q7 : x3_2 < (a0.size : Int) := of_decide_eq_true (by first | (with_reducible assumption) | assumption)
                              have hx7 := bt_at a0 x3_2
                              replace p7 := eq_true p7
                              replace q7 := eq_true q7
                              go_wp2
                              go_roundg k2
                              case measure => have := HJ1.out; have := HK2.out; omega
                              case rel => exact ⟨(wrap64 (x3_2 + 1)), (by first | rfl | (simp; done) | (simp [*]; done)), H', ⟨by have := HJ1.out; have := HK2.out; omega⟩, by repeat (first | exact Drawn0.refl _ | apply Drawn0.step)⟩
                            · rw [if_neg c53] at H
                              have c53b0 : ((bt a0 x3_2) == 47) = false := beq_eq_false_iff_ne.mpr c53
                              have c53b1 : ((bt a0 x3_2) != 47) = true := bne_iff_ne.mpr c53
                              obtain rfl := Option.some.inj H
                              have p7 : 0 ≤ (x3_2 : Int) := of_decide_eq_true (by first | (with_reducible assumption) | assumption)
                              have q7 : x3_2 < (a0.size : Int) := of_decide_eq_true (by first | (with_reducible assumption) | assumption)
                              have hx7 := bt_at a0 x3_2
                              replace p7 := eq_true p7
                              replace q7 := eq_true q7
                              go_wp2
                              go_ret
                              exact ⟨by first | rfl | (simp; done) | (simp [*]; done), by repeat (first | exact Drawn0.refl _ | apply Drawn0.step)⟩
              · rw [if_neg c6] at H
                exact absurd H (by simp)
            · rw [if_neg c5] at H
              have c5b0 : decide (x3_2 < (a0.size : Int)) = false := decide_eq_false c5
              clear c5
              obtain rfl := Option.some.inj H
              go_wp2
              go_ret
              exact ⟨by first | rfl | (simp; done) | (simp [*]; done), by repeat (first | exact Drawn0.refl _ | apply Drawn0.step)⟩

end Go.Proofs.YtciikcmiiebfpaaGreatDoor.PTopicsGets
