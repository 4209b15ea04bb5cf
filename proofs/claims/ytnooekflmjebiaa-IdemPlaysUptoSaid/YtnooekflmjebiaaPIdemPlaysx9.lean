-- PRINTED BY print.sh 35421559b90ae4d0a3588c463048766b98c2df88dd9212a6774a882060cdf62d: not written by this session
import Derived.Test.YtnooekflmjebiaaPIdemPlaysx0
import Derived.Test.YtnooekflmjebiaaPIdemPlaysx8
namespace Go.Proofs.Ytnooekflmjebiaa.PIdemPlays
open Go.RowKit Go.Proofs.YtnooekflmjebiaaW.PrintWords Go.Proofs.YtnooekflmjebiaaW.PrintLast Go.Proofs.YtnooekflmjebiaaW.PrintMore
attribute [local go_sem] max2_int min2_int max_two min_two max_three min_three max_four min_four   -- for this text's walks alone
set_option linter.unusedVariables false
set_option linter.unusedSimpArgs false

/-! ### leatref21_Judge: function 11 -/
mutual
def leatref21_Judge.j0 : Nat → Int → Int → Int → List (S42) → Bool → Option (Int × Bool × Int)
  | 0, _, _, _, _, _ => none
  | k + 1, x2, x3, x4, x13, x30 => if x30 = true then (some (0, false, 0)) else (if 0 ≤ (wrap64 ((x13.length : Int) - 1)) then (if (wrap64 ((x13.length : Int) - 1)) < (x13.length : Int) then (if x2 < ((rd_T42 x13 (wrap64 ((x13.length : Int) - 1))).f1) then (some (0, false, 210)) else (if x2 > ((rd_T42 x13 (wrap64 ((x13.length : Int) - 1))).f1) then (if x3 = 0 then (some (0, false, 0)) else (some (0, false, 211))) else (leatref21_Judge.l0 k x3 x4 x13 (wrap64 ((x13.length : Int) - 1)) ((rd_T42 x13 (wrap64 ((x13.length : Int) - 1))).f0) ((rd_T42 x13 (wrap64 ((x13.length : Int) - 1))).f1) ((rd_T42 x13 (wrap64 ((x13.length : Int) - 1))).f2) ((rd_T42 x13 (wrap64 ((x13.length : Int) - 1))).f3) ((rd_T42 x13 (wrap64 ((x13.length : Int) - 1))).f4) ((rd_T42 x13 (wrap64 ((x13.length : Int) - 1))).f5)))) else (none)) else (none))
def leatref21_Judge.l0 : Nat → Int → Int → List (S42) → Int → Int → Int → Int → Int → Int → Bool → Option (Int × Bool × Int)
  | 0, _, _, _, _, _, _, _, _, _, _ => none
  | k + 1, x3, x4, x13, x15, x247000, x247001, x247002, x247003, x247004, x247005 => if x15 ≥ 0 then (if 0 ≤ x15 then (if x15 < (x13.length : Int) then (if ((rd_T42 x13 x15).f2) = x3 then (if ((rd_T42 x13 x15).f3) = x4 then (some ((rd_T42 x13 x15).f4, true, 0)) else (leatref21_Judge.l0 k x3 x4 x13 (wrap64 (x15 - 1)) x247000 x247001 x247002 x247003 x247004 x247005)) else (leatref21_Judge.l0 k x3 x4 x13 (wrap64 (x15 - 1)) x247000 x247001 x247002 x247003 x247004 x247005)) else (none)) else (none)) else (if (Int.tmod (wrap64 ((wrap64 (x247002)) + x247003)) 2147483648) = (wrap64 (x3)) then (some (0, false, 0)) else (some (0, false, 211)))
end
def leatref21_Judge.f (k : Nat) (l0 : List (S42)) (a1 : Int) (a2 : Int) (a3 : Int) (a4 : Int) : Option (Int × Bool × Int) := (leatref21_bad.f a1 a2 a3 a4).bind fun t241 => (if t241 = true then (some (0, false, 3)) else ((leatref21_Of.f k l0 a1).bind fun t242 => (if a1 = (-1) then (leatref21_Judge.j0 k a2 a3 a4 t242 true) else (leatref21_Judge.j0 k a2 a3 a4 t242 ((t242.length : Int) == 0)))))
theorem leatref21_Judge.mono_l : ∀ k, (∀ y0 y1 y2 y3 y4, LeO (leatref21_Judge.j0 k y0 y1 y2 y3 y4) (leatref21_Judge.j0 (k + 1) y0 y1 y2 y3 y4)) ∧ (∀ y0 y1 y2 y3 y4 y5 y6 y7 y8 y9, LeO (leatref21_Judge.l0 k y0 y1 y2 y3 y4 y5 y6 y7 y8 y9) (leatref21_Judge.l0 (k + 1) y0 y1 y2 y3 y4 y5 y6 y7 y8 y9))
  | 0 => ⟨fun _ _ _ _ _ r h => by simp [leatref21_Judge.j0] at h, fun _ _ _ _ _ _ _ _ _ _ r h => by simp [leatref21_Judge.l0] at h⟩
  | k + 1 => by
    obtain ⟨ih0, ih1⟩ := leatref21_Judge.mono_l k
    refine ⟨?_, ?_⟩
    · intro y0 y1 y2 y3 y4
      unfold leatref21_Judge.j0
      repeat' first
      | (with_reducible exact ih0 _ _ _ _ _)
      | (with_reducible exact ih1 _ _ _ _ _ _ _ _ _ _)
      | (with_reducible exact leatref21_Of.mono _ _ _)
      | (with_reducible exact LeO.refl _)
      | (with_reducible exact LeO.none _)
      | (with_reducible refine LeO.ite ?_ ?_)
      | (with_reducible refine LeO.bind ?_ (fun _ => ?_))
      | exact ih0 _ _ _ _ _
      | exact ih1 _ _ _ _ _ _ _ _ _ _
      | exact leatref21_Of.mono _ _ _
      | exact LeO.none _
      | refine LeO.ite ?_ ?_
      | refine LeO.bind ?_ (fun _ => ?_)
    · intro y0 y1 y2 y3 y4 y5 y6 y7 y8 y9
      unfold leatref21_Judge.l0
      repeat' first
      | (with_reducible exact ih0 _ _ _ _ _)
      | (with_reducible exact ih1 _ _ _ _ _ _ _ _ _ _)
      | (with_reducible exact leatref21_Of.mono _ _ _)
      | (with_reducible exact LeO.refl _)
      | (with_reducible exact LeO.none _)
      | (with_reducible refine LeO.ite ?_ ?_)
      | (with_reducible refine LeO.bind ?_ (fun _ => ?_))
      | exact ih0 _ _ _ _ _
      | exact ih1 _ _ _ _ _ _ _ _ _ _
      | exact leatref21_Of.mono _ _ _
      | exact LeO.none _
      | refine LeO.ite ?_ ?_
      | refine LeO.bind ?_ (fun _ => ?_)
theorem leatref21_Judge.mono : ∀ a0 a1 a2 a3 a4 k, LeO (leatref21_Judge.f k a0 a1 a2 a3 a4) (leatref21_Judge.f (k + 1) a0 a1 a2 a3 a4) := by
  intro a0 a1 a2 a3 a4 k
  obtain ⟨ih0, ih1⟩ := leatref21_Judge.mono_l k
  unfold leatref21_Judge.f
  repeat' first
      | (with_reducible exact ih0 _ _ _ _ _)
      | (with_reducible exact ih1 _ _ _ _ _ _ _ _ _ _)
      | (with_reducible exact leatref21_Of.mono _ _ _)
      | (with_reducible exact LeO.refl _)
      | (with_reducible exact LeO.none _)
      | (with_reducible refine LeO.ite ?_ ?_)
      | (with_reducible refine LeO.bind ?_ (fun _ => ?_))
      | exact ih0 _ _ _ _ _
      | exact ih1 _ _ _ _ _ _ _ _ _ _
      | exact leatref21_Of.mono _ _ _
      | exact LeO.none _
      | refine LeO.ite ?_ ?_
      | refine LeO.bind ?_ (fun _ => ?_)
set_option maxHeartbeats 8000000 in
set_option maxRecDepth 100000 in
theorem leatref21_Judge.calls (k : Nat) (A0 : Option Addr) (c0 : Nat) (l0 : List (S42)) (a1 : Int) (a2 : Int) (a3 : Int) (a4 : Int) (r1 : Int) (r2 : Bool) (r3 : Int) (w : World) (hr0 : Kd.C k42 w A0 l0.length l0) (hc0 : l0.length ≤ c0) (h : leatref21_Judge.f k l0 a1 a2 a3 a4 = some (r1, r2, r3)) :
    Calls Try.prog 11 #[.slice A0 l0.length c0, .int .i64 a1, .int .i16 a2, .int .i32 a3, .int .i64 a4] w fun e w' => e = .returned (.tuple #[.int .i64 r1, .bool r2, .int .i64 r3]) ∧ Below w.heap.size w w' := by
  have hu42 := Try.underlying42
  have HR0 := Aside0.mk hr0
  have HC0 := Aside0.mk hc0
  clear hr0 hc0
  have HB := Aside0.mk (Below.refl w.heap.size w)
  have H : ((leatref21_bad.f a1 a2 a3 a4).bind fun t241 => (if t241 = true then (some (0, false, 3)) else ((leatref21_Of.f k l0 a1).bind fun t242 => (if a1 = (-1) then (leatref21_Judge.j0 k a2 a3 a4 t242 true) else (leatref21_Judge.j0 k a2 a3 a4 t242 ((t242.length : Int) == 0)))))) = some (r1, r2, r3) := h
  clear h
  replace H := Option.bind_eq_some_iff.mp H
  obtain ⟨t241, A60, H⟩ := H
  replace H : (if t241 = true then (some (0, false, 3)) else ((leatref21_Of.f k l0 a1).bind fun t242 => (if a1 = (-1) then (leatref21_Judge.j0 k a2 a3 a4 t242 true) else (leatref21_Judge.j0 k a2 a3 a4 t242 ((t242.length : Int) == 0))))) = some (r1, r2, r3) := H
  have A6 := Aside0.mk A60
  clear A60
  by_cases c7 : t241 = true
  · subst c7
    have H1 : (some (0, false, 3)) = some (r1, r2, r3) := by rw [if_pos rfl] at H; exact H
    clear H
    have H := H1
    clear H1
    simp only [Option.some.injEq, Prod.mk.injEq] at H
    obtain ⟨rfl, rfl, rfl⟩ := H
    go_enter Try.func11, Try.ntmps11
    go_wp2_with (first | ((with_reducible refine gate_callee (f := 22) rfl ?_); refine goesL_ (some 20) rfl rfl Try.func22 (by kernel_rfl) rfl #[.int .i64 a1, .int .i16 a2, .int .i32 a3, .int .i64 a4] rfl (by (try simp only [List.map_toArray, List.map_cons, List.map_nil]); first | done | rfl | (simp only [List.length_drop, List.length_take]; rfl)) ?_; (with_reducible refine (leatref21_bad.calls a1 a2 a3 a4 true _ A6.out).mono ?_); rintro e w' ⟨rfl, ⟨nd, rfl⟩⟩; refine ⟨_, rfl, ?_⟩))
    go_ret3
    exact ⟨by first | rfl | (simp [errW_none, errW_some] <;> rfl) | (simp [*, errW_none, errW_some] <;> rfl), by repeat (first | (with_reducible first | exact HB.out | apply below_alloc | apply pw_below_drewN | apply below_drew1) | exact HB.out)⟩
  · replace c7 := Bool.eq_false_iff.mpr c7
    subst c7
    have H1 : ((leatref21_Of.f k l0 a1).bind fun t242 => (if a1 = (-1) then (leatref21_Judge.j0 k a2 a3 a4 t242 true) else (leatref21_Judge.j0 k a2 a3 a4 t242 ((t242.length : Int) == 0)))) = some (r1, r2, r3) := by rw [if_neg (show ¬ (false = true) by decide)] at H; exact H
    clear H
    have H := H1
    clear H1
    replace H := Option.bind_eq_some_iff.mp H
    obtain ⟨t242, A80, H⟩ := H
    replace H : (if a1 = (-1) then (leatref21_Judge.j0 k a2 a3 a4 t242 true) else (leatref21_Judge.j0 k a2 a3 a4 t242 ((t242.length : Int) == 0))) = some (r1, r2, r3) := H
    have A8 := Aside0.mk A80
    clear A80
    have HC9 := Aside0.mk H
    clear H
    go_enter Try.func11, Try.ntmps11
    go_upto_region 4 with (first | ((with_reducible refine gate_callee (f := 22) rfl ?_); refine goesL_ (some 20) rfl rfl Try.func22 (by kernel_rfl) rfl #[.int .i64 a1, .int .i16 a2, .int .i32 a3, .int .i64 a4] rfl (by (try simp only [List.map_toArray, List.map_cons, List.map_nil]); first | done | rfl | (simp only [List.length_drop, List.length_take]; rfl)) ?_; (with_reducible refine (leatref21_bad.calls a1 a2 a3 a4 false _ A6.out).mono ?_); rintro e w' ⟨rfl, ⟨nd, rfl⟩⟩; refine ⟨_, rfl, ?_⟩) | ((with_reducible refine gate_callee (f := 23) rfl ?_); refine goesL_ (some 23) rfl rfl Try.func23 (by kernel_rfl) rfl #[.slice A0 l0.length c0, .int .i64 a1] rfl (by (try simp only [List.map_toArray, List.map_cons, List.map_nil]); first | done | rfl | (simp only [List.length_drop, List.length_take]; rfl)) ?_; (with_reducible refine (leatref21_Of.calls k _ _ l0 a1 t242 _ ?side1 ?side2 A8.out).mono ?_); (case side1 => repeat (first | exact HR0.out | (with_reducible refine Kd.C_alloc ?_ _) | (with_reducible refine Kd.C_drewN ?_ _) | (with_reducible refine Kd.C_drew ?_))); (case side2 => exact HC0.out); rintro e w10 ⟨v243, rfl, ho0, hb⟩; refine ⟨_, rfl, ?_⟩; have n0_ := Aside0.mk (Kd.R_lower ho0 (below_size (by repeat (first | (with_reducible first | exact HB.out | apply below_alloc | apply pw_below_drewN | apply below_drew1) | exact HB.out)))); have n1_ := Aside0.mk (below_step (by repeat (first | (with_reducible first | exact HB.out | apply below_alloc | apply pw_below_drewN | apply below_drew1) | exact HB.out)) hb); clear HB; have HO244 := n0_; have HB := n1_; clear n0_ n1_; (try clear hb); (try clear hb2); (try clear hk); (try clear hi); (try clear ho0)))
    (try simp only [Act.put, List.setIfInBounds_toArray, List.set_cons_zero, List.set_cons_succ])
    go_cut [30] (fun v30 wc => ∃ (kq : Nat) (x30_8 : Bool), v30 = .bool x30_8 ∧ Aside0 (leatref21_Judge.j0 kq a2 a3 a4 t242 x30_8 = some (r1, r2, r3)) ∧ Aside0 (kq ≤ k) ∧ Aside0 (Kd.R k42 42 wc w.heap.size (fun _ => True) v243 t242) ∧ Aside0 (Below w.heap.size w wc))
    case first =>
      have H := HC9.out
      clear HC9
      by_cases c11 : a1 = (-1)
      · rw [if_pos c11] at H
        have c11b0 : (a1 == (-1)) = true := beq_iff_eq.mpr c11
        have c11b1 : (a1 != (-1)) = false := bne_eq_false_iff_eq.mpr c11
        clear c11
        (first | rw [c11b0] | (simp only [i64_w, i32_w]; rw [c11b0]) | skip)
        have H' := Aside0.mk H
        clear H
        go_wp2
        go_meet
        case rel => exact ⟨_, (true), (by first | rfl | (simp; done) | (simp [*]; done)), H', ⟨by first | omega | exact Nat.le_refl _⟩, ⟨by (with_reducible repeat (first | apply Kd.R_alloc | apply Kd.R_drewN | apply Kd.R_drew)); exact HO244.out⟩, ⟨by repeat (first | (with_reducible first | exact HB.out | apply below_alloc | apply pw_below_drewN | apply below_drew1) | exact HB.out)⟩⟩
      · rw [if_neg c11] at H
        have c11b0 : (a1 == (-1)) = false := beq_eq_false_iff_ne.mpr c11
        have c11b1 : (a1 != (-1)) = true := bne_iff_ne.mpr c11
        (first | rw [c11b0] | (simp only [i64_w, i32_w]; rw [c11b0]) | skip)
        have H' := Aside0.mk H
        clear H
        obtain ⟨Ao12, co12, eo12⟩ := Kd.R_slice HO244.out
        subst eo12
        go_wp2
        go_meet
        case rel => exact ⟨_, (((t242.length : Int) == 0)), (by first | rfl | (simp; done) | (simp [*]; done)), H', ⟨by first | omega | exact Nat.le_refl _⟩, ⟨by (with_reducible repeat (first | apply Kd.R_alloc | apply Kd.R_drewN | apply Kd.R_drew)); exact HO244.out⟩, ⟨by repeat (first | (with_reducible first | exact HB.out | apply below_alloc | apply pw_below_drewN | apply below_drew1) | exact HB.out)⟩⟩
    case rest =>
      clear HC9
      try clear c1
      try clear c2
      try clear p2
      try clear c7
      try clear c11
      try clear c11b0
      try clear c11b1
      obtain ⟨kq, x30_8, rfl, HA, HJ8, HO_13, HB⟩ := hcut
      cases kq with
      | zero => exact absurd HA.out (by simp [leatref21_Judge.j0])
      | succ kj8 =>
        have H := HA.out
        clear HA
        simp only [leatref21_Judge.j0] at H
        by_cases c13 : x30_8 = true
        · subst c13
          have H1 : (some (0, false, 0)) = some (r1, r2, r3) := by rw [if_pos rfl] at H; exact H
          clear H
          have H := H1
          clear H1
          simp only [Option.some.injEq, Prod.mk.injEq] at H
          obtain ⟨rfl, rfl, rfl⟩ := H
          go_wp2
          go_ret3
          exact ⟨by first | rfl | (simp [errW_none, errW_some] <;> rfl) | (simp [*, errW_none, errW_some] <;> rfl), by repeat (first | (with_reducible first | exact HB.out | apply below_alloc | apply pw_below_drewN | apply below_drew1) | exact HB.out)⟩
        · replace c13 := Bool.eq_false_iff.mpr c13
          subst c13
          have H1 : (if 0 ≤ (wrap64 ((t242.length : Int) - 1)) then (if (wrap64 ((t242.length : Int) - 1)) < (t242.length : Int) then (if a2 < ((rd_T42 t242 (wrap64 ((t242.length : Int) - 1))).f1) then (some (0, false, 210)) else (if a2 > ((rd_T42 t242 (wrap64 ((t242.length : Int) - 1))).f1) then (if a3 = 0 then (some (0, false, 0)) else (some (0, false, 211))) else (leatref21_Judge.l0 kj8 a3 a4 t242 (wrap64 ((t242.length : Int) - 1)) ((rd_T42 t242 (wrap64 ((t242.length : Int) - 1))).f0) ((rd_T42 t242 (wrap64 ((t242.length : Int) - 1))).f1) ((rd_T42 t242 (wrap64 ((t242.length : Int) - 1))).f2) ((rd_T42 t242 (wrap64 ((t242.length : Int) - 1))).f3) ((rd_T42 t242 (wrap64 ((t242.length : Int) - 1))).f4) ((rd_T42 t242 (wrap64 ((t242.length : Int) - 1))).f5)))) else (none)) else (none)) = some (r1, r2, r3) := by rw [if_neg (show ¬ (false = true) by decide)] at H; exact H
          clear H
          have H := H1
          clear H1
          obtain ⟨ji14, hji14⟩ : ∃ j_ : Int, (wrap64 ((t242.length : Int) - 1)) = j_ := ⟨_, rfl⟩
          replace H : (if 0 ≤ (ji14) then (if (ji14) < (t242.length : Int) then (if a2 < ((rd_T42 t242 (ji14)).f1) then (some (0, false, 210)) else (if a2 > ((rd_T42 t242 (ji14)).f1) then (if a3 = 0 then (some (0, false, 0)) else (some (0, false, 211))) else (leatref21_Judge.l0 kj8 a3 a4 t242 ji14 ((rd_T42 t242 (ji14)).f0) ((rd_T42 t242 (ji14)).f1) ((rd_T42 t242 (ji14)).f2) ((rd_T42 t242 (ji14)).f3) ((rd_T42 t242 (ji14)).f4) ((rd_T42 t242 (ji14)).f5)))) else (none)) else (none)) = some (r1, r2, r3) := by first | (rw [hji14] at H; exact H) | (simp only [hji14] at H ⊢; exact H)
          have hji14w : (IntKind.i64.wrap ((t242.length : Int) - 1)) = ji14 := (i64_w _).trans hji14
          by_cases c15 : 0 ≤ (ji14)
          · rw [if_pos c15] at H
            have c15b0 : decide (0 ≤ (ji14)) = true := decide_eq_true c15
            clear c15
            by_cases c16 : (ji14) < (t242.length : Int)
            · rw [if_pos c16] at H
              have c16b0 : decide ((ji14) < (t242.length : Int)) = true := decide_eq_true c16
              clear c16
              by_cases c17 : a2 < ((rd_T42 t242 (ji14)).f1)
              · rw [if_pos c17] at H
                have c17b0 : decide (a2 < ((rd_T42 t242 (ji14)).f1)) = true := decide_eq_true c17
                clear c17
                simp only [Option.some.injEq, Prod.mk.injEq] at H
                obtain ⟨rfl, rfl, rfl⟩ := H
                obtain ⟨Ao18, co18, eo18⟩ := Kd.R_slice HO_13.out
                subst eo18
                have p245 : 0 ≤ ((ji14) : Int) := of_decide_eq_true (by first | (with_reducible assumption) | assumption)
                have q245 : (ji14) < (t242.length : Int) := of_decide_eq_true (by first | (with_reducible assumption) | assumption)
                obtain ⟨ad245, e245, hx245_0, hx245_1, hx245_2, hx245_3, hx245_4, hx245_5⟩ := at_T42 (Kd.R_reads' HO_13.out).2.2 (ji14) p245 q245
                cases e245
                replace p245 := eq_true p245
                replace q245 := eq_true q245
                go_wp2_with (first | ((with_reducible refine gate_dst (N := 14) rfl ?_); (try (refine gate_guard (by rfl) ?_; dsimp only)); refine box_event ?hg (N := 14) ?hd (cs := #[.int .i64 0, .int .i16 0, .int .i32 0, .int .i64 0, .int .i64 0, .bool false]) (t := 42) ?hr ?_; (case hd => rfl); (case hg => rfl); (case hr => first | (go_simp; done) | (go_simp; rfl)); intro gb246 hg w19 hbox hb; have n0_ := Aside0.mk (Kd.R_below (Kd.R_elderB (by (with_reducible repeat (first | apply Kd.R_alloc | apply Kd.R_drewN | apply Kd.R_drew)); exact HO_13.out) gb246 (Nat.le_of_eq hg.symm)) hb); have n1_ := Aside0.mk (below_step (by repeat (first | (with_reducible first | exact HB.out | apply below_alloc | apply pw_below_drewN | apply below_drew1) | exact HB.out)) hb); have n2_ := Aside0.mk (hbox); have n3_ := Aside0.mk ((by rw [hg]; exact (below_size (by repeat (first | (with_reducible first | exact HB.out | apply below_alloc | apply pw_below_drewN | apply below_drew1) | exact HB.out))) : w.heap.size ≤ gb246)); have n4_ := Aside0.mk ((by rw [hg]; exact (below_size (by repeat (first | (with_reducible first | exact HB.out | apply below_alloc | apply pw_below_drewN | apply below_drew1) | exact HB.out))) : w.heap.size ≤ gb246)); clear HO_13; clear HB; have HO_13 := n0_; have HB := n1_; have BK246 := n2_; have GW246 := n3_; have GE246 := n4_; clear n0_ n1_ n2_ n3_ n4_; clear hb hbox hg; have hcz20_0 : w19.cell? ⟨gb246, 0, none⟩ = some (.int .i64 0) := (blk_cell BK246.out 0).trans rfl; have hcz20_1 : w19.cell? ⟨gb246, 1, none⟩ = some (.int .i16 0) := (blk_cell BK246.out 1).trans rfl; have hcz20_2 : w19.cell? ⟨gb246, 2, none⟩ = some (.int .i32 0) := (blk_cell BK246.out 2).trans rfl; have hcz20_3 : w19.cell? ⟨gb246, 3, none⟩ = some (.int .i64 0) := (blk_cell BK246.out 3).trans rfl; have hcz20_4 : w19.cell? ⟨gb246, 4, none⟩ = some (.int .i64 0) := (blk_cell BK246.out 4).trans rfl; have hcz20_5 : w19.cell? ⟨gb246, 5, none⟩ = some (.bool false) := (blk_cell BK246.out 5).trans rfl; have hfz20_0 := blk_frozen BK246.out 0; have hfz20_1 := blk_frozen BK246.out 1; have hfz20_2 := blk_frozen BK246.out 2; have hfz20_3 := blk_frozen BK246.out 3; have hfz20_4 := blk_frozen BK246.out 4; have hfz20_5 := blk_frozen BK246.out 5))
                go_ret3
                exact ⟨by first | rfl | (simp [errW_none, errW_some] <;> rfl) | (simp only [← hji14]; first | rfl | (simp [errW_none, errW_some] <;> rfl)) | (simp [*, errW_none, errW_some] <;> rfl), by repeat (first | (with_reducible first | exact HB.out | apply below_alloc | apply pw_below_drewN | apply below_drew1 | refine below_set ?_ GE246.out) | exact HB.out)⟩
              · rw [if_neg c17] at H
                have c17b0 : decide (a2 < ((rd_T42 t242 (ji14)).f1)) = false := decide_eq_false c17
                clear c17
                by_cases c21 : a2 > ((rd_T42 t242 (ji14)).f1)
                · rw [if_pos c21] at H
                  have c21b0 : decide (((rd_T42 t242 (ji14)).f1) < a2) = true := decide_eq_true c21
                  clear c21
                  by_cases c22 : a3 = 0
                  · rw [if_pos c22] at H
                    have c22b0 : (a3 == 0) = true := beq_iff_eq.mpr c22
                    have c22b1 : (a3 != 0) = false := bne_eq_false_iff_eq.mpr c22
                    clear c22
                    simp only [Option.some.injEq, Prod.mk.injEq] at H
                    obtain ⟨rfl, rfl, rfl⟩ := H
                    obtain ⟨Ao23, co23, eo23⟩ := Kd.R_slice HO_13.out
                    subst eo23
                    have p245 : 0 ≤ ((ji14) : Int) := of_decide_eq_true (by first | (with_reducible assumption) | assumption)
                    have q245 : (ji14) < (t242.length : Int) := of_decide_eq_true (by first | (with_reducible assumption) | assumption)
                    obtain ⟨ad245, e245, hx245_0, hx245_1, hx245_2, hx245_3, hx245_4, hx245_5⟩ := at_T42 (Kd.R_reads' HO_13.out).2.2 (ji14) p245 q245
                    cases e245
                    replace p245 := eq_true p245
                    replace q245 := eq_true q245
                    go_wp2_with (first | ((with_reducible refine gate_dst (N := 14) rfl ?_); (try (refine gate_guard (by rfl) ?_; dsimp only)); refine box_event ?hg (N := 14) ?hd (cs := #[.int .i64 0, .int .i16 0, .int .i32 0, .int .i64 0, .int .i64 0, .bool false]) (t := 42) ?hr ?_; (case hd => rfl); (case hg => rfl); (case hr => first | (go_simp; done) | (go_simp; rfl)); intro gb246 hg w24 hbox hb; have n0_ := Aside0.mk (Kd.R_below (Kd.R_elderB (by (with_reducible repeat (first | apply Kd.R_alloc | apply Kd.R_drewN | apply Kd.R_drew)); exact HO_13.out) gb246 (Nat.le_of_eq hg.symm)) hb); have n1_ := Aside0.mk (below_step (by repeat (first | (with_reducible first | exact HB.out | apply below_alloc | apply pw_below_drewN | apply below_drew1) | exact HB.out)) hb); have n2_ := Aside0.mk (hbox); have n3_ := Aside0.mk ((by rw [hg]; exact (below_size (by repeat (first | (with_reducible first | exact HB.out | apply below_alloc | apply pw_below_drewN | apply below_drew1) | exact HB.out))) : w.heap.size ≤ gb246)); have n4_ := Aside0.mk ((by rw [hg]; exact (below_size (by repeat (first | (with_reducible first | exact HB.out | apply below_alloc | apply pw_below_drewN | apply below_drew1) | exact HB.out))) : w.heap.size ≤ gb246)); clear HO_13; clear HB; have HO_13 := n0_; have HB := n1_; have BK246 := n2_; have GW246 := n3_; have GE246 := n4_; clear n0_ n1_ n2_ n3_ n4_; clear hb hbox hg; have hcz25_0 : w24.cell? ⟨gb246, 0, none⟩ = some (.int .i64 0) := (blk_cell BK246.out 0).trans rfl; have hcz25_1 : w24.cell? ⟨gb246, 1, none⟩ = some (.int .i16 0) := (blk_cell BK246.out 1).trans rfl; have hcz25_2 : w24.cell? ⟨gb246, 2, none⟩ = some (.int .i32 0) := (blk_cell BK246.out 2).trans rfl; have hcz25_3 : w24.cell? ⟨gb246, 3, none⟩ = some (.int .i64 0) := (blk_cell BK246.out 3).trans rfl; have hcz25_4 : w24.cell? ⟨gb246, 4, none⟩ = some (.int .i64 0) := (blk_cell BK246.out 4).trans rfl; have hcz25_5 : w24.cell? ⟨gb246, 5, none⟩ = some (.bool false) := (blk_cell BK246.out 5).trans rfl; have hfz25_0 := blk_frozen BK246.out 0; have hfz25_1 := blk_frozen BK246.out 1; have hfz25_2 := blk_frozen BK246.out 2; have hfz25_3 := blk_frozen BK246.out 3; have hfz25_4 := blk_frozen BK246.out 4; have hfz25_5 := blk_frozen BK246.out 5))
                    go_ret3
                    exact ⟨by first | rfl | (simp [errW_none, errW_some] <;> rfl) | (simp only [← hji14]; first | rfl | (simp [errW_none, errW_some] <;> rfl)) | (simp [*, errW_none, errW_some] <;> rfl), by repeat (first | (with_reducible first | exact HB.out | apply below_alloc | apply pw_below_drewN | apply below_drew1 | refine below_set ?_ GE246.out) | exact HB.out)⟩
                  · rw [if_neg c22] at H
                    have c22b0 : (a3 == 0) = false := beq_eq_false_iff_ne.mpr c22
                    have c22b1 : (a3 != 0) = true := bne_iff_ne.mpr c22
                    simp only [Option.some.injEq, Prod.mk.injEq] at H
                    obtain ⟨rfl, rfl, rfl⟩ := H
                    obtain ⟨Ao26, co26, eo26⟩ := Kd.R_slice HO_13.out
                    subst eo26
                    have p245 : 0 ≤ ((ji14) : Int) := of_decide_eq_true (by first | (with_reducible assumption) | assumption)
                    have q245 : (ji14) < (t242.length : Int) := of_decide_eq_true (by first | (with_reducible assumption) | assumption)
                    obtain ⟨ad245, e245, hx245_0, hx245_1, hx245_2, hx245_3, hx245_4, hx245_5⟩ := at_T42 (Kd.R_reads' HO_13.out).2.2 (ji14) p245 q245
                    cases e245
                    replace p245 := eq_true p245
                    replace q245 := eq_true q245
                    go_wp2_with (first | ((with_reducible refine gate_dst (N := 14) rfl ?_); (try (refine gate_guard (by rfl) ?_; dsimp only)); refine box_event ?hg (N := 14) ?hd (cs := #[.int .i64 0, .int .i16 0, .int .i32 0, .int .i64 0, .int .i64 0, .bool false]) (t := 42) ?hr ?_; (case hd => rfl); (case hg => rfl); (case hr => first | (go_simp; done) | (go_simp; rfl)); intro gb246 hg w27 hbox hb; have n0_ := Aside0.mk (Kd.R_below (Kd.R_elderB (by (with_reducible repeat (first | apply Kd.R_alloc | apply Kd.R_drewN | apply Kd.R_drew)); exact HO_13.out) gb246 (Nat.le_of_eq hg.symm)) hb); have n1_ := Aside0.mk (below_step (by repeat (first | (with_reducible first | exact HB.out | apply below_alloc | apply pw_below_drewN | apply below_drew1) | exact HB.out)) hb); have n2_ := Aside0.mk (hbox); have n3_ := Aside0.mk ((by rw [hg]; exact (below_size (by repeat (first | (with_reducible first | exact HB.out | apply below_alloc | apply pw_below_drewN | apply below_drew1) | exact HB.out))) : w.heap.size ≤ gb246)); have n4_ := Aside0.mk ((by rw [hg]; exact (below_size (by repeat (first | (with_reducible first | exact HB.out | apply below_alloc | apply pw_below_drewN | apply below_drew1) | exact HB.out))) : w.heap.size ≤ gb246)); clear HO_13; clear HB; have HO_13 := n0_; have HB := n1_; have BK246 := n2_; have GW246 := n3_; have GE246 := n4_; clear n0_ n1_ n2_ n3_ n4_; clear hb hbox hg; have hcz28_0 : w27.cell? ⟨gb246, 0, none⟩ = some (.int .i64 0) := (blk_cell BK246.out 0).trans rfl; have hcz28_1 : w27.cell? ⟨gb246, 1, none⟩ = some (.int .i16 0) := (blk_cell BK246.out 1).trans rfl; have hcz28_2 : w27.cell? ⟨gb246, 2, none⟩ = some (.int .i32 0) := (blk_cell BK246.out 2).trans rfl; have hcz28_3 : w27.cell? ⟨gb246, 3, none⟩ = some (.int .i64 0) := (blk_cell BK246.out 3).trans rfl; have hcz28_4 : w27.cell? ⟨gb246, 4, none⟩ = some (.int .i64 0) := (blk_cell BK246.out 4).trans rfl; have hcz28_5 : w27.cell? ⟨gb246, 5, none⟩ = some (.bool false) := (blk_cell BK246.out 5).trans rfl; have hfz28_0 := blk_frozen BK246.out 0; have hfz28_1 := blk_frozen BK246.out 1; have hfz28_2 := blk_frozen BK246.out 2; have hfz28_3 := blk_frozen BK246.out 3; have hfz28_4 := blk_frozen BK246.out 4; have hfz28_5 := blk_frozen BK246.out 5))
                    go_ret3
                    exact ⟨by first | rfl | (simp [errW_none, errW_some] <;> rfl) | (simp only [← hji14]; first | rfl | (simp [errW_none, errW_some] <;> rfl)) | (simp [*, errW_none, errW_some] <;> rfl), by repeat (first | (with_reducible first | exact HB.out | apply below_alloc | apply pw_below_drewN | apply below_drew1 | refine below_set ?_ GE246.out) | exact HB.out)⟩
                · rw [if_neg c21] at H
                  have c21b0 : decide (((rd_T42 t242 (ji14)).f1) < a2) = false := decide_eq_false c21
                  clear c21
                  have H' := Aside0.mk H
                  clear H
                  obtain ⟨Ao29, co29, eo29⟩ := Kd.R_slice HO_13.out
                  subst eo29
                  have p245 : 0 ≤ ((ji14) : Int) := of_decide_eq_true (by first | (with_reducible assumption) | assumption)
                  have q245 : (ji14) < (t242.length : Int) := of_decide_eq_true (by first | (with_reducible assumption) | assumption)
                  obtain ⟨ad245, e245, hx245_0, hx245_1, hx245_2, hx245_3, hx245_4, hx245_5⟩ := at_T42 (Kd.R_reads' HO_13.out).2.2 (ji14) p245 q245
                  cases e245
                  replace p245 := eq_true p245
                  replace q245 := eq_true q245
                  go_wp2_with (first | ((with_reducible refine gate_dst (N := 14) rfl ?_); (try (refine gate_guard (by rfl) ?_; dsimp only)); refine box_event ?hg (N := 14) ?hd (cs := #[.int .i64 0, .int .i16 0, .int .i32 0, .int .i64 0, .int .i64 0, .bool false]) (t := 42) ?hr ?_; (case hd => rfl); (case hg => rfl); (case hr => first | (go_simp; done) | (go_simp; rfl)); intro gb246 hg w30 hbox hb; have n0_ := Aside0.mk (Kd.R_below (Kd.R_elderB (by (with_reducible repeat (first | apply Kd.R_alloc | apply Kd.R_drewN | apply Kd.R_drew)); exact HO_13.out) gb246 (Nat.le_of_eq hg.symm)) hb); have n1_ := Aside0.mk (below_step (by repeat (first | (with_reducible first | exact HB.out | apply below_alloc | apply pw_below_drewN | apply below_drew1) | exact HB.out)) hb); have n2_ := Aside0.mk (hbox); have n3_ := Aside0.mk ((by rw [hg]; exact (below_size (by repeat (first | (with_reducible first | exact HB.out | apply below_alloc | apply pw_below_drewN | apply below_drew1) | exact HB.out))) : w.heap.size ≤ gb246)); have n4_ := Aside0.mk ((by rw [hg]; exact (below_size (by repeat (first | (with_reducible first | exact HB.out | apply below_alloc | apply pw_below_drewN | apply below_drew1) | exact HB.out))) : w.heap.size ≤ gb246)); clear HO_13; clear HB; have HO_13 := n0_; have HB := n1_; have BK246 := n2_; have GW246 := n3_; have GE246 := n4_; clear n0_ n1_ n2_ n3_ n4_; clear hb hbox hg; have hcz31_0 : w30.cell? ⟨gb246, 0, none⟩ = some (.int .i64 0) := (blk_cell BK246.out 0).trans rfl; have hcz31_1 : w30.cell? ⟨gb246, 1, none⟩ = some (.int .i16 0) := (blk_cell BK246.out 1).trans rfl; have hcz31_2 : w30.cell? ⟨gb246, 2, none⟩ = some (.int .i32 0) := (blk_cell BK246.out 2).trans rfl; have hcz31_3 : w30.cell? ⟨gb246, 3, none⟩ = some (.int .i64 0) := (blk_cell BK246.out 3).trans rfl; have hcz31_4 : w30.cell? ⟨gb246, 4, none⟩ = some (.int .i64 0) := (blk_cell BK246.out 4).trans rfl; have hcz31_5 : w30.cell? ⟨gb246, 5, none⟩ = some (.bool false) := (blk_cell BK246.out 5).trans rfl; have hfz31_0 := blk_frozen BK246.out 0; have hfz31_1 := blk_frozen BK246.out 1; have hfz31_2 := blk_frozen BK246.out 2; have hfz31_3 := blk_frozen BK246.out 3; have hfz31_4 := blk_frozen BK246.out 4; have hfz31_5 := blk_frozen BK246.out 5))
                  go_loopg [15] kj8 (fun kq v15 w' => ∃ (x15_2 : Int), v15 = .int .i64 x15_2 ∧ Aside0 (leatref21_Judge.l0 kq a3 a4 t242 x15_2 ((rd_T42 t242 (ji14)).f0) ((rd_T42 t242 (ji14)).f1) ((rd_T42 t242 (ji14)).f2) ((rd_T42 t242 (ji14)).f3) ((rd_T42 t242 (ji14)).f4) ((rd_T42 t242 (ji14)).f5) = some (r1, r2, r3)) ∧ Aside0 (kq ≤ kj8) ∧ Aside0 (Kd.R k42 42 w' w.heap.size (fun k_ => k_ ≠ gb246) (.slice (some ad245) t242.length co29) t242) ∧ Aside0 (w'.heap[gb246]? = some (.cells #[.int .i64 ((rd_T42 t242 (ji14)).f0), .int .i16 ((rd_T42 t242 (ji14)).f1), .int .i32 ((rd_T42 t242 (ji14)).f2), .int .i64 ((rd_T42 t242 (ji14)).f3), .int .i64 ((rd_T42 t242 (ji14)).f4), .bool ((rd_T42 t242 (ji14)).f5)] 42 (0, 0))) ∧ Aside0 (Below w.heap.size w w'))
                  case atStart => exact ⟨(ji14), (by first | rfl | (simp; done) | (simp only [← hji14] <;> (first | rfl | simp)) | (simp [*]; done)), H', ⟨Nat.le_refl _⟩, ⟨by (with_reducible repeat (first | apply Kd.R_alloc | apply Kd.R_drewN | apply Kd.R_drew)); exact Kd.R_mono (Kd.R_far (p := ⟨gb246, 5, none⟩) (Kd.R_far (p := ⟨gb246, 4, none⟩) (Kd.R_far (p := ⟨gb246, 3, none⟩) (Kd.R_far (p := ⟨gb246, 2, none⟩) (Kd.R_far (p := ⟨gb246, 1, none⟩) (Kd.R_far (p := ⟨gb246, 0, none⟩) (Kd.R_mono HO_13.out (fun k_ hk => (⟨hk, hk.2⟩ : _ ∧ k_ ≠ gb246))) (fun _ hk => hk.2) (.int .i64 ((rd_T42 t242 (ji14)).f0))) (fun _ hk => hk.2) (.int .i16 ((rd_T42 t242 (ji14)).f1))) (fun _ hk => hk.2) (.int .i32 ((rd_T42 t242 (ji14)).f2))) (fun _ hk => hk.2) (.int .i64 ((rd_T42 t242 (ji14)).f3))) (fun _ hk => hk.2) (.int .i64 ((rd_T42 t242 (ji14)).f4))) (fun _ hk => hk.2) (.bool ((rd_T42 t242 (ji14)).f5))) (fun _ hk => hk.1.2)⟩, ⟨by (with_reducible repeat (first | refine blk_drewN ?_ _ | refine blk_drew ?_ | refine blk_alloc ?_ _)); refine blk_put (cs := #[.int .i64 ((rd_T42 t242 (ji14)).f0), .int .i16 ((rd_T42 t242 (ji14)).f1), .int .i32 ((rd_T42 t242 (ji14)).f2), .int .i64 ((rd_T42 t242 (ji14)).f3), .int .i64 ((rd_T42 t242 (ji14)).f4), .bool false]) ?_ 5 _ rfl; (with_reducible repeat (first | refine blk_drewN ?_ _ | refine blk_drew ?_ | refine blk_alloc ?_ _)); refine blk_put (cs := #[.int .i64 ((rd_T42 t242 (ji14)).f0), .int .i16 ((rd_T42 t242 (ji14)).f1), .int .i32 ((rd_T42 t242 (ji14)).f2), .int .i64 ((rd_T42 t242 (ji14)).f3), .int .i64 0, .bool false]) ?_ 4 _ rfl; (with_reducible repeat (first | refine blk_drewN ?_ _ | refine blk_drew ?_ | refine blk_alloc ?_ _)); refine blk_put (cs := #[.int .i64 ((rd_T42 t242 (ji14)).f0), .int .i16 ((rd_T42 t242 (ji14)).f1), .int .i32 ((rd_T42 t242 (ji14)).f2), .int .i64 0, .int .i64 0, .bool false]) ?_ 3 _ rfl; (with_reducible repeat (first | refine blk_drewN ?_ _ | refine blk_drew ?_ | refine blk_alloc ?_ _)); refine blk_put (cs := #[.int .i64 ((rd_T42 t242 (ji14)).f0), .int .i16 ((rd_T42 t242 (ji14)).f1), .int .i32 0, .int .i64 0, .int .i64 0, .bool false]) ?_ 2 _ rfl; (with_reducible repeat (first | refine blk_drewN ?_ _ | refine blk_drew ?_ | refine blk_alloc ?_ _)); refine blk_put (cs := #[.int .i64 ((rd_T42 t242 (ji14)).f0), .int .i16 0, .int .i32 0, .int .i64 0, .int .i64 0, .bool false]) ?_ 1 _ rfl; (with_reducible repeat (first | refine blk_drewN ?_ _ | refine blk_drew ?_ | refine blk_alloc ?_ _)); refine blk_put (cs := #[.int .i64 0, .int .i16 0, .int .i32 0, .int .i64 0, .int .i64 0, .bool false]) ?_ 0 _ rfl; (with_reducible repeat (first | refine blk_drewN ?_ _ | refine blk_drew ?_ | refine blk_alloc ?_ _)); exact BK246.out⟩, ⟨by repeat (first | (with_reducible first | exact HB.out | apply below_alloc | apply pw_below_drewN | apply below_drew1 | refine below_set ?_ GE246.out) | exact HB.out)⟩⟩
                  case round =>
                    clear H'
                    try clear c1
                    try clear c2
                    try clear p2
                    try clear q2
                    try clear hx2
                    try clear p6
                    try clear c7
                    try clear c11
                    try clear c11b0
                    try clear c11b1
                    try clear c13
                    try clear c15
                    try clear c15b0
                    try clear c16
                    try clear c16b0
                    try clear c17
                    try clear c17b0
                    try clear c21
                    try clear c21b0
                    try clear c22
                    try clear c22b0
                    try clear c22b1
                    try clear c23
                    try clear p24
                    try clear q24
                    try clear hx24
                    try clear hcz20_0
                    try clear hcz20_1
                    try clear hcz20_2
                    try clear hcz20_3
                    try clear hcz20_4
                    try clear hcz20_5
                    try clear hcz25_0
                    try clear hcz25_1
                    try clear hcz25_2
                    try clear hcz25_3
                    try clear hcz25_4
                    try clear hcz25_5
                    try clear hcz28_0
                    try clear hcz28_1
                    try clear hcz28_2
                    try clear hcz28_3
                    try clear hcz28_4
                    try clear hcz28_5
                    try clear hcz31_0
                    try clear hcz31_1
                    try clear hcz31_2
                    try clear hcz31_3
                    try clear hcz31_4
                    try clear hcz31_5
                    try clear hfz20_0
                    try clear hfz20_1
                    try clear hfz20_2
                    try clear hfz20_3
                    try clear hfz20_4
                    try clear hfz20_5
                    try clear hfz25_0
                    try clear hfz25_1
                    try clear hfz25_2
                    try clear hfz25_3
                    try clear hfz25_4
                    try clear hfz25_5
                    try clear hfz28_0
                    try clear hfz28_1
                    try clear hfz28_2
                    try clear hfz28_3
                    try clear hfz28_4
                    try clear hfz28_5
                    try clear hfz31_0
                    try clear hfz31_1
                    try clear hfz31_2
                    try clear hfz31_3
                    try clear hfz31_4
                    try clear hfz31_5
                    try clear hx245_0
                    try clear hx245_1
                    try clear hx245_2
                    try clear hx245_3
                    try clear hx245_4
                    try clear hx245_5
                    try clear p2
                    try clear p245
                    try clear q245
                    obtain ⟨x15_2, rfl, HA, HK2, HO_13, BK246, HB⟩ := hrel
                    cases gk with
                    | zero => exact absurd HA.out (by simp [leatref21_Judge.l0])
                    | succ k2 =>
                      have H := HA.out
                      clear HA
                      simp only [leatref21_Judge.l0] at H
                      by_cases c32 : x15_2 ≥ 0
                      · rw [if_pos c32] at H
                        have c32b0 : decide (0 ≤ x15_2) = true := decide_eq_true c32
                        clear c32
                        by_cases c33 : 0 ≤ x15_2
                        · rw [if_pos c33] at H
                          have c33b0 : decide (0 ≤ x15_2) = true := decide_eq_true c33
                          clear c33
                          by_cases c34 : x15_2 < (t242.length : Int)
                          · rw [if_pos c34] at H
                            have c34b0 : decide (x15_2 < (t242.length : Int)) = true := decide_eq_true c34
                            clear c34
                            by_cases c35 : ((rd_T42 t242 x15_2).f2) = a3
                            · rw [if_pos c35] at H
                              have c35b0 : (((rd_T42 t242 x15_2).f2) == a3) = true := beq_iff_eq.mpr c35
                              have c35b1 : (((rd_T42 t242 x15_2).f2) != a3) = false := bne_eq_false_iff_eq.mpr c35
                              clear c35
                              by_cases c36 : ((rd_T42 t242 x15_2).f3) = a4
                              · rw [if_pos c36] at H
                                have c36b0 : (((rd_T42 t242 x15_2).f3) == a4) = true := beq_iff_eq.mpr c36
                                have c36b1 : (((rd_T42 t242 x15_2).f3) != a4) = false := bne_eq_false_iff_eq.mpr c36
                                clear c36
                                simp only [Option.some.injEq, Prod.mk.injEq] at H
                                obtain ⟨rfl, rfl, rfl⟩ := H
                                have p247 : 0 ≤ (x15_2 : Int) := of_decide_eq_true (by first | (with_reducible assumption) | assumption)
                                have q247 : x15_2 < (t242.length : Int) := of_decide_eq_true (by first | (with_reducible assumption) | assumption)
                                obtain ⟨ad247, e247, hx247_0, hx247_1, hx247_2, hx247_3, hx247_4, hx247_5⟩ := at_T42 (Kd.R_reads' HO_13.out).2.2 x15_2 p247 q247
                                obtain rfl : ad245 = ad247 := (by injection e247)
                                replace p247 := eq_true p247
                                replace q247 := eq_true q247
                                have p248 : 0 ≤ (x15_2 : Int) := of_decide_eq_true (by first | (with_reducible assumption) | assumption)
                                have q248 : x15_2 < (t242.length : Int) := of_decide_eq_true (by first | (with_reducible assumption) | assumption)
                                obtain ⟨ad248, e248, hx248_0, hx248_1, hx248_2, hx248_3, hx248_4, hx248_5⟩ := at_T42 (Kd.R_reads' HO_13.out).2.2 x15_2 p248 q248
                                obtain rfl : ad245 = ad248 := (by injection e248)
                                replace p248 := eq_true p248
                                replace q248 := eq_true q248
                                have p249 : 0 ≤ (x15_2 : Int) := of_decide_eq_true (by first | (with_reducible assumption) | assumption)
                                have q249 : x15_2 < (t242.length : Int) := of_decide_eq_true (by first | (with_reducible assumption) | assumption)
                                obtain ⟨ad249, e249, hx249_0, hx249_1, hx249_2, hx249_3, hx249_4, hx249_5⟩ := at_T42 (Kd.R_reads' HO_13.out).2.2 x15_2 p249 q249
                                obtain rfl : ad245 = ad249 := (by injection e249)
                                replace p249 := eq_true p249
                                replace q249 := eq_true q249
                                go_wp2
                                go_ret3
                                exact ⟨by first | rfl | (simp [errW_none, errW_some] <;> rfl) | (simp only [← hji14]; first | rfl | (simp [errW_none, errW_some] <;> rfl)) | (simp [*, errW_none, errW_some] <;> rfl), by repeat (first | (with_reducible first | exact HB.out | apply below_alloc | apply pw_below_drewN | apply below_drew1 | refine below_set ?_ GE246.out) | exact HB.out)⟩
                              · rw [if_neg c36] at H
                                have c36b0 : (((rd_T42 t242 x15_2).f3) == a4) = false := beq_eq_false_iff_ne.mpr c36
                                have c36b1 : (((rd_T42 t242 x15_2).f3) != a4) = true := bne_iff_ne.mpr c36
                                have H' := Aside0.mk H
                                clear H
                                have p247 : 0 ≤ (x15_2 : Int) := of_decide_eq_true (by first | (with_reducible assumption) | assumption)
                                have q247 : x15_2 < (t242.length : Int) := of_decide_eq_true (by first | (with_reducible assumption) | assumption)
                                obtain ⟨ad247, e247, hx247_0, hx247_1, hx247_2, hx247_3, hx247_4, hx247_5⟩ := at_T42 (Kd.R_reads' HO_13.out).2.2 x15_2 p247 q247
                                obtain rfl : ad245 = ad247 := (by injection e247)
                                replace p247 := eq_true p247
                                replace q247 := eq_true q247
                                have p248 : 0 ≤ (x15_2 : Int) := of_decide_eq_true (by first | (with_reducible assumption) | assumption)
                                have q248 : x15_2 < (t242.length : Int) := of_decide_eq_true (by first | (with_reducible assumption) | assumption)
                                obtain ⟨ad248, e248, hx248_0, hx248_1, hx248_2, hx248_3, hx248_4, hx248_5⟩ := at_T42 (Kd.R_reads' HO_13.out).2.2 x15_2 p248 q248
                                obtain rfl : ad245 = ad248 := (by injection e248)
                                replace p248 := eq_true p248
                                replace q248 := eq_true q248
                                go_wp2
                                go_roundg k2
                                case measure => have := HJ8.out; have := HK2.out; omega
                                case rel => exact ⟨(wrap64 (x15_2 - 1)), (by first | rfl | (simp; done) | (simp [*]; done)), H', ⟨by have := HJ8.out; have := HK2.out; omega⟩, ⟨by (with_reducible repeat (first | apply Kd.R_alloc | apply Kd.R_drewN | apply Kd.R_drew)); exact HO_13.out⟩, ⟨by (with_reducible repeat (first | refine blk_drewN ?_ _ | refine blk_drew ?_ | refine blk_alloc ?_ _)); exact BK246.out⟩, ⟨by repeat (first | (with_reducible first | exact HB.out | apply below_alloc | apply pw_below_drewN | apply below_drew1 | refine below_set ?_ GE246.out) | exact HB.out)⟩⟩
                            · rw [if_neg c35] at H
                              have c35b0 : (((rd_T42 t242 x15_2).f2) == a3) = false := beq_eq_false_iff_ne.mpr c35
                              have c35b1 : (((rd_T42 t242 x15_2).f2) != a3) = true := bne_iff_ne.mpr c35
                              have H' := Aside0.mk H
                              clear H
                              have p247 : 0 ≤ (x15_2 : Int) := of_decide_eq_true (by first | (with_reducible assumption) | assumption)
                              have q247 : x15_2 < (t242.length : Int) := of_decide_eq_true (by first | (with_reducible assumption) | assumption)
                              obtain ⟨ad247, e247, hx247_0, hx247_1, hx247_2, hx247_3, hx247_4, hx247_5⟩ := at_T42 (Kd.R_reads' HO_13.out).2.2 x15_2 p247 q247
                              obtain rfl : ad245 = ad247 := (by injection e247)
                              replace p247 := eq_true p247
                              replace q247 := eq_true q247
                              go_wp2
                              go_roundg k2
                              case measure => have := HJ8.out; have := HK2.out; omega
                              case rel => exact ⟨(wrap64 (x15_2 - 1)), (by first | rfl | (simp; done) | (simp [*]; done)), H', ⟨by have := HJ8.out; have := HK2.out; omega⟩, ⟨by (with_reducible repeat (first | apply Kd.R_alloc | apply Kd.R_drewN | apply Kd.R_drew)); exact HO_13.out⟩, ⟨by (with_reducible repeat (first | refine blk_drewN ?_ _ | refine blk_drew ?_ | refine blk_alloc ?_ _)); exact BK246.out⟩, ⟨by repeat (first | (with_reducible first | exact HB.out | apply below_alloc | apply pw_below_drewN | apply below_drew1 | refine below_set ?_ GE246.out) | exact HB.out)⟩⟩
                          · rw [if_neg c34] at H
                            exact absurd H (by simp)
                        · rw [if_neg c33] at H
                          exact absurd H (by simp)
                      · rw [if_neg c32] at H
                        have c32b0 : decide (0 ≤ x15_2) = false := decide_eq_false c32
                        clear c32
                        by_cases c37 : (Int.tmod (wrap64 ((wrap64 (((rd_T42 t242 (ji14)).f2))) + ((rd_T42 t242 (ji14)).f3))) 2147483648) = (wrap64 (a3))
                        · rw [if_pos c37] at H
                          have c37b0 : ((Int.tmod (wrap64 ((wrap64 (((rd_T42 t242 (ji14)).f2))) + ((rd_T42 t242 (ji14)).f3))) 2147483648) == (wrap64 (a3))) = true := beq_iff_eq.mpr c37
                          have c37b1 : ((Int.tmod (wrap64 ((wrap64 (((rd_T42 t242 (ji14)).f2))) + ((rd_T42 t242 (ji14)).f3))) 2147483648) != (wrap64 (a3))) = false := bne_eq_false_iff_eq.mpr c37
                          clear c37
                          simp only [Option.some.injEq, Prod.mk.injEq] at H
                          obtain ⟨rfl, rfl, rfl⟩ := H
                          have hcz38_0 : wr.cell? ⟨gb246, 0, none⟩ = some (.int .i64 ((rd_T42 t242 (ji14)).f0)) := (blk_cell BK246.out 0).trans rfl
                          have hcz38_1 : wr.cell? ⟨gb246, 1, none⟩ = some (.int .i16 ((rd_T42 t242 (ji14)).f1)) := (blk_cell BK246.out 1).trans rfl
                          have hcz38_2 : wr.cell? ⟨gb246, 2, none⟩ = some (.int .i32 ((rd_T42 t242 (ji14)).f2)) := (blk_cell BK246.out 2).trans rfl
                          have hcz38_3 : wr.cell? ⟨gb246, 3, none⟩ = some (.int .i64 ((rd_T42 t242 (ji14)).f3)) := (blk_cell BK246.out 3).trans rfl
                          have hcz38_4 : wr.cell? ⟨gb246, 4, none⟩ = some (.int .i64 ((rd_T42 t242 (ji14)).f4)) := (blk_cell BK246.out 4).trans rfl
                          have hcz38_5 : wr.cell? ⟨gb246, 5, none⟩ = some (.bool ((rd_T42 t242 (ji14)).f5)) := (blk_cell BK246.out 5).trans rfl
                          have hfz38_0 := blk_frozen BK246.out 0
                          have hfz38_1 := blk_frozen BK246.out 1
                          have hfz38_2 := blk_frozen BK246.out 2
                          have hfz38_3 := blk_frozen BK246.out 3
                          have hfz38_4 := blk_frozen BK246.out 4
                          have hfz38_5 := blk_frozen BK246.out 5
                          go_wp2
                          go_ret3
                          exact ⟨by first | rfl | (simp [errW_none, errW_some] <;> rfl) | (simp only [← hji14]; first | rfl | (simp [errW_none, errW_some] <;> rfl)) | (simp [*, errW_none, errW_some] <;> rfl), by repeat (first | (with_reducible first | exact HB.out | apply below_alloc | apply pw_below_drewN | apply below_drew1 | refine below_set ?_ GE246.out) | exact HB.out)⟩
                        · rw [if_neg c37] at H
                          have c37b0 : ((Int.tmod (wrap64 ((wrap64 (((rd_T42 t242 (ji14)).f2))) + ((rd_T42 t242 (ji14)).f3))) 2147483648) == (wrap64 (a3))) = false := beq_eq_false_iff_ne.mpr c37
                          have c37b1 : ((Int.tmod (wrap64 ((wrap64 (((rd_T42 t242 (ji14)).f2))) + ((rd_T42 t242 (ji14)).f3))) 2147483648) != (wrap64 (a3))) = true := bne_iff_ne.mpr c37
                          simp only [Option.some.injEq, Prod.mk.injEq] at H
                          obtain ⟨rfl, rfl, rfl⟩ := H
                          have hcz39_0 : wr.cell? ⟨gb246, 0, none⟩ = some (.int .i64 ((rd_T42 t242 (ji14)).f0)) := (blk_cell BK246.out 0).trans rfl
                          have hcz39_1 : wr.cell? ⟨gb246, 1, none⟩ = some (.int .i16 ((rd_T42 t242 (ji14)).f1)) := (blk_cell BK246.out 1).trans rfl
                          have hcz39_2 : wr.cell? ⟨gb246, 2, none⟩ = some (.int .i32 ((rd_T42 t242 (ji14)).f2)) := (blk_cell BK246.out 2).trans rfl
                          have hcz39_3 : wr.cell? ⟨gb246, 3, none⟩ = some (.int .i64 ((rd_T42 t242 (ji14)).f3)) := (blk_cell BK246.out 3).trans rfl
                          have hcz39_4 : wr.cell? ⟨gb246, 4, none⟩ = some (.int .i64 ((rd_T42 t242 (ji14)).f4)) := (blk_cell BK246.out 4).trans rfl
                          have hcz39_5 : wr.cell? ⟨gb246, 5, none⟩ = some (.bool ((rd_T42 t242 (ji14)).f5)) := (blk_cell BK246.out 5).trans rfl
                          have hfz39_0 := blk_frozen BK246.out 0
                          have hfz39_1 := blk_frozen BK246.out 1
                          have hfz39_2 := blk_frozen BK246.out 2
                          have hfz39_3 := blk_frozen BK246.out 3
                          have hfz39_4 := blk_frozen BK246.out 4
                          have hfz39_5 := blk_frozen BK246.out 5
                          go_wp2
                          go_ret3
                          exact ⟨by first | rfl | (simp [errW_none, errW_some] <;> rfl) | (simp only [← hji14]; first | rfl | (simp [errW_none, errW_some] <;> rfl)) | (simp [*, errW_none, errW_some] <;> rfl), by repeat (first | (with_reducible first | exact HB.out | apply below_alloc | apply pw_below_drewN | apply below_drew1 | refine below_set ?_ GE246.out) | exact HB.out)⟩
            · rw [if_neg c16] at H
              exact absurd H (by simp)
          · rw [if_neg c15] at H
            exact absurd H (by simp)

/-! ### leatref21_Note: function 12 -/
mutual
def leatref21_Note.j0 : Nat → List (S42) → Bool → Int → Int → Int → Int → Int → Bool → Option ((List (S42)) × Int)
  | 0, _, _, _, _, _, _, _, _ => none
  | k + 1, x0, x26, x251000, x251001, x251002, x251003, x251004, x251005 => if x26 = true then (some (x0, 3)) else (leatref21_Note.l0 k x0 (([] : List (S42))) 0 x251000 x251001 x251002 x251003 x251004 x251005)
def leatref21_Note.l0 : Nat → List (S42) → List (S42) → Int → Int → Int → Int → Int → Int → Bool → Option ((List (S42)) × Int)
  | 0, _, _, _, _, _, _, _, _, _ => none
  | k + 1, x0, x6, x7, x251000, x251001, x251002, x251003, x251004, x251005 => if x7 < (x0.length : Int) then (if 0 ≤ x7 then (if x6.length < 3518437208883 then (leatref21_Note.l0 k x0 (x6 ++ [(⟨(rd_T42 x0 x7).f0, (rd_T42 x0 x7).f1, (rd_T42 x0 x7).f2, (rd_T42 x0 x7).f3, (rd_T42 x0 x7).f4, (rd_T42 x0 x7).f5⟩ : S42)]) (wrap64 (x7 + 1)) x251000 x251001 x251002 x251003 x251004 x251005) else (none)) else (none)) else (if x251000 ≥ 0 then (if x6.length < 3518437208883 then (some ((x6 ++ [(⟨x251000, x251001, x251002, x251003, x251004, x251005⟩ : S42)]), 0)) else (none)) else (some (x6, 0)))
end
def leatref21_Note.f (k : Nat) (l0 : List (S42)) (a1_0 : Int) (a1_1 : Int) (a1_2 : Int) (a1_3 : Int) (a1_4 : Int) (a1_5 : Bool) : Option ((List (S42)) × Int) := (leatref21_bad.f a1_0 a1_1 a1_2 a1_3).bind fun t251 => (if t251 = true then (leatref21_Note.j0 k l0 true a1_0 a1_1 a1_2 a1_3 a1_4 a1_5) else (if a1_0 ≥ 0 then (leatref21_Note.j0 k l0 (decide (a1_4 < 0)) a1_0 a1_1 a1_2 a1_3 a1_4 a1_5) else (leatref21_Note.j0 k l0 false a1_0 a1_1 a1_2 a1_3 a1_4 a1_5)))
theorem leatref21_Note.mono_l : ∀ k, (∀ y0 y1 y2 y3 y4 y5 y6 y7, LeO (leatref21_Note.j0 k y0 y1 y2 y3 y4 y5 y6 y7) (leatref21_Note.j0 (k + 1) y0 y1 y2 y3 y4 y5 y6 y7)) ∧ (∀ y0 y1 y2 y3 y4 y5 y6 y7 y8, LeO (leatref21_Note.l0 k y0 y1 y2 y3 y4 y5 y6 y7 y8) (leatref21_Note.l0 (k + 1) y0 y1 y2 y3 y4 y5 y6 y7 y8))
  | 0 => ⟨fun _ _ _ _ _ _ _ _ r h => by simp [leatref21_Note.j0] at h, fun _ _ _ _ _ _ _ _ _ r h => by simp [leatref21_Note.l0] at h⟩
  | k + 1 => by
    obtain ⟨ih0, ih1⟩ := leatref21_Note.mono_l k
    refine ⟨?_, ?_⟩
    · intro y0 y1 y2 y3 y4 y5 y6 y7
      unfold leatref21_Note.j0
      repeat' first
      | (with_reducible exact ih0 _ _ _ _ _ _ _ _)
      | (with_reducible exact ih1 _ _ _ _ _ _ _ _ _)
      | (with_reducible exact LeO.refl _)
      | (with_reducible exact LeO.none _)
      | (with_reducible refine LeO.ite ?_ ?_)
      | (with_reducible refine LeO.bind ?_ (fun _ => ?_))
      | exact ih0 _ _ _ _ _ _ _ _
      | exact ih1 _ _ _ _ _ _ _ _ _
      | exact LeO.none _
      | refine LeO.ite ?_ ?_
      | refine LeO.bind ?_ (fun _ => ?_)
    · intro y0 y1 y2 y3 y4 y5 y6 y7 y8
      unfold leatref21_Note.l0
      repeat' first
      | (with_reducible exact ih0 _ _ _ _ _ _ _ _)
      | (with_reducible exact ih1 _ _ _ _ _ _ _ _ _)
      | (with_reducible exact LeO.refl _)
      | (with_reducible exact LeO.none _)
      | (with_reducible refine LeO.ite ?_ ?_)
      | (with_reducible refine LeO.bind ?_ (fun _ => ?_))
      | exact ih0 _ _ _ _ _ _ _ _
      | exact ih1 _ _ _ _ _ _ _ _ _
      | exact LeO.none _
      | refine LeO.ite ?_ ?_
      | refine LeO.bind ?_ (fun _ => ?_)
theorem leatref21_Note.mono : ∀ a0 a1 a2 a3 a4 a5 a6 k, LeO (leatref21_Note.f k a0 a1 a2 a3 a4 a5 a6) (leatref21_Note.f (k + 1) a0 a1 a2 a3 a4 a5 a6) := by
  intro a0 a1 a2 a3 a4 a5 a6 k
  obtain ⟨ih0, ih1⟩ := leatref21_Note.mono_l k
  unfold leatref21_Note.f
  repeat' first
      | (with_reducible exact ih0 _ _ _ _ _ _ _ _)
      | (with_reducible exact ih1 _ _ _ _ _ _ _ _ _)
      | (with_reducible exact LeO.refl _)
      | (with_reducible exact LeO.none _)
      | (with_reducible refine LeO.ite ?_ ?_)
      | (with_reducible refine LeO.bind ?_ (fun _ => ?_))
      | exact ih0 _ _ _ _ _ _ _ _
      | exact ih1 _ _ _ _ _ _ _ _ _
      | exact LeO.none _
      | refine LeO.ite ?_ ?_
      | refine LeO.bind ?_ (fun _ => ?_)
set_option maxHeartbeats 8000000 in
set_option maxRecDepth 100000 in
theorem leatref21_Note.calls (k : Nat) (P0_ : Nat → Prop) (u9000_ : Value) (l0 : List (S42)) (a1_0 : Int) (a1_1 : Int) (a1_2 : Int) (a1_3 : Int) (a1_4 : Int) (a1_5 : Bool) (r1 : List (S42)) (r2 : Int) (w0 w : World) (hB : Below w0.heap.size w0 w) (ho0 : Kd.R k42 42 w w0.heap.size P0_ u9000_ l0) (h : leatref21_Note.f k l0 a1_0 a1_1 a1_2 a1_3 a1_4 a1_5 = some (r1, r2)) :
    Calls Try.prog 12 #[u9000_, .agg #[.int .i64 a1_0, .int .i16 a1_1, .int .i32 a1_2, .int .i64 a1_3, .int .i64 a1_4, .bool a1_5]] w fun e w' => ∃ v0_ : Value, e = .returned (.tuple #[v0_, .int .i64 r2]) ∧ Kd.R k42 42 w' w0.heap.size (fun k_ => (P0_ k_ ∨ w.heap.size ≤ k_)) v0_ r1 ∧ Below w0.heap.size w0 w' ∧ Kept w w' (fun k_ => P0_ k_) := by
  have hu42 := Try.underlying42
  have HO0 := Aside0.mk (show Kd.R k42 42 w w0.heap.size (fun k_ => (P0_ k_ ∨ w.heap.size ≤ k_)) u9000_ l0 from Kd.R_mono ho0 (fun k_ hk => (.inl hk)))
  have HK := Aside0.mk (Kept.refl w (fun k_ => P0_ k_))
  have HW0 := Aside0.mk hB.size
  have HB := Aside0.mk hB
  clear hB
  have H : ((leatref21_bad.f a1_0 a1_1 a1_2 a1_3).bind fun t251 => (if t251 = true then (leatref21_Note.j0 k l0 true a1_0 a1_1 a1_2 a1_3 a1_4 a1_5) else (if a1_0 ≥ 0 then (leatref21_Note.j0 k l0 (decide (a1_4 < 0)) a1_0 a1_1 a1_2 a1_3 a1_4 a1_5) else (leatref21_Note.j0 k l0 false a1_0 a1_1 a1_2 a1_3 a1_4 a1_5)))) = some (r1, r2) := h
  clear h
  have HC3 := Aside0.mk H
  clear H
  go_enter Try.func12, Try.ntmps12
  go_upto_region 1 with (first | ((with_reducible refine gate_dst (N := 3) rfl ?_); refine box_event ?hg (N := 3) ?hd (cs := #[.int .i64 a1_0, .int .i16 a1_1, .int .i32 a1_2, .int .i64 a1_3, .int .i64 a1_4, .bool a1_5]) (t := 42) ?hr ?_; (case hd => rfl); (case hg => rfl); (case hr => first | (go_simp; done) | (go_simp; rfl)); intro gb250 hg w4 hbox hb; have n0_ := Aside0.mk (Kd.R_below (Kd.R_elderB (by (with_reducible repeat (first | apply Kd.R_alloc | apply Kd.R_drewN | apply Kd.R_drew)); exact HO0.out) gb250 (Nat.le_of_eq hg.symm)) hb); have n1_ := Aside0.mk (Kept.below (S := (fun k_ => P0_ k_)) (by repeat (first | (with_reducible first | exact HK.out | apply Kept.alloc | apply Kept.drewN | apply Kept.drew) | exact HK.out)) hb); have n2_ := Aside0.mk (below_step (by repeat (first | (with_reducible first | exact HB.out | apply below_alloc | apply pw_below_drewN | apply below_drew1) | exact HB.out)) hb); have n3_ := Aside0.mk (hbox); have n4_ := Aside0.mk ((by rw [hg]; exact (by first | exact HK.out.1 | exact (show Kept w _ (fun k_ => P0_ k_) from by repeat (first | (with_reducible first | exact HK.out | apply Kept.alloc | apply Kept.drewN | apply Kept.drew) | exact HK.out)).1) : w.heap.size ≤ gb250)); have n5_ := Aside0.mk ((by rw [hg]; exact (below_size (by repeat (first | (with_reducible first | exact HB.out | apply below_alloc | apply pw_below_drewN | apply below_drew1) | exact HB.out))) : w0.heap.size ≤ gb250)); clear HO0; clear HK; clear HB; have HO0 := n0_; have HK := n1_; have HB := n2_; have BK250 := n3_; have GW250 := n4_; have GE250 := n5_; clear n0_ n1_ n2_ n3_ n4_ n5_; clear hb hbox hg))
  (try simp only [Act.put, List.setIfInBounds_toArray, List.set_cons_zero, List.set_cons_succ])
  go_cut [26] (fun v26 wc => ∃ (kq : Nat) (x26_2 : Bool), v26 = .bool x26_2 ∧ Aside0 (leatref21_Note.j0 kq l0 x26_2 a1_0 a1_1 a1_2 a1_3 a1_4 a1_5 = some (r1, r2)) ∧ Aside0 (kq ≤ k) ∧ Aside0 (Kd.R k42 42 wc w0.heap.size (fun k_ => (P0_ k_ ∨ w.heap.size ≤ k_) ∧ k_ ≠ gb250) u9000_ l0) ∧ Aside0 (wc.heap[gb250]? = some (.cells #[.int .i64 a1_0, .int .i16 a1_1, .int .i32 a1_2, .int .i64 a1_3, .int .i64 a1_4, .bool a1_5] 42 (0, 0))) ∧ Aside0 (Kept w wc (fun k_ => P0_ k_)) ∧ Aside0 (Below w0.heap.size w0 wc))
  case first =>
    have H := HC3.out
    clear HC3
    replace H := Option.bind_eq_some_iff.mp H
    obtain ⟨t251, A50, H⟩ := H
    replace H : (if t251 = true then (leatref21_Note.j0 k l0 true a1_0 a1_1 a1_2 a1_3 a1_4 a1_5) else (if a1_0 ≥ 0 then (leatref21_Note.j0 k l0 (decide (a1_4 < 0)) a1_0 a1_1 a1_2 a1_3 a1_4 a1_5) else (leatref21_Note.j0 k l0 false a1_0 a1_1 a1_2 a1_3 a1_4 a1_5))) = some (r1, r2) := H
    have A5 := Aside0.mk A50
    clear A50
    by_cases c6 : t251 = true
    · subst c6
      have H1 : (leatref21_Note.j0 k l0 true a1_0 a1_1 a1_2 a1_3 a1_4 a1_5) = some (r1, r2) := by rw [if_pos rfl] at H; exact H
      clear H
      have H := H1
      clear H1
      have H' := Aside0.mk H
      clear H
      have hcz7_0 : w4.cell? ⟨gb250, 0, none⟩ = some (.int .i64 a1_0) := (blk_cell BK250.out 0).trans rfl
      have hcz7_1 : w4.cell? ⟨gb250, 1, none⟩ = some (.int .i16 a1_1) := (blk_cell BK250.out 1).trans rfl
      have hcz7_2 : w4.cell? ⟨gb250, 2, none⟩ = some (.int .i32 a1_2) := (blk_cell BK250.out 2).trans rfl
      have hcz7_3 : w4.cell? ⟨gb250, 3, none⟩ = some (.int .i64 a1_3) := (blk_cell BK250.out 3).trans rfl
      have hcz7_4 : w4.cell? ⟨gb250, 4, none⟩ = some (.int .i64 a1_4) := (blk_cell BK250.out 4).trans rfl
      have hcz7_5 : w4.cell? ⟨gb250, 5, none⟩ = some (.bool a1_5) := (blk_cell BK250.out 5).trans rfl
      have hfz7_0 := blk_frozen BK250.out 0
      have hfz7_1 := blk_frozen BK250.out 1
      have hfz7_2 := blk_frozen BK250.out 2
      have hfz7_3 := blk_frozen BK250.out 3
      have hfz7_4 := blk_frozen BK250.out 4
      have hfz7_5 := blk_frozen BK250.out 5
      go_wp2_with (first | ((with_reducible refine gate_callee (f := 22) rfl ?_); refine goesL_ (some 16) rfl rfl Try.func22 (by kernel_rfl) rfl #[.int .i64 a1_0, .int .i16 a1_1, .int .i32 a1_2, .int .i64 a1_3] rfl (by (try simp only [List.map_toArray, List.map_cons, List.map_nil]); first | done | rfl | (simp only [List.length_drop, List.length_take]; rfl)) ?_; (with_reducible refine (leatref21_bad.calls a1_0 a1_1 a1_2 a1_3 true _ A5.out).mono ?_); rintro e w' ⟨rfl, ⟨nd, rfl⟩⟩; refine ⟨_, rfl, ?_⟩))
      go_meet
      case rel => exact ⟨_, (true), (by first | rfl | (simp; done) | (simp [*]; done)), H', ⟨by first | omega | exact Nat.le_refl _⟩, ⟨by (with_reducible repeat (first | apply Kd.R_alloc | apply Kd.R_drewN | apply Kd.R_drew)); exact HO0.out⟩, ⟨by (with_reducible repeat (first | refine blk_drewN ?_ _ | refine blk_drew ?_ | refine blk_alloc ?_ _)); exact BK250.out⟩, ⟨by repeat (first | (with_reducible first | exact HK.out | apply Kept.alloc | apply Kept.drewN | apply Kept.drew | refine Kept.setCell ?_ (.inr GW250.out) _) | exact HK.out)⟩, ⟨by repeat (first | (with_reducible first | exact HB.out | apply below_alloc | apply pw_below_drewN | apply below_drew1 | refine below_set ?_ GE250.out) | exact HB.out)⟩⟩
    · replace c6 := Bool.eq_false_iff.mpr c6
      subst c6
      have H1 : (if a1_0 ≥ 0 then (leatref21_Note.j0 k l0 (decide (a1_4 < 0)) a1_0 a1_1 a1_2 a1_3 a1_4 a1_5) else (leatref21_Note.j0 k l0 false a1_0 a1_1 a1_2 a1_3 a1_4 a1_5)) = some (r1, r2) := by rw [if_neg (show ¬ (false = true) by decide)] at H; exact H
      clear H
      have H := H1
      clear H1
      by_cases c8 : a1_0 ≥ 0
      · rw [if_pos c8] at H
        have c8b0 : decide (0 ≤ a1_0) = true := decide_eq_true c8
        clear c8
        (first | rw [c8b0] | (simp only [i64_w, i32_w]; rw [c8b0]) | skip)
        have H' := Aside0.mk H
        clear H
        have hcz9_0 : w4.cell? ⟨gb250, 0, none⟩ = some (.int .i64 a1_0) := (blk_cell BK250.out 0).trans rfl
        have hcz9_1 : w4.cell? ⟨gb250, 1, none⟩ = some (.int .i16 a1_1) := (blk_cell BK250.out 1).trans rfl
        have hcz9_2 : w4.cell? ⟨gb250, 2, none⟩ = some (.int .i32 a1_2) := (blk_cell BK250.out 2).trans rfl
        have hcz9_3 : w4.cell? ⟨gb250, 3, none⟩ = some (.int .i64 a1_3) := (blk_cell BK250.out 3).trans rfl
        have hcz9_4 : w4.cell? ⟨gb250, 4, none⟩ = some (.int .i64 a1_4) := (blk_cell BK250.out 4).trans rfl
        have hcz9_5 : w4.cell? ⟨gb250, 5, none⟩ = some (.bool a1_5) := (blk_cell BK250.out 5).trans rfl
        have hfz9_0 := blk_frozen BK250.out 0
        have hfz9_1 := blk_frozen BK250.out 1
        have hfz9_2 := blk_frozen BK250.out 2
        have hfz9_3 := blk_frozen BK250.out 3
        have hfz9_4 := blk_frozen BK250.out 4
        have hfz9_5 := blk_frozen BK250.out 5
        go_wp2_with (first | ((with_reducible refine gate_callee (f := 22) rfl ?_); refine goesL_ (some 16) rfl rfl Try.func22 (by kernel_rfl) rfl #[.int .i64 a1_0, .int .i16 a1_1, .int .i32 a1_2, .int .i64 a1_3] rfl (by (try simp only [List.map_toArray, List.map_cons, List.map_nil]); first | done | rfl | (simp only [List.length_drop, List.length_take]; rfl)) ?_; (with_reducible refine (leatref21_bad.calls a1_0 a1_1 a1_2 a1_3 false _ A5.out).mono ?_); rintro e w' ⟨rfl, ⟨nd, rfl⟩⟩; refine ⟨_, rfl, ?_⟩))
        go_meet
        case rel => exact ⟨_, (decide (a1_4 < 0)), (by first | rfl | (simp; done) | (simp [*]; done)), H', ⟨by first | omega | exact Nat.le_refl _⟩, ⟨by (with_reducible repeat (first | apply Kd.R_alloc | apply Kd.R_drewN | apply Kd.R_drew)); exact HO0.out⟩, ⟨by (with_reducible repeat (first | refine blk_drewN ?_ _ | refine blk_drew ?_ | refine blk_alloc ?_ _)); exact BK250.out⟩, ⟨by repeat (first | (with_reducible first | exact HK.out | apply Kept.alloc | apply Kept.drewN | apply Kept.drew | refine Kept.setCell ?_ (.inr GW250.out) _) | exact HK.out)⟩, ⟨by repeat (first | (with_reducible first | exact HB.out | apply below_alloc | apply pw_below_drewN | apply below_drew1 | refine below_set ?_ GE250.out) | exact HB.out)⟩⟩
      · rw [if_neg c8] at H
        have c8b0 : decide (0 ≤ a1_0) = false := decide_eq_false c8
        clear c8
        (first | rw [c8b0] | (simp only [i64_w, i32_w]; rw [c8b0]) | skip)
        have H' := Aside0.mk H
        clear H
        have hcz10_0 : w4.cell? ⟨gb250, 0, none⟩ = some (.int .i64 a1_0) := (blk_cell BK250.out 0).trans rfl
        have hcz10_1 : w4.cell? ⟨gb250, 1, none⟩ = some (.int .i16 a1_1) := (blk_cell BK250.out 1).trans rfl
        have hcz10_2 : w4.cell? ⟨gb250, 2, none⟩ = some (.int .i32 a1_2) := (blk_cell BK250.out 2).trans rfl
        have hcz10_3 : w4.cell? ⟨gb250, 3, none⟩ = some (.int .i64 a1_3) := (blk_cell BK250.out 3).trans rfl
        have hcz10_4 : w4.cell? ⟨gb250, 4, none⟩ = some (.int .i64 a1_4) := (blk_cell BK250.out 4).trans rfl
        have hcz10_5 : w4.cell? ⟨gb250, 5, none⟩ = some (.bool a1_5) := (blk_cell BK250.out 5).trans rfl
        have hfz10_0 := blk_frozen BK250.out 0
        have hfz10_1 := blk_frozen BK250.out 1
        have hfz10_2 := blk_frozen BK250.out 2
        have hfz10_3 := blk_frozen BK250.out 3
        have hfz10_4 := blk_frozen BK250.out 4
        have hfz10_5 := blk_frozen BK250.out 5
        go_wp2_with (first | ((with_reducible refine gate_callee (f := 22) rfl ?_); refine goesL_ (some 16) rfl rfl Try.func22 (by kernel_rfl) rfl #[.int .i64 a1_0, .int .i16 a1_1, .int .i32 a1_2, .int .i64 a1_3] rfl (by (try simp only [List.map_toArray, List.map_cons, List.map_nil]); first | done | rfl | (simp only [List.length_drop, List.length_take]; rfl)) ?_; (with_reducible refine (leatref21_bad.calls a1_0 a1_1 a1_2 a1_3 false _ A5.out).mono ?_); rintro e w' ⟨rfl, ⟨nd, rfl⟩⟩; refine ⟨_, rfl, ?_⟩))
        go_meet
        case rel => exact ⟨_, (false), (by first | rfl | (simp; done) | (simp [*]; done)), H', ⟨by first | omega | exact Nat.le_refl _⟩, ⟨by (with_reducible repeat (first | apply Kd.R_alloc | apply Kd.R_drewN | apply Kd.R_drew)); exact HO0.out⟩, ⟨by (with_reducible repeat (first | refine blk_drewN ?_ _ | refine blk_drew ?_ | refine blk_alloc ?_ _)); exact BK250.out⟩, ⟨by repeat (first | (with_reducible first | exact HK.out | apply Kept.alloc | apply Kept.drewN | apply Kept.drew | refine Kept.setCell ?_ (.inr GW250.out) _) | exact HK.out)⟩, ⟨by repeat (first | (with_reducible first | exact HB.out | apply below_alloc | apply pw_below_drewN | apply below_drew1 | refine below_set ?_ GE250.out) | exact HB.out)⟩⟩
  case rest =>
    clear HC3
    try clear c1
    try clear c2
    try clear p2
    try clear c6
    try clear c8
    try clear c8b0
    try clear hcz10_0
    try clear hcz10_1
    try clear hcz10_2
    try clear hcz10_3
    try clear hcz10_4
    try clear hcz10_5
    try clear hcz7_0
    try clear hcz7_1
    try clear hcz7_2
    try clear hcz7_3
    try clear hcz7_4
    try clear hcz7_5
    try clear hcz9_0
    try clear hcz9_1
    try clear hcz9_2
    try clear hcz9_3
    try clear hcz9_4
    try clear hcz9_5
    try clear hfz10_0
    try clear hfz10_1
    try clear hfz10_2
    try clear hfz10_3
    try clear hfz10_4
    try clear hfz10_5
    try clear hfz7_0
    try clear hfz7_1
    try clear hfz7_2
    try clear hfz7_3
    try clear hfz7_4
    try clear hfz7_5
    try clear hfz9_0
    try clear hfz9_1
    try clear hfz9_2
    try clear hfz9_3
    try clear hfz9_4
    try clear hfz9_5
    obtain ⟨kq, x26_2, rfl, HA, HJ2, HO_0, BK250, HK, HB⟩ := hcut
    cases kq with
    | zero => exact absurd HA.out (by simp [leatref21_Note.j0])
    | succ kj2 =>
      have H := HA.out
      clear HA
      simp only [leatref21_Note.j0] at H
      by_cases c11 : x26_2 = true
      · subst c11
        have H1 : (some (l0, 3)) = some (r1, r2) := by rw [if_pos rfl] at H; exact H
        clear H
        have H := H1
        clear H1
        simp only [Option.some.injEq, Prod.mk.injEq] at H
        obtain ⟨rfl, rfl⟩ := H
        go_wp2
        go_ret2
        exact ⟨_, by first | rfl | (simp [errW_none, errW_some] <;> rfl) | (simp [*, errW_none, errW_some] <;> rfl), by (with_reducible repeat (first | apply Kd.R_alloc | apply Kd.R_drewN | apply Kd.R_drew)); exact Kd.R_mono HO_0.out (fun _ hk => hk.1), by repeat (first | (with_reducible first | exact HB.out | apply below_alloc | apply pw_below_drewN | apply below_drew1 | refine below_set ?_ GE250.out) | exact HB.out), by repeat (first | (with_reducible first | exact HK.out | apply Kept.alloc | apply Kept.drewN | apply Kept.drew | refine Kept.setCell ?_ (.inr GW250.out) _) | exact HK.out)⟩
      · replace c11 := Bool.eq_false_iff.mpr c11
        subst c11
        have H1 : (leatref21_Note.l0 kj2 l0 (([] : List (S42))) 0 a1_0 a1_1 a1_2 a1_3 a1_4 a1_5) = some (r1, r2) := by rw [if_neg (show ¬ (false = true) by decide)] at H; exact H
        clear H
        have H := H1
        clear H1
        obtain ⟨y252, hy252⟩ : ∃ y_ : List (S42), y_ = (([] : List (S42))) := ⟨_, rfl⟩
        replace H : (leatref21_Note.l0 kj2 l0 y252 0 a1_0 a1_1 a1_2 a1_3 a1_4 a1_5) = some (r1, r2) := by first | (rw [hy252]; with_reducible exact H) | (have H2_ := (Option.bind_some _ _).symm.trans H; rw [hy252]; with_reducible exact H2_) | (have H2_ := (Option.bind_some _ _).symm.trans H; with_reducible exact H2_) | with_reducible exact H | (rw [hy252]; exact H) | exact H
        have Ny252 := Aside0.mk hy252
        clear hy252
        have H' := Aside0.mk H
        clear H
        go_wp2_with (first | ((with_reducible refine gate_dst (N := 28) rfl ?_); refine Kd.R_lit k42 _ 42 ?hg (N := 28) ?hd (xs := ([] : List (S42))) (inner := []) (ok := fun _ => True) (okp := fun _ => True) ?hr ?hp (fun _ hk => hk) trivial (Below.refl _ _) (Nat.le_refl _) (by simp) ?_; (case hd => rfl); (case hg => rfl); (case hr => first | (go_simp; done) | (go_simp; rfl)); (case hp => exact (Reps.none _ _)); intro v253 w12 ho13 hb hg_ hnew_; clear hg_ hnew_; (first | rw [← Ny252.out] at ho13 | (simp only [Int.reduceToNat] at ho13; rw [← Ny252.out] at ho13)); have n0_ := Aside0.mk (Kd.R_elder' (by (with_reducible repeat (first | apply Kd.R_alloc | apply Kd.R_drewN | apply Kd.R_drew)); exact HO_0.out) (Kd.R_base ho13) hb); have n1_ := Aside0.mk (Kd.R_lower (Kd.R_newB (Kd.R_new' (Kd.R_newM (M := fun k_ => (P0_ k_ ∨ w.heap.size ≤ k_)) ho13 (by first | exact HK.out.1 | exact (show Kept w _ (fun k_ => P0_ k_) from by repeat (first | (with_reducible first | exact HK.out | apply Kept.alloc | apply Kept.drewN | apply Kept.drew | refine Kept.setCell ?_ (.inr GW250.out) _) | exact HK.out)).1) (fun k_ h_ => .inr h_)) (Kd.R_lt (by (with_reducible repeat (first | apply Kd.R_alloc | apply Kd.R_drewN | apply Kd.R_drew)); exact HO_0.out))) (g := gb250) (o := .cells #[.int .i64 a1_0, .int .i16 a1_1, .int .i32 a1_2, .int .i64 a1_3, .int .i64 a1_4, .bool a1_5] 42 (0, 0)) (by (with_reducible repeat (first | refine blk_drewN ?_ _ | refine blk_drew ?_ | refine blk_alloc ?_ _)); exact BK250.out)) (below_size (by repeat (first | (with_reducible first | exact HB.out | apply below_alloc | apply pw_below_drewN | apply below_drew1 | refine below_set ?_ GE250.out) | exact HB.out)))); have n2_ := Aside0.mk (blk_below (g := gb250) (o := .cells #[.int .i64 a1_0, .int .i16 a1_1, .int .i32 a1_2, .int .i64 a1_3, .int .i64 a1_4, .bool a1_5] 42 (0, 0)) (by (with_reducible repeat (first | refine blk_drewN ?_ _ | refine blk_drew ?_ | refine blk_alloc ?_ _)); exact BK250.out) hb); have n3_ := Aside0.mk (Kept.below (S := (fun k_ => P0_ k_)) (by repeat (first | (with_reducible first | exact HK.out | apply Kept.alloc | apply Kept.drewN | apply Kept.drew | refine Kept.setCell ?_ (.inr GW250.out) _) | exact HK.out)) hb); have n4_ := Aside0.mk (below_step (by repeat (first | (with_reducible first | exact HB.out | apply below_alloc | apply pw_below_drewN | apply below_drew1 | refine below_set ?_ GE250.out) | exact HB.out)) hb); clear HO_0; clear BK250; clear HK; clear HB; have HO_0 := n0_; have HO254 := n1_; have BK250 := n2_; have HK := n3_; have HB := n4_; clear n0_ n1_ n2_ n3_ n4_; clear hb ho13))
        go_loopg [6, 7] kj2 (fun kq v6 v7 w' => ∃ (x6_2 : List (S42)) (x7_2 : Int), v7 = .int .i64 x7_2 ∧ Aside0 (leatref21_Note.l0 kq l0 x6_2 x7_2 a1_0 a1_1 a1_2 a1_3 a1_4 a1_5 = some (r1, r2)) ∧ Aside0 (kq ≤ kj2) ∧ Aside0 (Kd.R k42 42 w' w0.heap.size (fun k_ => (P0_ k_ ∨ w.heap.size ≤ k_) ∧ some k_ ≠ (v6 : Value).ownBlock ∧ k_ ≠ gb250) u9000_ l0) ∧ Aside0 (Kd.R k42 42 w' w0.heap.size (fun k_ => (P0_ k_ ∨ w.heap.size ≤ k_) ∧ some k_ ≠ (u9000_ : Value).ownBlock ∧ k_ ≠ gb250) v6 x6_2) ∧ Aside0 (w'.heap[gb250]? = some (.cells #[.int .i64 a1_0, .int .i16 a1_1, .int .i32 a1_2, .int .i64 a1_3, .int .i64 a1_4, .bool a1_5] 42 (0, 0))) ∧ Aside0 (Kept w w' (fun k_ => P0_ k_)) ∧ Aside0 (Below w0.heap.size w0 w'))
        case atStart => exact ⟨(y252), (0), (by first | rfl | (simp; done) | (simp [*]; done)), H', ⟨Nat.le_refl _⟩, ⟨by (with_reducible repeat (first | apply Kd.R_alloc | apply Kd.R_drewN | apply Kd.R_drew)); exact Kd.R_mono HO_0.out (fun _ hk => ⟨hk.1.1, ⟨hk.2, hk.1.2⟩⟩)⟩, ⟨by (with_reducible repeat (first | apply Kd.R_alloc | apply Kd.R_drewN | apply Kd.R_drew)); exact Kd.R_mono HO254.out (fun _ hk => ⟨hk.1.1.1, ⟨hk.1.2, hk.2⟩⟩)⟩, ⟨by (with_reducible repeat (first | refine blk_drewN ?_ _ | refine blk_drew ?_ | refine blk_alloc ?_ _)); exact BK250.out⟩, ⟨by repeat (first | (with_reducible first | exact HK.out | apply Kept.alloc | apply Kept.drewN | apply Kept.drew | refine Kept.setCell ?_ (.inr GW250.out) _) | exact HK.out)⟩, ⟨by repeat (first | (with_reducible first | exact HB.out | apply below_alloc | apply pw_below_drewN | apply below_drew1 | refine below_set ?_ GE250.out) | exact HB.out)⟩⟩
        case round =>
          clear H'
          try clear c1
          try clear c2
          try clear p2
          try clear c6
          try clear c8
          try clear c8b0
          try clear c11
          try clear c12
          try clear hcz10_0
          try clear hcz10_1
          try clear hcz10_2
          try clear hcz10_3
          try clear hcz10_4
          try clear hcz10_5
          try clear hcz7_0
          try clear hcz7_1
          try clear hcz7_2
          try clear hcz7_3
          try clear hcz7_4
          try clear hcz7_5
          try clear hcz9_0
          try clear hcz9_1
          try clear hcz9_2
          try clear hcz9_3
          try clear hcz9_4
          try clear hcz9_5
          try clear hfz10_0
          try clear hfz10_1
          try clear hfz10_2
          try clear hfz10_3
          try clear hfz10_4
          try clear hfz10_5
          try clear hfz7_0
          try clear hfz7_1
          try clear hfz7_2
          try clear hfz7_3
          try clear hfz7_4
          try clear hfz7_5
          try clear hfz9_0
          try clear hfz9_1
          try clear hfz9_2
          try clear hfz9_3
          try clear hfz9_4
          try clear hfz9_5
          try clear p2
          obtain ⟨x6_2, x7_2, rfl, HA, HK2, HO_0, HO_6, BK250, HK, HB⟩ := hrel
          cases gk with
          | zero => exact absurd HA.out (by simp [leatref21_Note.l0])
          | succ k2 =>
            have H := HA.out
            clear HA
            simp only [leatref21_Note.l0] at H
            by_cases c14 : x7_2 < (l0.length : Int)
            · rw [if_pos c14] at H
              have c14b0 : decide (x7_2 < (l0.length : Int)) = true := decide_eq_true c14
              clear c14
              by_cases c15 : 0 ≤ x7_2
              · rw [if_pos c15] at H
                have c15b0 : decide (0 ≤ x7_2) = true := decide_eq_true c15
                clear c15
                by_cases c16 : x6_2.length < 3518437208883
                · rw [if_pos c16] at H
                  have LMc16 := Aside0.mk c16
                  clear c16
                  obtain ⟨y256, hy256⟩ : ∃ y_ : List (S42), y_ = (x6_2 ++ [(⟨(rd_T42 l0 x7_2).f0, (rd_T42 l0 x7_2).f1, (rd_T42 l0 x7_2).f2, (rd_T42 l0 x7_2).f3, (rd_T42 l0 x7_2).f4, (rd_T42 l0 x7_2).f5⟩ : S42)]) := ⟨_, rfl⟩
                  replace H : (leatref21_Note.l0 k2 l0 y256 (wrap64 (x7_2 + 1)) a1_0 a1_1 a1_2 a1_3 a1_4 a1_5) = some (r1, r2) := by first | (rw [hy256]; with_reducible exact H) | (have H2_ := (Option.bind_some _ _).symm.trans H; rw [hy256]; with_reducible exact H2_) | (have H2_ := (Option.bind_some _ _).symm.trans H; with_reducible exact H2_) | with_reducible exact H | (rw [hy256]; exact H) | exact H
                  have Ny256 := Aside0.mk hy256
                  clear hy256
                  have H' := Aside0.mk H
                  clear H
                  obtain ⟨Ao17, co17, eo17⟩ := Kd.R_slice HO_0.out
                  subst eo17
                  have p255 : 0 ≤ (x7_2 : Int) := of_decide_eq_true (by first | (with_reducible assumption) | assumption)
                  have q255 : x7_2 < (l0.length : Int) := of_decide_eq_true (by first | (with_reducible assumption) | assumption)
                  obtain ⟨ad255, e255, hx255_0, hx255_1, hx255_2, hx255_3, hx255_4, hx255_5⟩ := at_T42 (Kd.R_reads' HO_0.out).2.2 x7_2 p255 q255
                  cases e255
                  replace p255 := eq_true p255
                  replace q255 := eq_true q255
                  go_wp2_with (first | ((with_reducible refine gate_builtin (b := .append) (xs := #[.tmp 35, .tmp 40]) rfl ?_); at_builtin; refine Kd.R_append k42 (w0 := w0) w0.heap.size rfl (.tmp 35) (.tmp 40) 34 42 (.agg #[(.int .i64 0), (.int .i16 0), (.int .i32 0), (.int .i64 0), (.int .i64 0), (.bool false)]) 40 rfl Try.underlying34 info42 rfl (by decide) (by omega) u6 x6_2 (⟨(rd_T42 l0 x7_2).f0, (rd_T42 l0 x7_2).f1, (rd_T42 l0 x7_2).f2, (rd_T42 l0 x7_2).f3, (rd_T42 l0 x7_2).f4, (rd_T42 l0 x7_2).f5⟩ : S42) [.int .i64 ((rd_T42 l0 x7_2).f0), .int .i16 ((rd_T42 l0 x7_2).f1), .int .i32 ((rd_T42 l0 x7_2).f2), .int .i64 ((rd_T42 l0 x7_2).f3), .int .i64 ((rd_T42 l0 x7_2).f4), .bool ((rd_T42 l0 x7_2).f5)] (fun k_ => (P0_ k_ ∨ w.heap.size ≤ k_) ∧ some k_ ≠ (.slice (some ad255) l0.length co17 : Value).ownBlock ∧ k_ ≠ gb250) (fun _ => False) rfl rfl ?aP (fun _ hk => hk.elim) ?aF ?aO ?aB ?aS ?aL ?_; (case aP => exact k42_mkM _ _ _ (⟨(rd_T42 l0 x7_2).f0, (rd_T42 l0 x7_2).f1, (rd_T42 l0 x7_2).f2, (rd_T42 l0 x7_2).f3, (rd_T42 l0 x7_2).f4, (rd_T42 l0 x7_2).f5⟩ : S42)); (case aB => exact (by repeat (first | (with_reducible first | exact HB.out | apply below_alloc | apply pw_below_drewN | apply below_drew1 | refine below_set ?_ GE250.out) | exact HB.out))); (case aF => exact (fun k_ hk => ⟨(.inr (Nat.le_trans (by first | exact HK.out.1 | exact (show Kept w _ (fun k_ => P0_ k_) from by repeat (first | (with_reducible first | exact HK.out | apply Kept.alloc | apply Kept.drewN | apply Kept.drew | refine Kept.setCell ?_ (.inr GW250.out) _) | exact HK.out)).1) hk)), Kd.fresh' (Kd.R_lt (by (with_reducible repeat (first | apply Kd.R_alloc | apply Kd.R_drewN | apply Kd.R_drew)); exact HO_0.out)) k_ hk, Kd.freshB (g := gb250) (o := .cells #[.int .i64 a1_0, .int .i16 a1_1, .int .i32 a1_2, .int .i64 a1_3, .int .i64 a1_4, .bool a1_5] 42 (0, 0)) (by (with_reducible repeat (first | refine blk_drewN ?_ _ | refine blk_drew ?_ | refine blk_alloc ?_ _)); exact BK250.out) k_ hk⟩)); (case aO => exact (by (with_reducible repeat (first | apply Kd.R_alloc | apply Kd.R_drewN | apply Kd.R_drew)); exact HO_6.out)); (case aS => exact (below_size (by repeat (first | (with_reducible first | exact HB.out | apply below_alloc | apply pw_below_drewN | apply below_drew1 | refine below_set ?_ GE250.out) | exact HB.out)))); (case aL => have := LMc16.out; omega); intro v257 w18 ho hb hg hat; rw [← Ny256.out] at ho; have n0_ := Aside0.mk (Kd.R_after (ok := (fun k_ => (P0_ k_ ∨ w.heap.size ≤ k_) ∧ k_ ≠ gb250)) (by (with_reducible repeat (first | apply Kd.R_alloc | apply Kd.R_drewN | apply Kd.R_drew)); exact Kd.R_mono HO_0.out (fun _ hk => ⟨⟨hk.1, hk.2.2⟩, hk.2.1⟩)) hg hat); have n1_ := Aside0.mk (blk_grown (g := gb250) (o := .cells #[.int .i64 a1_0, .int .i16 a1_1, .int .i32 a1_2, .int .i64 a1_3, .int .i64 a1_4, .bool a1_5] 42 (0, 0)) (by (with_reducible repeat (first | refine blk_drewN ?_ _ | refine blk_drew ?_ | refine blk_alloc ?_ _)); exact BK250.out) hg (Kd.R_away HO_6.out (fun _ hk => hk.2.2))); have n2_ := Aside0.mk (hb); have n3_ := Aside0.mk (Kept.of_grown (S := (fun k_ => P0_ k_)) hg (by repeat (first | (with_reducible first | exact HK.out | apply Kept.alloc | apply Kept.drewN | apply Kept.drew | refine Kept.setCell ?_ (.inr GW250.out) _) | exact HK.out)) (fun k_ e_ => (HO_6.out.1 k_ e_).1)); have n4_ := Aside0.mk (ho); clear HO_0; clear BK250; clear HB; clear HK; clear HO_6; have HO_0 := n0_; have BK250 := n1_; have HB := n2_; have HK := n3_; have HO258 := n4_; clear n0_ n1_ n2_ n3_ n4_; clear ho hb hg hat))
                  go_roundg k2
                  case measure => have := HJ2.out; have := HK2.out; omega
                  case rel => exact ⟨(y256), (wrap64 (x7_2 + 1)), (by first | rfl | (simp; done) | (simp [*]; done)), H', ⟨by have := HJ2.out; have := HK2.out; omega⟩, ⟨by (with_reducible repeat (first | apply Kd.R_alloc | apply Kd.R_drewN | apply Kd.R_drew)); exact Kd.R_mono HO_0.out (fun _ hk => ⟨hk.1.1, ⟨hk.2, hk.1.2⟩⟩)⟩, ⟨by (with_reducible repeat (first | apply Kd.R_alloc | apply Kd.R_drewN | apply Kd.R_drew)); exact HO258.out⟩, ⟨by (with_reducible repeat (first | refine blk_drewN ?_ _ | refine blk_drew ?_ | refine blk_alloc ?_ _)); exact BK250.out⟩, ⟨by repeat (first | (with_reducible first | exact HK.out | apply Kept.alloc | apply Kept.drewN | apply Kept.drew | refine Kept.setCell ?_ (.inr GW250.out) _) | exact HK.out)⟩, ⟨by repeat (first | (with_reducible first | exact HB.out | apply below_alloc | apply pw_below_drewN | apply below_drew1 | refine below_set ?_ GE250.out) | exact HB.out)⟩⟩
                · rw [if_neg c16] at H
                  exact absurd H (by simp)
              · rw [if_neg c15] at H
                exact absurd H (by simp)
            · rw [if_neg c14] at H
              have c14b0 : decide (x7_2 < (l0.length : Int)) = false := decide_eq_false c14
              clear c14
              by_cases c19 : a1_0 ≥ 0
              · rw [if_pos c19] at H
                have c19b0 : decide (0 ≤ a1_0) = true := decide_eq_true c19
                clear c19
                by_cases c20 : x6_2.length < 3518437208883
                · rw [if_pos c20] at H
                  have LMc20 := Aside0.mk c20
                  clear c20
                  obtain ⟨y259, hy259⟩ : ∃ y_ : List (S42), y_ = (x6_2 ++ [(⟨a1_0, a1_1, a1_2, a1_3, a1_4, a1_5⟩ : S42)]) := ⟨_, rfl⟩
                  replace H : (some (y259, 0)) = some (r1, r2) := by first | (rw [hy259]; with_reducible exact H) | (have H2_ := (Option.bind_some _ _).symm.trans H; rw [hy259]; with_reducible exact H2_) | (have H2_ := (Option.bind_some _ _).symm.trans H; with_reducible exact H2_) | with_reducible exact H | (rw [hy259]; exact H) | exact H
                  have Ny259 := Aside0.mk hy259
                  clear hy259
                  simp only [Option.some.injEq, Prod.mk.injEq] at H
                  obtain ⟨rfl, rfl⟩ := H
                  obtain ⟨Ao21, co21, eo21⟩ := Kd.R_slice HO_0.out
                  subst eo21
                  have hcz22_0 : wr.cell? ⟨gb250, 0, none⟩ = some (.int .i64 a1_0) := (blk_cell BK250.out 0).trans rfl
                  have hcz22_1 : wr.cell? ⟨gb250, 1, none⟩ = some (.int .i16 a1_1) := (blk_cell BK250.out 1).trans rfl
                  have hcz22_2 : wr.cell? ⟨gb250, 2, none⟩ = some (.int .i32 a1_2) := (blk_cell BK250.out 2).trans rfl
                  have hcz22_3 : wr.cell? ⟨gb250, 3, none⟩ = some (.int .i64 a1_3) := (blk_cell BK250.out 3).trans rfl
                  have hcz22_4 : wr.cell? ⟨gb250, 4, none⟩ = some (.int .i64 a1_4) := (blk_cell BK250.out 4).trans rfl
                  have hcz22_5 : wr.cell? ⟨gb250, 5, none⟩ = some (.bool a1_5) := (blk_cell BK250.out 5).trans rfl
                  have hfz22_0 := blk_frozen BK250.out 0
                  have hfz22_1 := blk_frozen BK250.out 1
                  have hfz22_2 := blk_frozen BK250.out 2
                  have hfz22_3 := blk_frozen BK250.out 3
                  have hfz22_4 := blk_frozen BK250.out 4
                  have hfz22_5 := blk_frozen BK250.out 5
                  go_wp2_with (first | ((with_reducible refine gate_builtin (b := .append) (xs := #[.tmp 45, .tmp 47]) rfl ?_); at_builtin; refine Kd.R_append k42 (w0 := w0) w0.heap.size rfl (.tmp 45) (.tmp 47) 34 42 (.agg #[(.int .i64 0), (.int .i16 0), (.int .i32 0), (.int .i64 0), (.int .i64 0), (.bool false)]) 40 rfl Try.underlying34 info42 rfl (by decide) (by omega) u6 x6_2 (⟨a1_0, a1_1, a1_2, a1_3, a1_4, a1_5⟩ : S42) [.int .i64 a1_0, .int .i16 a1_1, .int .i32 a1_2, .int .i64 a1_3, .int .i64 a1_4, .bool a1_5] (fun k_ => (P0_ k_ ∨ w.heap.size ≤ k_) ∧ some k_ ≠ (.slice Ao21 l0.length co21 : Value).ownBlock ∧ k_ ≠ gb250) (fun _ => False) rfl rfl ?aP (fun _ hk => hk.elim) ?aF ?aO ?aB ?aS ?aL ?_; (case aP => exact k42_mkM _ _ _ (⟨a1_0, a1_1, a1_2, a1_3, a1_4, a1_5⟩ : S42)); (case aB => exact (by repeat (first | (with_reducible first | exact HB.out | apply below_alloc | apply pw_below_drewN | apply below_drew1 | refine below_set ?_ GE250.out) | exact HB.out))); (case aF => exact (fun k_ hk => ⟨(.inr (Nat.le_trans (by first | exact HK.out.1 | exact (show Kept w _ (fun k_ => P0_ k_) from by repeat (first | (with_reducible first | exact HK.out | apply Kept.alloc | apply Kept.drewN | apply Kept.drew | refine Kept.setCell ?_ (.inr GW250.out) _) | exact HK.out)).1) hk)), Kd.fresh' (Kd.R_lt (by (with_reducible repeat (first | apply Kd.R_alloc | apply Kd.R_drewN | apply Kd.R_drew)); exact HO_0.out)) k_ hk, Kd.freshB (g := gb250) (o := .cells #[.int .i64 a1_0, .int .i16 a1_1, .int .i32 a1_2, .int .i64 a1_3, .int .i64 a1_4, .bool a1_5] 42 (0, 0)) (by (with_reducible repeat (first | refine blk_drewN ?_ _ | refine blk_drew ?_ | refine blk_alloc ?_ _)); exact BK250.out) k_ hk⟩)); (case aO => exact (by (with_reducible repeat (first | apply Kd.R_alloc | apply Kd.R_drewN | apply Kd.R_drew)); exact HO_6.out)); (case aS => exact (below_size (by repeat (first | (with_reducible first | exact HB.out | apply below_alloc | apply pw_below_drewN | apply below_drew1 | refine below_set ?_ GE250.out) | exact HB.out)))); (case aL => have := LMc20.out; omega); intro v260 w23 ho hb hg hat; rw [← Ny259.out] at ho; have n0_ := Aside0.mk (Kd.R_after (ok := (fun k_ => (P0_ k_ ∨ w.heap.size ≤ k_) ∧ k_ ≠ gb250)) (by (with_reducible repeat (first | apply Kd.R_alloc | apply Kd.R_drewN | apply Kd.R_drew)); exact Kd.R_mono HO_0.out (fun _ hk => ⟨⟨hk.1, hk.2.2⟩, hk.2.1⟩)) hg hat); have n1_ := Aside0.mk (blk_grown (g := gb250) (o := .cells #[.int .i64 a1_0, .int .i16 a1_1, .int .i32 a1_2, .int .i64 a1_3, .int .i64 a1_4, .bool a1_5] 42 (0, 0)) (by (with_reducible repeat (first | refine blk_drewN ?_ _ | refine blk_drew ?_ | refine blk_alloc ?_ _)); exact BK250.out) hg (Kd.R_away HO_6.out (fun _ hk => hk.2.2))); have n2_ := Aside0.mk (hb); have n3_ := Aside0.mk (Kept.of_grown (S := (fun k_ => P0_ k_)) hg (by repeat (first | (with_reducible first | exact HK.out | apply Kept.alloc | apply Kept.drewN | apply Kept.drew | refine Kept.setCell ?_ (.inr GW250.out) _) | exact HK.out)) (fun k_ e_ => (HO_6.out.1 k_ e_).1)); have n4_ := Aside0.mk (ho); clear HO_0; clear BK250; clear HB; clear HK; clear HO_6; have HO_0 := n0_; have BK250 := n1_; have HB := n2_; have HK := n3_; have HO261 := n4_; clear n0_ n1_ n2_ n3_ n4_; clear ho hb hg hat))
                  go_ret2
                  exact ⟨_, by first | rfl | (simp [errW_none, errW_some] <;> rfl) | (simp [*, errW_none, errW_some] <;> rfl), by (with_reducible repeat (first | apply Kd.R_alloc | apply Kd.R_drewN | apply Kd.R_drew)); exact Kd.R_mono HO261.out (fun _ hk => hk.1), by repeat (first | (with_reducible first | exact HB.out | apply below_alloc | apply pw_below_drewN | apply below_drew1 | refine below_set ?_ GE250.out) | exact HB.out), by repeat (first | (with_reducible first | exact HK.out | apply Kept.alloc | apply Kept.drewN | apply Kept.drew | refine Kept.setCell ?_ (.inr GW250.out) _) | exact HK.out)⟩
                · rw [if_neg c20] at H
                  exact absurd H (by simp)
              · rw [if_neg c19] at H
                have c19b0 : decide (0 ≤ a1_0) = false := decide_eq_false c19
                clear c19
                simp only [Option.some.injEq, Prod.mk.injEq] at H
                obtain ⟨rfl, rfl⟩ := H
                obtain ⟨Ao24, co24, eo24⟩ := Kd.R_slice HO_0.out
                subst eo24
                have hcz25_0 : wr.cell? ⟨gb250, 0, none⟩ = some (.int .i64 a1_0) := (blk_cell BK250.out 0).trans rfl
                have hcz25_1 : wr.cell? ⟨gb250, 1, none⟩ = some (.int .i16 a1_1) := (blk_cell BK250.out 1).trans rfl
                have hcz25_2 : wr.cell? ⟨gb250, 2, none⟩ = some (.int .i32 a1_2) := (blk_cell BK250.out 2).trans rfl
                have hcz25_3 : wr.cell? ⟨gb250, 3, none⟩ = some (.int .i64 a1_3) := (blk_cell BK250.out 3).trans rfl
                have hcz25_4 : wr.cell? ⟨gb250, 4, none⟩ = some (.int .i64 a1_4) := (blk_cell BK250.out 4).trans rfl
                have hcz25_5 : wr.cell? ⟨gb250, 5, none⟩ = some (.bool a1_5) := (blk_cell BK250.out 5).trans rfl
                have hfz25_0 := blk_frozen BK250.out 0
                have hfz25_1 := blk_frozen BK250.out 1
                have hfz25_2 := blk_frozen BK250.out 2
                have hfz25_3 := blk_frozen BK250.out 3
                have hfz25_4 := blk_frozen BK250.out 4
                have hfz25_5 := blk_frozen BK250.out 5
                go_wp2
                go_ret2
                exact ⟨_, by first | rfl | (simp [errW_none, errW_some] <;> rfl) | (simp [*, errW_none, errW_some] <;> rfl), by (with_reducible repeat (first | apply Kd.R_alloc | apply Kd.R_drewN | apply Kd.R_drew)); exact Kd.R_mono HO_6.out (fun _ hk => hk.1), by repeat (first | (with_reducible first | exact HB.out | apply below_alloc | apply pw_below_drewN | apply below_drew1 | refine below_set ?_ GE250.out) | exact HB.out), by repeat (first | (with_reducible first | exact HK.out | apply Kept.alloc | apply Kept.drewN | apply Kept.drew | refine Kept.setCell ?_ (.inr GW250.out) _) | exact HK.out)⟩

-- NOT PRINTED: function 24 (idem_memory_24)

-- NOT PRINTED: function 36 (idem_mark_36)

-- NOT PRINTED: function 30 (idem_mark_30)

-- NOT PRINTED: function 13 (idem_Table_Forget)

end Go.Proofs.Ytnooekflmjebiaa.PIdemPlays
