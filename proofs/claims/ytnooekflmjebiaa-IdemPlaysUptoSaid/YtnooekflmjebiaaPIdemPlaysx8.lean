-- PRINTED BY print.sh 35421559b90ae4d0a3588c463048766b98c2df88dd9212a6774a882060cdf62d: not written by this session
import Derived.Test.YtnooekflmjebiaaPIdemPlaysx0
namespace Go.Proofs.Ytnooekflmjebiaa.PIdemPlays
open Go.RowKit Go.Proofs.YtnooekflmjebiaaW.PrintWords Go.Proofs.YtnooekflmjebiaaW.PrintLast Go.Proofs.YtnooekflmjebiaaW.PrintMore
attribute [local go_sem] max2_int min2_int max_two min_two max_three min_three max_four min_four   -- for this text's walks alone
set_option linter.unusedVariables false
set_option linter.unusedSimpArgs false

-- NOT PRINTED: function 50 (slices_partitionOrdered_int64)

-- NOT PRINTED: function 40 (slices_pdqsortOrdered_int64)

-- NOT PRINTED: function 39 (slices_Sort_int64_int64)

-- NOT PRINTED: function 33 (slices_Sorted_int64)

-- NOT PRINTED: function 16 (idem_Table_All)

-- NOT PRINTED: function 8 (leatlaw21_alive)

/-! ### leatref21_bad: function 22 -/
def leatref21_bad.f (a0 : Int) (a1 : Int) (a2 : Int) (a3 : Int) : Option (Bool) := if a0 = (-1) then (some false) else (if a0 < 0 then (some true) else (if a1 < 0 then (some true) else (if a2 < 0 then (some true) else (if a3 < 1 then (some true) else (some (decide (a3 > 256)))))))
set_option maxHeartbeats 8000000 in
set_option maxRecDepth 100000 in
theorem leatref21_bad.calls (a0 : Int) (a1 : Int) (a2 : Int) (a3 : Int) (r : Bool) (w : World) (h : leatref21_bad.f a0 a1 a2 a3 = some r) :
    Calls Try.prog 22 #[.int .i64 a0, .int .i16 a1, .int .i32 a2, .int .i64 a3] w fun e w' => e = .returned (.bool r) ∧ Drawn0 w w' := by
  have H : (if a0 = (-1) then (some false) else (if a0 < 0 then (some true) else (if a1 < 0 then (some true) else (if a2 < 0 then (some true) else (if a3 < 1 then (some true) else (some (decide (a3 > 256)))))))) = some r := h
  clear h
  by_cases c5 : a0 = (-1)
  · rw [if_pos c5] at H
    have c5b0 : (a0 == (-1)) = true := beq_iff_eq.mpr c5
    have c5b1 : (a0 != (-1)) = false := bne_eq_false_iff_eq.mpr c5
    clear c5
    obtain rfl := Option.some.inj H
    go_enter Try.func22, Try.ntmps22
    go_wp2
    go_ret
    exact ⟨by first | rfl | (simp; done) | (simp [*]; done), by repeat (first | exact Drawn0.refl _ | apply Drawn0.step)⟩
  · rw [if_neg c5] at H
    have c5b0 : (a0 == (-1)) = false := beq_eq_false_iff_ne.mpr c5
    have c5b1 : (a0 != (-1)) = true := bne_iff_ne.mpr c5
    by_cases c6 : a0 < 0
    · rw [if_pos c6] at H
      have c6b0 : decide (a0 < 0) = true := decide_eq_true c6
      clear c6
      obtain rfl := Option.some.inj H
      go_enter Try.func22, Try.ntmps22
      go_wp2
      go_ret
      exact ⟨by first | rfl | (simp; done) | (simp [*]; done), by repeat (first | exact Drawn0.refl _ | apply Drawn0.step)⟩
    · rw [if_neg c6] at H
      have c6b0 : decide (a0 < 0) = false := decide_eq_false c6
      clear c6
      by_cases c7 : a1 < 0
      · rw [if_pos c7] at H
        have c7b0 : decide (a1 < 0) = true := decide_eq_true c7
        clear c7
        obtain rfl := Option.some.inj H
        go_enter Try.func22, Try.ntmps22
        go_wp2
        go_ret
        exact ⟨by first | rfl | (simp; done) | (simp [*]; done), by repeat (first | exact Drawn0.refl _ | apply Drawn0.step)⟩
      · rw [if_neg c7] at H
        have c7b0 : decide (a1 < 0) = false := decide_eq_false c7
        clear c7
        by_cases c8 : a2 < 0
        · rw [if_pos c8] at H
          have c8b0 : decide (a2 < 0) = true := decide_eq_true c8
          clear c8
          obtain rfl := Option.some.inj H
          go_enter Try.func22, Try.ntmps22
          go_wp2
          go_ret
          exact ⟨by first | rfl | (simp; done) | (simp [*]; done), by repeat (first | exact Drawn0.refl _ | apply Drawn0.step)⟩
        · rw [if_neg c8] at H
          have c8b0 : decide (a2 < 0) = false := decide_eq_false c8
          clear c8
          by_cases c9 : a3 < 1
          · rw [if_pos c9] at H
            have c9b0 : decide (a3 < 1) = true := decide_eq_true c9
            clear c9
            obtain rfl := Option.some.inj H
            go_enter Try.func22, Try.ntmps22
            go_wp2
            go_ret
            exact ⟨by first | rfl | (simp; done) | (simp [*]; done), by repeat (first | exact Drawn0.refl _ | apply Drawn0.step)⟩
          · rw [if_neg c9] at H
            have c9b0 : decide (a3 < 1) = false := decide_eq_false c9
            clear c9
            obtain rfl := Option.some.inj H
            go_enter Try.func22, Try.ntmps22
            go_wp2
            go_ret
            exact ⟨by first | rfl | (simp; done) | (simp [*]; done), by repeat (first | exact Drawn0.refl _ | apply Drawn0.step)⟩

/-! ### leatref21_Of: function 23 -/
mutual
def leatref21_Of.l0 : Nat → List (S42) → Int → List (S42) → Int → Option ((List (S42)))
  | 0, _, _, _, _ => none
  | k + 1, x0, x1, x5, x6 => if x6 ≥ 0 then (leatref21_Of.j1 k x0 x1 x5 x6 (decide ((x5.length : Int) < 5))) else (leatref21_Of.j1 k x0 x1 x5 x6 false)
def leatref21_Of.j1 : Nat → List (S42) → Int → List (S42) → Int → Bool → Option ((List (S42)))
  | 0, _, _, _, _, _ => none
  | k + 1, x0, x1, x5, x6, x20 => if x20 = true then (if 0 ≤ x6 then (if x6 < (x0.length : Int) then (if ((rd_T42 x0 x6).f0) = x1 then (leatref21_Of.j2 k x0 x1 x5 x6 (!((rd_T42 x0 x6).f5)) ((rd_T42 x0 x6).f0) ((rd_T42 x0 x6).f1) ((rd_T42 x0 x6).f2) ((rd_T42 x0 x6).f3) ((rd_T42 x0 x6).f4) ((rd_T42 x0 x6).f5)) else (leatref21_Of.j2 k x0 x1 x5 x6 false ((rd_T42 x0 x6).f0) ((rd_T42 x0 x6).f1) ((rd_T42 x0 x6).f2) ((rd_T42 x0 x6).f3) ((rd_T42 x0 x6).f4) ((rd_T42 x0 x6).f5))) else (none)) else (none)) else (leatref21_Of.l1 k x5 (([] : List (S42))) (wrap64 ((x5.length : Int) - 1)))
def leatref21_Of.j2 : Nat → List (S42) → Int → List (S42) → Int → Bool → Int → Int → Int → Int → Int → Bool → Option ((List (S42)))
  | 0, _, _, _, _, _, _, _, _, _, _, _ => none
  | k + 1, x0, x1, x5, x6, x35, x227000, x227001, x227002, x227003, x227004, x227005 => if x35 = true then (if (x5.length : Int) > 0 then (if 0 < (x5.length : Int) then (if ((rd_T42 x5 0).f1) = x227001 then (if x5.length < 3518437208883 then (leatref21_Of.l0 k x0 x1 (x5 ++ [(⟨x227000, x227001, x227002, x227003, x227004, x227005⟩ : S42)]) (wrap64 (x6 - 1))) else (none)) else (leatref21_Of.l0 k x0 x1 x5 (-1))) else (none)) else (if x5.length < 3518437208883 then (leatref21_Of.l0 k x0 x1 (x5 ++ [(⟨x227000, x227001, x227002, x227003, x227004, x227005⟩ : S42)]) (wrap64 (x6 - 1))) else (none))) else (leatref21_Of.l0 k x0 x1 x5 (wrap64 (x6 - 1)))
def leatref21_Of.l1 : Nat → List (S42) → List (S42) → Int → Option ((List (S42)))
  | 0, _, _, _ => none
  | k + 1, x5, x8, x9 => if x9 ≥ 0 then (if 0 ≤ x9 then (if x9 < (x5.length : Int) then (if x8.length < 3518437208883 then (leatref21_Of.l1 k x5 (x8 ++ [(⟨(rd_T42 x5 x9).f0, (rd_T42 x5 x9).f1, (rd_T42 x5 x9).f2, (rd_T42 x5 x9).f3, (rd_T42 x5 x9).f4, (rd_T42 x5 x9).f5⟩ : S42)]) (wrap64 (x9 - 1))) else (none)) else (none)) else (none)) else (some x8)
end
def leatref21_Of.f (k : Nat) (l0 : List (S42)) (a1 : Int) : Option ((List (S42))) := leatref21_Of.l0 k l0 a1 (([] : List (S42))) (wrap64 ((l0.length : Int) - 1))
theorem leatref21_Of.mono_l : ∀ k, (∀ y0 y1 y2 y3, LeO (leatref21_Of.l0 k y0 y1 y2 y3) (leatref21_Of.l0 (k + 1) y0 y1 y2 y3)) ∧ (∀ y0 y1 y2 y3 y4, LeO (leatref21_Of.j1 k y0 y1 y2 y3 y4) (leatref21_Of.j1 (k + 1) y0 y1 y2 y3 y4)) ∧ (∀ y0 y1 y2 y3 y4 y5 y6 y7 y8 y9 y10, LeO (leatref21_Of.j2 k y0 y1 y2 y3 y4 y5 y6 y7 y8 y9 y10) (leatref21_Of.j2 (k + 1) y0 y1 y2 y3 y4 y5 y6 y7 y8 y9 y10)) ∧ (∀ y0 y1 y2, LeO (leatref21_Of.l1 k y0 y1 y2) (leatref21_Of.l1 (k + 1) y0 y1 y2))
  | 0 => ⟨fun _ _ _ _ r h => by simp [leatref21_Of.l0] at h, fun _ _ _ _ _ r h => by simp [leatref21_Of.j1] at h, fun _ _ _ _ _ _ _ _ _ _ _ r h => by simp [leatref21_Of.j2] at h, fun _ _ _ r h => by simp [leatref21_Of.l1] at h⟩
  | k + 1 => by
    obtain ⟨ih0, ih1, ih2, ih3⟩ := leatref21_Of.mono_l k
    refine ⟨?_, ?_, ?_, ?_⟩
    · intro y0 y1 y2 y3
      unfold leatref21_Of.l0
      repeat' first
      | (with_reducible exact ih0 _ _ _ _)
      | (with_reducible exact ih1 _ _ _ _ _)
      | (with_reducible exact ih2 _ _ _ _ _ _ _ _ _ _ _)
      | (with_reducible exact ih3 _ _ _)
      | (with_reducible exact LeO.refl _)
      | (with_reducible exact LeO.none _)
      | (with_reducible refine LeO.ite ?_ ?_)
      | (with_reducible refine LeO.bind ?_ (fun _ => ?_))
      | exact ih0 _ _ _ _
      | exact ih1 _ _ _ _ _
      | exact ih2 _ _ _ _ _ _ _ _ _ _ _
      | exact ih3 _ _ _
      | exact LeO.none _
      | refine LeO.ite ?_ ?_
      | refine LeO.bind ?_ (fun _ => ?_)
    · intro y0 y1 y2 y3 y4
      unfold leatref21_Of.j1
      repeat' first
      | (with_reducible exact ih0 _ _ _ _)
      | (with_reducible exact ih1 _ _ _ _ _)
      | (with_reducible exact ih2 _ _ _ _ _ _ _ _ _ _ _)
      | (with_reducible exact ih3 _ _ _)
      | (with_reducible exact LeO.refl _)
      | (with_reducible exact LeO.none _)
      | (with_reducible refine LeO.ite ?_ ?_)
      | (with_reducible refine LeO.bind ?_ (fun _ => ?_))
      | exact ih0 _ _ _ _
      | exact ih1 _ _ _ _ _
      | exact ih2 _ _ _ _ _ _ _ _ _ _ _
      | exact ih3 _ _ _
      | exact LeO.none _
      | refine LeO.ite ?_ ?_
      | refine LeO.bind ?_ (fun _ => ?_)
    · intro y0 y1 y2 y3 y4 y5 y6 y7 y8 y9 y10
      unfold leatref21_Of.j2
      repeat' first
      | (with_reducible exact ih0 _ _ _ _)
      | (with_reducible exact ih1 _ _ _ _ _)
      | (with_reducible exact ih2 _ _ _ _ _ _ _ _ _ _ _)
      | (with_reducible exact ih3 _ _ _)
      | (with_reducible exact LeO.refl _)
      | (with_reducible exact LeO.none _)
      | (with_reducible refine LeO.ite ?_ ?_)
      | (with_reducible refine LeO.bind ?_ (fun _ => ?_))
      | exact ih0 _ _ _ _
      | exact ih1 _ _ _ _ _
      | exact ih2 _ _ _ _ _ _ _ _ _ _ _
      | exact ih3 _ _ _
      | exact LeO.none _
      | refine LeO.ite ?_ ?_
      | refine LeO.bind ?_ (fun _ => ?_)
    · intro y0 y1 y2
      unfold leatref21_Of.l1
      repeat' first
      | (with_reducible exact ih0 _ _ _ _)
      | (with_reducible exact ih1 _ _ _ _ _)
      | (with_reducible exact ih2 _ _ _ _ _ _ _ _ _ _ _)
      | (with_reducible exact ih3 _ _ _)
      | (with_reducible exact LeO.refl _)
      | (with_reducible exact LeO.none _)
      | (with_reducible refine LeO.ite ?_ ?_)
      | (with_reducible refine LeO.bind ?_ (fun _ => ?_))
      | exact ih0 _ _ _ _
      | exact ih1 _ _ _ _ _
      | exact ih2 _ _ _ _ _ _ _ _ _ _ _
      | exact ih3 _ _ _
      | exact LeO.none _
      | refine LeO.ite ?_ ?_
      | refine LeO.bind ?_ (fun _ => ?_)
theorem leatref21_Of.mono : ∀ a0 a1 k, LeO (leatref21_Of.f k a0 a1) (leatref21_Of.f (k + 1) a0 a1) := by
  intro a0 a1 k
  obtain ⟨ih0, ih1, ih2, ih3⟩ := leatref21_Of.mono_l k
  unfold leatref21_Of.f
  repeat' first
      | (with_reducible exact ih0 _ _ _ _)
      | (with_reducible exact ih1 _ _ _ _ _)
      | (with_reducible exact ih2 _ _ _ _ _ _ _ _ _ _ _)
      | (with_reducible exact ih3 _ _ _)
      | (with_reducible exact LeO.refl _)
      | (with_reducible exact LeO.none _)
      | (with_reducible refine LeO.ite ?_ ?_)
      | (with_reducible refine LeO.bind ?_ (fun _ => ?_))
      | exact ih0 _ _ _ _
      | exact ih1 _ _ _ _ _
      | exact ih2 _ _ _ _ _ _ _ _ _ _ _
      | exact ih3 _ _ _
      | exact LeO.none _
      | refine LeO.ite ?_ ?_
      | refine LeO.bind ?_ (fun _ => ?_)
set_option maxHeartbeats 8000000 in
set_option maxRecDepth 100000 in
theorem leatref21_Of.calls (k : Nat) (A0 : Option Addr) (c0 : Nat) (l0 : List (S42)) (a1 : Int) (r : List (S42)) (w : World) (hr0 : Kd.C k42 w A0 l0.length l0) (hc0 : l0.length ≤ c0) (h : leatref21_Of.f k l0 a1 = some r) :
    Calls Try.prog 23 #[.slice A0 l0.length c0, .int .i64 a1] w fun e w' => ∃ v0_ : Value, e = .returned (v0_) ∧ Kd.R k42 42 w' w.heap.size (fun _ => True) v0_ r ∧ Below w.heap.size w w' := by
  have hu42 := Try.underlying42
  have HR0 := Aside0.mk hr0
  have HC0 := Aside0.mk hc0
  clear hr0 hc0
  have HB := Aside0.mk (Below.refl w.heap.size w)
  have H : (leatref21_Of.l0 k l0 a1 (([] : List (S42))) (wrap64 ((l0.length : Int) - 1))) = some r := h
  clear h
  obtain ⟨y222, hy222⟩ : ∃ y_ : List (S42), y_ = (([] : List (S42))) := ⟨_, rfl⟩
  replace H : (leatref21_Of.l0 k l0 a1 y222 (wrap64 ((l0.length : Int) - 1))) = some r := by first | (rw [hy222]; with_reducible exact H) | (have H2_ := (Option.bind_some _ _).symm.trans H; rw [hy222]; with_reducible exact H2_) | (have H2_ := (Option.bind_some _ _).symm.trans H; with_reducible exact H2_) | with_reducible exact H | (rw [hy222]; exact H) | exact H
  have Ny222 := Aside0.mk hy222
  clear hy222
  have H' := Aside0.mk H
  clear H
  go_enter Try.func23, Try.ntmps23
  go_wp2_with (first | ((with_reducible refine gate_dst (N := 10) rfl ?_); (try (refine gate_guard (by rfl) ?_; dsimp only)); refine Kd.R_lit k42 _ 42 ?hg (N := 10) ?hd (xs := ([] : List (S42))) (inner := []) (ok := fun _ => True) (okp := fun _ => True) ?hr ?hp (fun _ hk => hk) trivial (Below.refl _ _) (Nat.le_refl _) (by simp) ?_; (case hd => rfl); (case hg => rfl); (case hr => first | (go_simp; done) | (go_simp; rfl)); (case hp => exact (Reps.none _ _)); intro v223 w3 ho4 hb hg_ hnew_; clear hg_ hnew_; (first | rw [← Ny222.out] at ho4 | (simp only [Int.reduceToNat] at ho4; rw [← Ny222.out] at ho4)); have n0_ := Aside0.mk (Kd.R_lower ho4 (below_size (by repeat (first | (with_reducible first | exact HB.out | apply below_alloc | apply pw_below_drewN | apply below_drew1) | exact HB.out)))); have n1_ := Aside0.mk (below_step (by repeat (first | (with_reducible first | exact HB.out | apply below_alloc | apply pw_below_drewN | apply below_drew1) | exact HB.out)) hb); clear HB; have HO224 := n0_; have HB := n1_; clear n0_ n1_; clear hb ho4))
  repeat (go_quiet (first | ((with_reducible refine gate_dst (N := 10) rfl ?_); (try (refine gate_guard (by rfl) ?_; dsimp only)); refine Kd.R_lit k42 _ 42 ?hg (N := 10) ?hd (xs := ([] : List (S42))) (inner := []) (ok := fun _ => True) (okp := fun _ => True) ?hr ?hp (fun _ hk => hk) trivial (Below.refl _ _) (Nat.le_refl _) (by simp) ?_; (case hd => rfl); (case hg => rfl); (case hr => first | (go_simp; done) | (go_simp; rfl)); (case hp => exact (Reps.none _ _)); intro v223 w3 ho4 hb hg_ hnew_; clear hg_ hnew_; (first | rw [← Ny222.out] at ho4 | (simp only [Int.reduceToNat] at ho4; rw [← Ny222.out] at ho4)); have n0_ := Aside0.mk (Kd.R_lower ho4 (below_size (by repeat (first | (with_reducible first | exact HB.out | apply below_alloc | apply pw_below_drewN | apply below_drew1) | exact HB.out)))); have n1_ := Aside0.mk (below_step (by repeat (first | (with_reducible first | exact HB.out | apply below_alloc | apply pw_below_drewN | apply below_drew1) | exact HB.out)) hb); clear HB; have HO224 := n0_; have HB := n1_; clear n0_ n1_; clear hb ho4)); try go_wp2_with (first | ((with_reducible refine gate_dst (N := 10) rfl ?_); (try (refine gate_guard (by rfl) ?_; dsimp only)); refine Kd.R_lit k42 _ 42 ?hg (N := 10) ?hd (xs := ([] : List (S42))) (inner := []) (ok := fun _ => True) (okp := fun _ => True) ?hr ?hp (fun _ hk => hk) trivial (Below.refl _ _) (Nat.le_refl _) (by simp) ?_; (case hd => rfl); (case hg => rfl); (case hr => first | (go_simp; done) | (go_simp; rfl)); (case hp => exact (Reps.none _ _)); intro v223 w3 ho4 hb hg_ hnew_; clear hg_ hnew_; (first | rw [← Ny222.out] at ho4 | (simp only [Int.reduceToNat] at ho4; rw [← Ny222.out] at ho4)); have n0_ := Aside0.mk (Kd.R_lower ho4 (below_size (by repeat (first | (with_reducible first | exact HB.out | apply below_alloc | apply pw_below_drewN | apply below_drew1) | exact HB.out)))); have n1_ := Aside0.mk (below_step (by repeat (first | (with_reducible first | exact HB.out | apply below_alloc | apply pw_below_drewN | apply below_drew1) | exact HB.out)) hb); clear HB; have HO224 := n0_; have HB := n1_; clear n0_ n1_; clear hb ho4)))
  go_loopg [5, 6] k (fun kq v5 v6 w' => ∃ (x5_1 : List (S42)) (x6_1 : Int), v6 = .int .i64 x6_1 ∧ Aside0 (leatref21_Of.l0 kq l0 a1 x5_1 x6_1 = some r) ∧ Aside0 (kq ≤ k) ∧ Aside0 (Kd.R k42 42 w' w.heap.size (fun _ => True) v5 x5_1) ∧ Aside0 (Below w.heap.size w w'))
  case atStart => exact ⟨(y222), (wrap64 ((l0.length : Int) - 1)), (by first | rfl | (simp; done) | (simp [*]; done)), H', ⟨Nat.le_refl _⟩, ⟨by (with_reducible repeat (first | apply Kd.R_alloc | apply Kd.R_drewN | apply Kd.R_drew)); exact HO224.out⟩, ⟨by repeat (first | (with_reducible first | exact HB.out | apply below_alloc | apply pw_below_drewN | apply below_drew1) | exact HB.out)⟩⟩
  case round =>
    clear H'
    try clear c2
    try clear p2
    obtain ⟨x5_1, x6_1, rfl, HA, HK1, HO_5, HB⟩ := hrel
    cases gk with
    | zero => exact absurd HA.out (by simp [leatref21_Of.l0])
    | succ k1 =>
      have H := HA.out
      clear HA
      simp only [leatref21_Of.l0] at H
      have HC5 := Aside0.mk H
      clear H
      go_upto_region 3 with (fail)
      repeat (go_quiet (fail); go_upto_region 3 with (fail))
      go_cut [20] (fun v20 wc => ∃ (kq : Nat) (x20_4 : Bool), v20 = .bool x20_4 ∧ Aside0 (leatref21_Of.j1 kq l0 a1 x5_1 x6_1 x20_4 = some r) ∧ Aside0 (kq ≤ k1) ∧ Aside0 (Kd.R k42 42 wc w.heap.size (fun _ => True) u5 x5_1) ∧ Aside0 (Below w.heap.size w wc))
      case first =>
        have H := HC5.out
        clear HC5
        by_cases c6 : x6_1 ≥ 0
        · rw [if_pos c6] at H
          have c6b0 : decide (0 ≤ x6_1) = true := decide_eq_true c6
          clear c6
          (first | rw [c6b0] | (simp only [i64_w, i32_w]; rw [c6b0]) | skip)
          have H' := Aside0.mk H
          clear H
          obtain ⟨Ao7, co7, eo7⟩ := Kd.R_slice HO_5.out
          subst eo7
          go_wp2
          repeat (go_quiet (fail); try go_wp2)
          go_meet
          case rel => exact ⟨_, (decide ((x5_1.length : Int) < 5)), (by first | rfl | (simp; done) | (simp [*]; done)), H', ⟨by have := HK1.out; first | omega | exact Nat.le_refl _⟩, ⟨by (with_reducible repeat (first | apply Kd.R_alloc | apply Kd.R_drewN | apply Kd.R_drew)); exact HO_5.out⟩, ⟨by repeat (first | (with_reducible first | exact HB.out | apply below_alloc | apply pw_below_drewN | apply below_drew1) | exact HB.out)⟩⟩
        · rw [if_neg c6] at H
          have c6b0 : decide (0 ≤ x6_1) = false := decide_eq_false c6
          clear c6
          (first | rw [c6b0] | (simp only [i64_w, i32_w]; rw [c6b0]) | skip)
          have H' := Aside0.mk H
          clear H
          go_wp2
          repeat (go_quiet (fail); try go_wp2)
          go_meet
          case rel => exact ⟨_, (false), (by first | rfl | (simp; done) | (simp [*]; done)), H', ⟨by have := HK1.out; first | omega | exact Nat.le_refl _⟩, ⟨by (with_reducible repeat (first | apply Kd.R_alloc | apply Kd.R_drewN | apply Kd.R_drew)); exact HO_5.out⟩, ⟨by repeat (first | (with_reducible first | exact HB.out | apply below_alloc | apply pw_below_drewN | apply below_drew1) | exact HB.out)⟩⟩
      case rest =>
        clear HC5
        try clear c2
        try clear p2
        try clear c6
        try clear c6b0
        try clear p6
        try clear p2
        obtain ⟨kq, x20_4, rfl, HA, HJ4, HO_5, HB⟩ := hcut
        cases kq with
        | zero => exact absurd HA.out (by simp [leatref21_Of.j1])
        | succ kj4 =>
          have H := HA.out
          clear HA
          simp only [leatref21_Of.j1] at H
          by_cases c8 : x20_4 = true
          · subst c8
            have H1 : (if 0 ≤ x6_1 then (if x6_1 < (l0.length : Int) then (if ((rd_T42 l0 x6_1).f0) = a1 then (leatref21_Of.j2 kj4 l0 a1 x5_1 x6_1 (!((rd_T42 l0 x6_1).f5)) ((rd_T42 l0 x6_1).f0) ((rd_T42 l0 x6_1).f1) ((rd_T42 l0 x6_1).f2) ((rd_T42 l0 x6_1).f3) ((rd_T42 l0 x6_1).f4) ((rd_T42 l0 x6_1).f5)) else (leatref21_Of.j2 kj4 l0 a1 x5_1 x6_1 false ((rd_T42 l0 x6_1).f0) ((rd_T42 l0 x6_1).f1) ((rd_T42 l0 x6_1).f2) ((rd_T42 l0 x6_1).f3) ((rd_T42 l0 x6_1).f4) ((rd_T42 l0 x6_1).f5))) else (none)) else (none)) = some r := by rw [if_pos rfl] at H; exact H
            clear H
            have H := H1
            clear H1
            by_cases c9 : 0 ≤ x6_1
            · rw [if_pos c9] at H
              have c9b0 : decide (0 ≤ x6_1) = true := decide_eq_true c9
              clear c9
              by_cases c10 : x6_1 < (l0.length : Int)
              · rw [if_pos c10] at H
                have c10b0 : decide (x6_1 < (l0.length : Int)) = true := decide_eq_true c10
                clear c10
                have HC11 := Aside0.mk H
                clear H
                have p225 : 0 ≤ (x6_1 : Int) := of_decide_eq_true (by first | (with_reducible assumption) | assumption)
                have q225 : x6_1 < (l0.length : Int) := of_decide_eq_true (by first | (with_reducible assumption) | assumption)
                obtain ⟨ad225, e225, hx225_0, hx225_1, hx225_2, hx225_3, hx225_4, hx225_5⟩ := at_T42 HR0.out x6_1 p225 q225
                cases e225
                replace hx225_0 := (HB.out.cell (World.block_lt_of_cell? w _ hx225_0)).trans hx225_0
                replace hx225_1 := (HB.out.cell (World.block_lt_of_cell? w _ hx225_1)).trans hx225_1
                replace hx225_2 := (HB.out.cell (World.block_lt_of_cell? w _ hx225_2)).trans hx225_2
                replace hx225_3 := (HB.out.cell (World.block_lt_of_cell? w _ hx225_3)).trans hx225_3
                replace hx225_4 := (HB.out.cell (World.block_lt_of_cell? w _ hx225_4)).trans hx225_4
                replace hx225_5 := (HB.out.cell (World.block_lt_of_cell? w _ hx225_5)).trans hx225_5
                replace p225 := eq_true p225
                replace q225 := eq_true q225
                go_upto_region 6 with (first | ((with_reducible refine gate_dst (N := 7) rfl ?_); (try (refine gate_guard (by rfl) ?_; dsimp only)); refine box_event ?hg (N := 7) ?hd (cs := #[.int .i64 0, .int .i16 0, .int .i32 0, .int .i64 0, .int .i64 0, .bool false]) (t := 42) ?hr ?_; (case hd => rfl); (case hg => rfl); (case hr => first | (go_simp; done) | (go_simp; rfl)); intro gb226 hg w12 hbox hb; have n0_ := Aside0.mk (Kd.R_below (Kd.R_elderB (by (with_reducible repeat (first | apply Kd.R_alloc | apply Kd.R_drewN | apply Kd.R_drew)); exact HO_5.out) gb226 (Nat.le_of_eq hg.symm)) hb); have n1_ := Aside0.mk (below_step (by repeat (first | (with_reducible first | exact HB.out | apply below_alloc | apply pw_below_drewN | apply below_drew1) | exact HB.out)) hb); have n2_ := Aside0.mk (hbox); have n3_ := Aside0.mk ((by rw [hg]; exact (below_size (by repeat (first | (with_reducible first | exact HB.out | apply below_alloc | apply pw_below_drewN | apply below_drew1) | exact HB.out))) : w.heap.size ≤ gb226)); have n4_ := Aside0.mk ((by rw [hg]; exact (below_size (by repeat (first | (with_reducible first | exact HB.out | apply below_alloc | apply pw_below_drewN | apply below_drew1) | exact HB.out))) : w.heap.size ≤ gb226)); clear HO_5; clear HB; have HO_5 := n0_; have HB := n1_; have BK226 := n2_; have GW226 := n3_; have GE226 := n4_; clear n0_ n1_ n2_ n3_ n4_; clear hb hbox hg; have hcz13_0 : w12.cell? ⟨gb226, 0, none⟩ = some (.int .i64 0) := (blk_cell BK226.out 0).trans rfl; have hcz13_1 : w12.cell? ⟨gb226, 1, none⟩ = some (.int .i16 0) := (blk_cell BK226.out 1).trans rfl; have hcz13_2 : w12.cell? ⟨gb226, 2, none⟩ = some (.int .i32 0) := (blk_cell BK226.out 2).trans rfl; have hcz13_3 : w12.cell? ⟨gb226, 3, none⟩ = some (.int .i64 0) := (blk_cell BK226.out 3).trans rfl; have hcz13_4 : w12.cell? ⟨gb226, 4, none⟩ = some (.int .i64 0) := (blk_cell BK226.out 4).trans rfl; have hcz13_5 : w12.cell? ⟨gb226, 5, none⟩ = some (.bool false) := (blk_cell BK226.out 5).trans rfl; have hfz13_0 := blk_frozen BK226.out 0; have hfz13_1 := blk_frozen BK226.out 1; have hfz13_2 := blk_frozen BK226.out 2; have hfz13_3 := blk_frozen BK226.out 3; have hfz13_4 := blk_frozen BK226.out 4; have hfz13_5 := blk_frozen BK226.out 5))
                repeat (go_quiet (first | ((with_reducible refine gate_dst (N := 7) rfl ?_); (try (refine gate_guard (by rfl) ?_; dsimp only)); refine box_event ?hg (N := 7) ?hd (cs := #[.int .i64 0, .int .i16 0, .int .i32 0, .int .i64 0, .int .i64 0, .bool false]) (t := 42) ?hr ?_; (case hd => rfl); (case hg => rfl); (case hr => first | (go_simp; done) | (go_simp; rfl)); intro gb226 hg w12 hbox hb; have n0_ := Aside0.mk (Kd.R_below (Kd.R_elderB (by (with_reducible repeat (first | apply Kd.R_alloc | apply Kd.R_drewN | apply Kd.R_drew)); exact HO_5.out) gb226 (Nat.le_of_eq hg.symm)) hb); have n1_ := Aside0.mk (below_step (by repeat (first | (with_reducible first | exact HB.out | apply below_alloc | apply pw_below_drewN | apply below_drew1) | exact HB.out)) hb); have n2_ := Aside0.mk (hbox); have n3_ := Aside0.mk ((by rw [hg]; exact (below_size (by repeat (first | (with_reducible first | exact HB.out | apply below_alloc | apply pw_below_drewN | apply below_drew1) | exact HB.out))) : w.heap.size ≤ gb226)); have n4_ := Aside0.mk ((by rw [hg]; exact (below_size (by repeat (first | (with_reducible first | exact HB.out | apply below_alloc | apply pw_below_drewN | apply below_drew1) | exact HB.out))) : w.heap.size ≤ gb226)); clear HO_5; clear HB; have HO_5 := n0_; have HB := n1_; have BK226 := n2_; have GW226 := n3_; have GE226 := n4_; clear n0_ n1_ n2_ n3_ n4_; clear hb hbox hg; have hcz13_0 : w12.cell? ⟨gb226, 0, none⟩ = some (.int .i64 0) := (blk_cell BK226.out 0).trans rfl; have hcz13_1 : w12.cell? ⟨gb226, 1, none⟩ = some (.int .i16 0) := (blk_cell BK226.out 1).trans rfl; have hcz13_2 : w12.cell? ⟨gb226, 2, none⟩ = some (.int .i32 0) := (blk_cell BK226.out 2).trans rfl; have hcz13_3 : w12.cell? ⟨gb226, 3, none⟩ = some (.int .i64 0) := (blk_cell BK226.out 3).trans rfl; have hcz13_4 : w12.cell? ⟨gb226, 4, none⟩ = some (.int .i64 0) := (blk_cell BK226.out 4).trans rfl; have hcz13_5 : w12.cell? ⟨gb226, 5, none⟩ = some (.bool false) := (blk_cell BK226.out 5).trans rfl; have hfz13_0 := blk_frozen BK226.out 0; have hfz13_1 := blk_frozen BK226.out 1; have hfz13_2 := blk_frozen BK226.out 2; have hfz13_3 := blk_frozen BK226.out 3; have hfz13_4 := blk_frozen BK226.out 4; have hfz13_5 := blk_frozen BK226.out 5)); go_upto_region 6 with (first | ((with_reducible refine gate_dst (N := 7) rfl ?_); (try (refine gate_guard (by rfl) ?_; dsimp only)); refine box_event ?hg (N := 7) ?hd (cs := #[.int .i64 0, .int .i16 0, .int .i32 0, .int .i64 0, .int .i64 0, .bool false]) (t := 42) ?hr ?_; (case hd => rfl); (case hg => rfl); (case hr => first | (go_simp; done) | (go_simp; rfl)); intro gb226 hg w12 hbox hb; have n0_ := Aside0.mk (Kd.R_below (Kd.R_elderB (by (with_reducible repeat (first | apply Kd.R_alloc | apply Kd.R_drewN | apply Kd.R_drew)); exact HO_5.out) gb226 (Nat.le_of_eq hg.symm)) hb); have n1_ := Aside0.mk (below_step (by repeat (first | (with_reducible first | exact HB.out | apply below_alloc | apply pw_below_drewN | apply below_drew1) | exact HB.out)) hb); have n2_ := Aside0.mk (hbox); have n3_ := Aside0.mk ((by rw [hg]; exact (below_size (by repeat (first | (with_reducible first | exact HB.out | apply below_alloc | apply pw_below_drewN | apply below_drew1) | exact HB.out))) : w.heap.size ≤ gb226)); have n4_ := Aside0.mk ((by rw [hg]; exact (below_size (by repeat (first | (with_reducible first | exact HB.out | apply below_alloc | apply pw_below_drewN | apply below_drew1) | exact HB.out))) : w.heap.size ≤ gb226)); clear HO_5; clear HB; have HO_5 := n0_; have HB := n1_; have BK226 := n2_; have GW226 := n3_; have GE226 := n4_; clear n0_ n1_ n2_ n3_ n4_; clear hb hbox hg; have hcz13_0 : w12.cell? ⟨gb226, 0, none⟩ = some (.int .i64 0) := (blk_cell BK226.out 0).trans rfl; have hcz13_1 : w12.cell? ⟨gb226, 1, none⟩ = some (.int .i16 0) := (blk_cell BK226.out 1).trans rfl; have hcz13_2 : w12.cell? ⟨gb226, 2, none⟩ = some (.int .i32 0) := (blk_cell BK226.out 2).trans rfl; have hcz13_3 : w12.cell? ⟨gb226, 3, none⟩ = some (.int .i64 0) := (blk_cell BK226.out 3).trans rfl; have hcz13_4 : w12.cell? ⟨gb226, 4, none⟩ = some (.int .i64 0) := (blk_cell BK226.out 4).trans rfl; have hcz13_5 : w12.cell? ⟨gb226, 5, none⟩ = some (.bool false) := (blk_cell BK226.out 5).trans rfl; have hfz13_0 := blk_frozen BK226.out 0; have hfz13_1 := blk_frozen BK226.out 1; have hfz13_2 := blk_frozen BK226.out 2; have hfz13_3 := blk_frozen BK226.out 3; have hfz13_4 := blk_frozen BK226.out 4; have hfz13_5 := blk_frozen BK226.out 5)))
                (try simp only [Act.put, List.setIfInBounds_toArray, List.set_cons_zero, List.set_cons_succ])
                go_cut [35] (fun v35 wc => ∃ (kq : Nat) (x35_10 : Bool), v35 = .bool x35_10 ∧ Aside0 (leatref21_Of.j2 kq l0 a1 x5_1 x6_1 x35_10 ((rd_T42 l0 x6_1).f0) ((rd_T42 l0 x6_1).f1) ((rd_T42 l0 x6_1).f2) ((rd_T42 l0 x6_1).f3) ((rd_T42 l0 x6_1).f4) ((rd_T42 l0 x6_1).f5) = some r) ∧ Aside0 (kq ≤ kj4) ∧ Aside0 (Kd.R k42 42 wc w.heap.size (fun k_ => k_ ≠ gb226) u5 x5_1) ∧ Aside0 (wc.heap[gb226]? = some (.cells #[.int .i64 ((rd_T42 l0 x6_1).f0), .int .i16 ((rd_T42 l0 x6_1).f1), .int .i32 ((rd_T42 l0 x6_1).f2), .int .i64 ((rd_T42 l0 x6_1).f3), .int .i64 ((rd_T42 l0 x6_1).f4), .bool ((rd_T42 l0 x6_1).f5)] 42 (0, 0))) ∧ Aside0 (Below w.heap.size w wc))
                case first =>
                  have H := HC11.out
                  clear HC11
                  by_cases c14 : ((rd_T42 l0 x6_1).f0) = a1
                  · rw [if_pos c14] at H
                    have c14b0 : (((rd_T42 l0 x6_1).f0) == a1) = true := beq_iff_eq.mpr c14
                    have c14b1 : (((rd_T42 l0 x6_1).f0) != a1) = false := bne_eq_false_iff_eq.mpr c14
                    clear c14
                    (first | rw [c14b0] | (simp only [i64_w, i32_w]; rw [c14b0]) | skip)
                    have H' := Aside0.mk H
                    clear H
                    have hcz15_0 : w12.cell? ⟨gb226, 0, none⟩ = some (.int .i64 0) := (blk_cell BK226.out 0).trans rfl
                    have hcz15_1 : w12.cell? ⟨gb226, 1, none⟩ = some (.int .i16 0) := (blk_cell BK226.out 1).trans rfl
                    have hcz15_2 : w12.cell? ⟨gb226, 2, none⟩ = some (.int .i32 0) := (blk_cell BK226.out 2).trans rfl
                    have hcz15_3 : w12.cell? ⟨gb226, 3, none⟩ = some (.int .i64 0) := (blk_cell BK226.out 3).trans rfl
                    have hcz15_4 : w12.cell? ⟨gb226, 4, none⟩ = some (.int .i64 0) := (blk_cell BK226.out 4).trans rfl
                    have hcz15_5 : w12.cell? ⟨gb226, 5, none⟩ = some (.bool false) := (blk_cell BK226.out 5).trans rfl
                    have hfz15_0 := blk_frozen BK226.out 0
                    have hfz15_1 := blk_frozen BK226.out 1
                    have hfz15_2 := blk_frozen BK226.out 2
                    have hfz15_3 := blk_frozen BK226.out 3
                    have hfz15_4 := blk_frozen BK226.out 4
                    have hfz15_5 := blk_frozen BK226.out 5
                    go_wp2
                    repeat (go_quiet (fail); try go_wp2)
                    go_meet
                    case rel => exact ⟨_, (!((rd_T42 l0 x6_1).f5)), (by first | rfl | (simp; done) | (simp [*]; done)), H', ⟨by have := HK1.out; have := HJ4.out; first | omega | exact Nat.le_refl _⟩, ⟨by (with_reducible repeat (first | apply Kd.R_alloc | apply Kd.R_drewN | apply Kd.R_drew)); exact Kd.R_mono (Kd.R_far (p := ⟨gb226, 5, none⟩) (Kd.R_far (p := ⟨gb226, 4, none⟩) (Kd.R_far (p := ⟨gb226, 3, none⟩) (Kd.R_far (p := ⟨gb226, 2, none⟩) (Kd.R_far (p := ⟨gb226, 1, none⟩) (Kd.R_far (p := ⟨gb226, 0, none⟩) (Kd.R_mono HO_5.out (fun k_ hk => (⟨hk, hk.2⟩ : _ ∧ k_ ≠ gb226))) (fun _ hk => hk.2) (.int .i64 ((rd_T42 l0 x6_1).f0))) (fun _ hk => hk.2) (.int .i16 ((rd_T42 l0 x6_1).f1))) (fun _ hk => hk.2) (.int .i32 ((rd_T42 l0 x6_1).f2))) (fun _ hk => hk.2) (.int .i64 ((rd_T42 l0 x6_1).f3))) (fun _ hk => hk.2) (.int .i64 ((rd_T42 l0 x6_1).f4))) (fun _ hk => hk.2) (.bool ((rd_T42 l0 x6_1).f5))) (fun _ hk => hk.1.2)⟩, ⟨by (with_reducible repeat (first | refine blk_drewN ?_ _ | refine blk_drew ?_ | refine blk_alloc ?_ _)); refine blk_put (cs := #[.int .i64 ((rd_T42 l0 x6_1).f0), .int .i16 ((rd_T42 l0 x6_1).f1), .int .i32 ((rd_T42 l0 x6_1).f2), .int .i64 ((rd_T42 l0 x6_1).f3), .int .i64 ((rd_T42 l0 x6_1).f4), .bool false]) ?_ 5 _ rfl; (with_reducible repeat (first | refine blk_drewN ?_ _ | refine blk_drew ?_ | refine blk_alloc ?_ _)); refine blk_put (cs := #[.int .i64 ((rd_T42 l0 x6_1).f0), .int .i16 ((rd_T42 l0 x6_1).f1), .int .i32 ((rd_T42 l0 x6_1).f2), .int .i64 ((rd_T42 l0 x6_1).f3), .int .i64 0, .bool false]) ?_ 4 _ rfl; (with_reducible repeat (first | refine blk_drewN ?_ _ | refine blk_drew ?_ | refine blk_alloc ?_ _)); refine blk_put (cs := #[.int .i64 ((rd_T42 l0 x6_1).f0), .int .i16 ((rd_T42 l0 x6_1).f1), .int .i32 ((rd_T42 l0 x6_1).f2), .int .i64 0, .int .i64 0, .bool false]) ?_ 3 _ rfl; (with_reducible repeat (first | refine blk_drewN ?_ _ | refine blk_drew ?_ | refine blk_alloc ?_ _)); refine blk_put (cs := #[.int .i64 ((rd_T42 l0 x6_1).f0), .int .i16 ((rd_T42 l0 x6_1).f1), .int .i32 0, .int .i64 0, .int .i64 0, .bool false]) ?_ 2 _ rfl; (with_reducible repeat (first | refine blk_drewN ?_ _ | refine blk_drew ?_ | refine blk_alloc ?_ _)); refine blk_put (cs := #[.int .i64 ((rd_T42 l0 x6_1).f0), .int .i16 0, .int .i32 0, .int .i64 0, .int .i64 0, .bool false]) ?_ 1 _ rfl; (with_reducible repeat (first | refine blk_drewN ?_ _ | refine blk_drew ?_ | refine blk_alloc ?_ _)); refine blk_put (cs := #[.int .i64 0, .int .i16 0, .int .i32 0, .int .i64 0, .int .i64 0, .bool false]) ?_ 0 _ rfl; (with_reducible repeat (first | refine blk_drewN ?_ _ | refine blk_drew ?_ | refine blk_alloc ?_ _)); exact BK226.out⟩, ⟨by repeat (first | (with_reducible first | exact HB.out | apply below_alloc | apply pw_below_drewN | apply below_drew1 | refine below_set ?_ GE226.out) | exact HB.out)⟩⟩
                  · rw [if_neg c14] at H
                    have c14b0 : (((rd_T42 l0 x6_1).f0) == a1) = false := beq_eq_false_iff_ne.mpr c14
                    have c14b1 : (((rd_T42 l0 x6_1).f0) != a1) = true := bne_iff_ne.mpr c14
                    (first | rw [c14b0] | (simp only [i64_w, i32_w]; rw [c14b0]) | skip)
                    have H' := Aside0.mk H
                    clear H
                    have hcz16_0 : w12.cell? ⟨gb226, 0, none⟩ = some (.int .i64 0) := (blk_cell BK226.out 0).trans rfl
                    have hcz16_1 : w12.cell? ⟨gb226, 1, none⟩ = some (.int .i16 0) := (blk_cell BK226.out 1).trans rfl
                    have hcz16_2 : w12.cell? ⟨gb226, 2, none⟩ = some (.int .i32 0) := (blk_cell BK226.out 2).trans rfl
                    have hcz16_3 : w12.cell? ⟨gb226, 3, none⟩ = some (.int .i64 0) := (blk_cell BK226.out 3).trans rfl
                    have hcz16_4 : w12.cell? ⟨gb226, 4, none⟩ = some (.int .i64 0) := (blk_cell BK226.out 4).trans rfl
                    have hcz16_5 : w12.cell? ⟨gb226, 5, none⟩ = some (.bool false) := (blk_cell BK226.out 5).trans rfl
                    have hfz16_0 := blk_frozen BK226.out 0
                    have hfz16_1 := blk_frozen BK226.out 1
                    have hfz16_2 := blk_frozen BK226.out 2
                    have hfz16_3 := blk_frozen BK226.out 3
                    have hfz16_4 := blk_frozen BK226.out 4
                    have hfz16_5 := blk_frozen BK226.out 5
                    go_wp2
                    repeat (go_quiet (fail); try go_wp2)
                    go_meet
                    case rel => exact ⟨_, (false), (by first | rfl | (simp; done) | (simp [*]; done)), H', ⟨by have := HK1.out; have := HJ4.out; first | omega | exact Nat.le_refl _⟩, ⟨by (with_reducible repeat (first | apply Kd.R_alloc | apply Kd.R_drewN | apply Kd.R_drew)); exact Kd.R_mono (Kd.R_far (p := ⟨gb226, 5, none⟩) (Kd.R_far (p := ⟨gb226, 4, none⟩) (Kd.R_far (p := ⟨gb226, 3, none⟩) (Kd.R_far (p := ⟨gb226, 2, none⟩) (Kd.R_far (p := ⟨gb226, 1, none⟩) (Kd.R_far (p := ⟨gb226, 0, none⟩) (Kd.R_mono HO_5.out (fun k_ hk => (⟨hk, hk.2⟩ : _ ∧ k_ ≠ gb226))) (fun _ hk => hk.2) (.int .i64 ((rd_T42 l0 x6_1).f0))) (fun _ hk => hk.2) (.int .i16 ((rd_T42 l0 x6_1).f1))) (fun _ hk => hk.2) (.int .i32 ((rd_T42 l0 x6_1).f2))) (fun _ hk => hk.2) (.int .i64 ((rd_T42 l0 x6_1).f3))) (fun _ hk => hk.2) (.int .i64 ((rd_T42 l0 x6_1).f4))) (fun _ hk => hk.2) (.bool ((rd_T42 l0 x6_1).f5))) (fun _ hk => hk.1.2)⟩, ⟨by (with_reducible repeat (first | refine blk_drewN ?_ _ | refine blk_drew ?_ | refine blk_alloc ?_ _)); refine blk_put (cs := #[.int .i64 ((rd_T42 l0 x6_1).f0), .int .i16 ((rd_T42 l0 x6_1).f1), .int .i32 ((rd_T42 l0 x6_1).f2), .int .i64 ((rd_T42 l0 x6_1).f3), .int .i64 ((rd_T42 l0 x6_1).f4), .bool false]) ?_ 5 _ rfl; (with_reducible repeat (first | refine blk_drewN ?_ _ | refine blk_drew ?_ | refine blk_alloc ?_ _)); refine blk_put (cs := #[.int .i64 ((rd_T42 l0 x6_1).f0), .int .i16 ((rd_T42 l0 x6_1).f1), .int .i32 ((rd_T42 l0 x6_1).f2), .int .i64 ((rd_T42 l0 x6_1).f3), .int .i64 0, .bool false]) ?_ 4 _ rfl; (with_reducible repeat (first | refine blk_drewN ?_ _ | refine blk_drew ?_ | refine blk_alloc ?_ _)); refine blk_put (cs := #[.int .i64 ((rd_T42 l0 x6_1).f0), .int .i16 ((rd_T42 l0 x6_1).f1), .int .i32 ((rd_T42 l0 x6_1).f2), .int .i64 0, .int .i64 0, .bool false]) ?_ 3 _ rfl; (with_reducible repeat (first | refine blk_drewN ?_ _ | refine blk_drew ?_ | refine blk_alloc ?_ _)); refine blk_put (cs := #[.int .i64 ((rd_T42 l0 x6_1).f0), .int .i16 ((rd_T42 l0 x6_1).f1), .int .i32 0, .int .i64 0, .int .i64 0, .bool false]) ?_ 2 _ rfl; (with_reducible repeat (first | refine blk_drewN ?_ _ | refine blk_drew ?_ | refine blk_alloc ?_ _)); refine blk_put (cs := #[.int .i64 ((rd_T42 l0 x6_1).f0), .int .i16 0, .int .i32 0, .int .i64 0, .int .i64 0, .bool false]) ?_ 1 _ rfl; (with_reducible repeat (first | refine blk_drewN ?_ _ | refine blk_drew ?_ | refine blk_alloc ?_ _)); refine blk_put (cs := #[.int .i64 0, .int .i16 0, .int .i32 0, .int .i64 0, .int .i64 0, .bool false]) ?_ 0 _ rfl; (with_reducible repeat (first | refine blk_drewN ?_ _ | refine blk_drew ?_ | refine blk_alloc ?_ _)); exact BK226.out⟩, ⟨by repeat (first | (with_reducible first | exact HB.out | apply below_alloc | apply pw_below_drewN | apply below_drew1 | refine below_set ?_ GE226.out) | exact HB.out)⟩⟩
                case rest =>
                  clear HC11
                  try clear c1
                  try clear c2
                  try clear p2
                  try clear q2
                  try clear hx2
                  try clear c6
                  try clear c6b0
                  try clear p6
                  try clear c8
                  try clear c9
                  try clear c9b0
                  try clear c10
                  try clear c10b0
                  try clear c14
                  try clear c14b0
                  try clear c14b1
                  try clear hcz13_0
                  try clear hcz13_1
                  try clear hcz13_2
                  try clear hcz13_3
                  try clear hcz13_4
                  try clear hcz13_5
                  try clear hcz15_0
                  try clear hcz15_1
                  try clear hcz15_2
                  try clear hcz15_3
                  try clear hcz15_4
                  try clear hcz15_5
                  try clear hcz16_0
                  try clear hcz16_1
                  try clear hcz16_2
                  try clear hcz16_3
                  try clear hcz16_4
                  try clear hcz16_5
                  try clear hfz13_0
                  try clear hfz13_1
                  try clear hfz13_2
                  try clear hfz13_3
                  try clear hfz13_4
                  try clear hfz13_5
                  try clear hfz15_0
                  try clear hfz15_1
                  try clear hfz15_2
                  try clear hfz15_3
                  try clear hfz15_4
                  try clear hfz15_5
                  try clear hfz16_0
                  try clear hfz16_1
                  try clear hfz16_2
                  try clear hfz16_3
                  try clear hfz16_4
                  try clear hfz16_5
                  try clear hx225_0
                  try clear hx225_1
                  try clear hx225_2
                  try clear hx225_3
                  try clear hx225_4
                  try clear hx225_5
                  try clear p2
                  try clear p225
                  try clear p6
                  try clear q225
                  obtain ⟨kq, x35_10, rfl, HA, HJ10, HO_5, BK226, HB⟩ := hcut
                  cases kq with
                  | zero => exact absurd HA.out (by simp [leatref21_Of.j2])
                  | succ kj10 =>
                    have H := HA.out
                    clear HA
                    simp only [leatref21_Of.j2] at H
                    by_cases c17 : x35_10 = true
                    · subst c17
                      have H1 : (if (x5_1.length : Int) > 0 then (if 0 < (x5_1.length : Int) then (if ((rd_T42 x5_1 0).f1) = ((rd_T42 l0 x6_1).f1) then (if x5_1.length < 3518437208883 then (leatref21_Of.l0 kj10 l0 a1 (x5_1 ++ [(⟨((rd_T42 l0 x6_1).f0), ((rd_T42 l0 x6_1).f1), ((rd_T42 l0 x6_1).f2), ((rd_T42 l0 x6_1).f3), ((rd_T42 l0 x6_1).f4), ((rd_T42 l0 x6_1).f5)⟩ : S42)]) (wrap64 (x6_1 - 1))) else (none)) else (leatref21_Of.l0 kj10 l0 a1 x5_1 (-1))) else (none)) else (if x5_1.length < 3518437208883 then (leatref21_Of.l0 kj10 l0 a1 (x5_1 ++ [(⟨((rd_T42 l0 x6_1).f0), ((rd_T42 l0 x6_1).f1), ((rd_T42 l0 x6_1).f2), ((rd_T42 l0 x6_1).f3), ((rd_T42 l0 x6_1).f4), ((rd_T42 l0 x6_1).f5)⟩ : S42)]) (wrap64 (x6_1 - 1))) else (none))) = some r := by rw [if_pos rfl] at H; exact H
                      clear H
                      have H := H1
                      clear H1
                      by_cases c18 : (x5_1.length : Int) > 0
                      · rw [if_pos c18] at H
                        have c18b0 : decide (0 < (x5_1.length : Int)) = true := decide_eq_true c18
                        have c18b1 : decide (0 < x5_1.length) = true := decide_eq_true (by omega)
                        clear c18
                        by_cases c19 : 0 < (x5_1.length : Int)
                        · rw [if_pos c19] at H
                          have c19b0 : decide (0 < (x5_1.length : Int)) = true := decide_eq_true c19
                          have c19b1 : decide (0 < x5_1.length) = true := decide_eq_true (by omega)
                          clear c19
                          by_cases c20 : ((rd_T42 x5_1 0).f1) = ((rd_T42 l0 x6_1).f1)
                          · rw [if_pos c20] at H
                            have c20b0 : (((rd_T42 x5_1 0).f1) == ((rd_T42 l0 x6_1).f1)) = true := beq_iff_eq.mpr c20
                            have c20b1 : (((rd_T42 x5_1 0).f1) != ((rd_T42 l0 x6_1).f1)) = false := bne_eq_false_iff_eq.mpr c20
                            clear c20
                            by_cases c21 : x5_1.length < 3518437208883
                            · rw [if_pos c21] at H
                              have LMc21 := Aside0.mk c21
                              clear c21
                              obtain ⟨y228, hy228⟩ : ∃ y_ : List (S42), y_ = (x5_1 ++ [(⟨((rd_T42 l0 x6_1).f0), ((rd_T42 l0 x6_1).f1), ((rd_T42 l0 x6_1).f2), ((rd_T42 l0 x6_1).f3), ((rd_T42 l0 x6_1).f4), ((rd_T42 l0 x6_1).f5)⟩ : S42)]) := ⟨_, rfl⟩
                              replace H : (leatref21_Of.l0 kj10 l0 a1 y228 (wrap64 (x6_1 - 1))) = some r := by first | (rw [hy228]; with_reducible exact H) | (have H2_ := (Option.bind_some _ _).symm.trans H; rw [hy228]; with_reducible exact H2_) | (have H2_ := (Option.bind_some _ _).symm.trans H; with_reducible exact H2_) | with_reducible exact H | (rw [hy228]; exact H) | exact H
                              have Ny228 := Aside0.mk hy228
                              clear hy228
                              have H' := Aside0.mk H
                              clear H
                              obtain ⟨Ao22, co22, eo22⟩ := Kd.R_slice HO_5.out
                              subst eo22
                              have p227 : 0 ≤ (0 : Int) := (by omega)
                              have q227 : 0 < (x5_1.length : Int) := of_decide_eq_true (by first | (with_reducible assumption) | assumption)
                              obtain ⟨ad227, e227, hx227_0, hx227_1, hx227_2, hx227_3, hx227_4, hx227_5⟩ := at_T42 (Kd.R_reads' HO_5.out).2.2 0 p227 q227
                              cases e227
                              have qi227 : (0 < x5_1.length) = True := eq_true (by omega)
                              (try rw [show ((0 : Int)).toNat = 0 from rfl] at hx227_0)
                              (try rw [show 0 * 6 = 0 from rfl] at hx227_0)
                              (try rw [Addr.add_zero'] at hx227_0)
                              (try rw [show ((0 : Int)).toNat = 0 from rfl] at hx227_1)
                              (try rw [show 0 * 6 = 0 from rfl] at hx227_1)
                              (try rw [Addr.add_zero'] at hx227_1)
                              (try rw [show ((0 : Int)).toNat = 0 from rfl] at hx227_2)
                              (try rw [show 0 * 6 = 0 from rfl] at hx227_2)
                              (try rw [Addr.add_zero'] at hx227_2)
                              (try rw [show ((0 : Int)).toNat = 0 from rfl] at hx227_3)
                              (try rw [show 0 * 6 = 0 from rfl] at hx227_3)
                              (try rw [Addr.add_zero'] at hx227_3)
                              (try rw [show ((0 : Int)).toNat = 0 from rfl] at hx227_4)
                              (try rw [show 0 * 6 = 0 from rfl] at hx227_4)
                              (try rw [Addr.add_zero'] at hx227_4)
                              (try rw [show ((0 : Int)).toNat = 0 from rfl] at hx227_5)
                              (try rw [show 0 * 6 = 0 from rfl] at hx227_5)
                              (try rw [Addr.add_zero'] at hx227_5)
                              replace p227 := eq_true p227
                              replace q227 := eq_true q227
                              have hcz23_0 : wc.cell? ⟨gb226, 0, none⟩ = some (.int .i64 ((rd_T42 l0 x6_1).f0)) := (blk_cell BK226.out 0).trans rfl
                              have hcz23_1 : wc.cell? ⟨gb226, 1, none⟩ = some (.int .i16 ((rd_T42 l0 x6_1).f1)) := (blk_cell BK226.out 1).trans rfl
                              have hcz23_2 : wc.cell? ⟨gb226, 2, none⟩ = some (.int .i32 ((rd_T42 l0 x6_1).f2)) := (blk_cell BK226.out 2).trans rfl
                              have hcz23_3 : wc.cell? ⟨gb226, 3, none⟩ = some (.int .i64 ((rd_T42 l0 x6_1).f3)) := (blk_cell BK226.out 3).trans rfl
                              have hcz23_4 : wc.cell? ⟨gb226, 4, none⟩ = some (.int .i64 ((rd_T42 l0 x6_1).f4)) := (blk_cell BK226.out 4).trans rfl
                              have hcz23_5 : wc.cell? ⟨gb226, 5, none⟩ = some (.bool ((rd_T42 l0 x6_1).f5)) := (blk_cell BK226.out 5).trans rfl
                              have hfz23_0 := blk_frozen BK226.out 0
                              have hfz23_1 := blk_frozen BK226.out 1
                              have hfz23_2 := blk_frozen BK226.out 2
                              have hfz23_3 := blk_frozen BK226.out 3
                              have hfz23_4 := blk_frozen BK226.out 4
                              have hfz23_5 := blk_frozen BK226.out 5
                              go_wp2_with (first | ((with_reducible refine gate_builtin (b := .append) (xs := #[.tmp 48, .tmp 50]) rfl ?_); (try (refine gate_guard (by rfl) ?_; dsimp only)); at_builtin; refine Kd.R_append k42 (w0 := w) w.heap.size rfl (.tmp 48) (.tmp 50) 34 42 (.agg #[(.int .i64 0), (.int .i16 0), (.int .i32 0), (.int .i64 0), (.int .i64 0), (.bool false)]) 40 rfl Try.underlying34 info42 rfl (by decide) (by omega) (.slice (some ad227) x5_1.length co22) x5_1 (⟨((rd_T42 l0 x6_1).f0), ((rd_T42 l0 x6_1).f1), ((rd_T42 l0 x6_1).f2), ((rd_T42 l0 x6_1).f3), ((rd_T42 l0 x6_1).f4), ((rd_T42 l0 x6_1).f5)⟩ : S42) [.int .i64 ((rd_T42 l0 x6_1).f0), .int .i16 ((rd_T42 l0 x6_1).f1), .int .i32 ((rd_T42 l0 x6_1).f2), .int .i64 ((rd_T42 l0 x6_1).f3), .int .i64 ((rd_T42 l0 x6_1).f4), .bool ((rd_T42 l0 x6_1).f5)] (fun k_ => k_ ≠ gb226) (fun _ => False) rfl rfl ?aP (fun _ hk => hk.elim) ?aF ?aO ?aB ?aS ?aL ?_; (case aP => exact k42_mkM _ _ _ (⟨((rd_T42 l0 x6_1).f0), ((rd_T42 l0 x6_1).f1), ((rd_T42 l0 x6_1).f2), ((rd_T42 l0 x6_1).f3), ((rd_T42 l0 x6_1).f4), ((rd_T42 l0 x6_1).f5)⟩ : S42)); (case aB => exact (by repeat (first | (with_reducible first | exact HB.out | apply below_alloc | apply pw_below_drewN | apply below_drew1 | refine below_set ?_ GE226.out) | exact HB.out))); (case aF => exact (fun k_ hk => Kd.freshB (g := gb226) (o := .cells #[.int .i64 ((rd_T42 l0 x6_1).f0), .int .i16 ((rd_T42 l0 x6_1).f1), .int .i32 ((rd_T42 l0 x6_1).f2), .int .i64 ((rd_T42 l0 x6_1).f3), .int .i64 ((rd_T42 l0 x6_1).f4), .bool ((rd_T42 l0 x6_1).f5)] 42 (0, 0)) (by (with_reducible repeat (first | refine blk_drewN ?_ _ | refine blk_drew ?_ | refine blk_alloc ?_ _)); exact BK226.out) k_ hk)); (case aO => exact (by (with_reducible repeat (first | apply Kd.R_alloc | apply Kd.R_drewN | apply Kd.R_drew)); exact HO_5.out)); (case aS => exact (below_size (by repeat (first | (with_reducible first | exact HB.out | apply below_alloc | apply pw_below_drewN | apply below_drew1 | refine below_set ?_ GE226.out) | exact HB.out)))); (case aL => have := LMc21.out; omega); intro v229 w24 ho hb hg hat; rw [← Ny228.out] at ho; have n0_ := Aside0.mk (blk_grown (g := gb226) (o := .cells #[.int .i64 ((rd_T42 l0 x6_1).f0), .int .i16 ((rd_T42 l0 x6_1).f1), .int .i32 ((rd_T42 l0 x6_1).f2), .int .i64 ((rd_T42 l0 x6_1).f3), .int .i64 ((rd_T42 l0 x6_1).f4), .bool ((rd_T42 l0 x6_1).f5)] 42 (0, 0)) (by (with_reducible repeat (first | refine blk_drewN ?_ _ | refine blk_drew ?_ | refine blk_alloc ?_ _)); exact BK226.out) hg (Kd.R_away HO_5.out (fun _ hk => hk))); have n1_ := Aside0.mk (hb); have n2_ := Aside0.mk (ho); clear BK226; clear HB; clear HO_5; have BK226 := n0_; have HB := n1_; have HO230 := n2_; clear n0_ n1_ n2_; clear ho hb hg hat))
                              repeat (go_quiet (first | ((with_reducible refine gate_builtin (b := .append) (xs := #[.tmp 48, .tmp 50]) rfl ?_); (try (refine gate_guard (by rfl) ?_; dsimp only)); at_builtin; refine Kd.R_append k42 (w0 := w) w.heap.size rfl (.tmp 48) (.tmp 50) 34 42 (.agg #[(.int .i64 0), (.int .i16 0), (.int .i32 0), (.int .i64 0), (.int .i64 0), (.bool false)]) 40 rfl Try.underlying34 info42 rfl (by decide) (by omega) (.slice (some ad227) x5_1.length co22) x5_1 (⟨((rd_T42 l0 x6_1).f0), ((rd_T42 l0 x6_1).f1), ((rd_T42 l0 x6_1).f2), ((rd_T42 l0 x6_1).f3), ((rd_T42 l0 x6_1).f4), ((rd_T42 l0 x6_1).f5)⟩ : S42) [.int .i64 ((rd_T42 l0 x6_1).f0), .int .i16 ((rd_T42 l0 x6_1).f1), .int .i32 ((rd_T42 l0 x6_1).f2), .int .i64 ((rd_T42 l0 x6_1).f3), .int .i64 ((rd_T42 l0 x6_1).f4), .bool ((rd_T42 l0 x6_1).f5)] (fun k_ => k_ ≠ gb226) (fun _ => False) rfl rfl ?aP (fun _ hk => hk.elim) ?aF ?aO ?aB ?aS ?aL ?_; (case aP => exact k42_mkM _ _ _ (⟨((rd_T42 l0 x6_1).f0), ((rd_T42 l0 x6_1).f1), ((rd_T42 l0 x6_1).f2), ((rd_T42 l0 x6_1).f3), ((rd_T42 l0 x6_1).f4), ((rd_T42 l0 x6_1).f5)⟩ : S42)); (case aB => exact (by repeat (first | (with_reducible first | exact HB.out | apply below_alloc | apply pw_below_drewN | apply below_drew1 | refine below_set ?_ GE226.out) | exact HB.out))); (case aF => exact (fun k_ hk => Kd.freshB (g := gb226) (o := .cells #[.int .i64 ((rd_T42 l0 x6_1).f0), .int .i16 ((rd_T42 l0 x6_1).f1), .int .i32 ((rd_T42 l0 x6_1).f2), .int .i64 ((rd_T42 l0 x6_1).f3), .int .i64 ((rd_T42 l0 x6_1).f4), .bool ((rd_T42 l0 x6_1).f5)] 42 (0, 0)) (by (with_reducible repeat (first | refine blk_drewN ?_ _ | refine blk_drew ?_ | refine blk_alloc ?_ _)); exact BK226.out) k_ hk)); (case aO => exact (by (with_reducible repeat (first | apply Kd.R_alloc | apply Kd.R_drewN | apply Kd.R_drew)); exact HO_5.out)); (case aS => exact (below_size (by repeat (first | (with_reducible first | exact HB.out | apply below_alloc | apply pw_below_drewN | apply below_drew1 | refine below_set ?_ GE226.out) | exact HB.out)))); (case aL => have := LMc21.out; omega); intro v229 w24 ho hb hg hat; rw [← Ny228.out] at ho; have n0_ := Aside0.mk (blk_grown (g := gb226) (o := .cells #[.int .i64 ((rd_T42 l0 x6_1).f0), .int .i16 ((rd_T42 l0 x6_1).f1), .int .i32 ((rd_T42 l0 x6_1).f2), .int .i64 ((rd_T42 l0 x6_1).f3), .int .i64 ((rd_T42 l0 x6_1).f4), .bool ((rd_T42 l0 x6_1).f5)] 42 (0, 0)) (by (with_reducible repeat (first | refine blk_drewN ?_ _ | refine blk_drew ?_ | refine blk_alloc ?_ _)); exact BK226.out) hg (Kd.R_away HO_5.out (fun _ hk => hk))); have n1_ := Aside0.mk (hb); have n2_ := Aside0.mk (ho); clear BK226; clear HB; clear HO_5; have BK226 := n0_; have HB := n1_; have HO230 := n2_; clear n0_ n1_ n2_; clear ho hb hg hat)); try go_wp2_with (first | ((with_reducible refine gate_builtin (b := .append) (xs := #[.tmp 48, .tmp 50]) rfl ?_); (try (refine gate_guard (by rfl) ?_; dsimp only)); at_builtin; refine Kd.R_append k42 (w0 := w) w.heap.size rfl (.tmp 48) (.tmp 50) 34 42 (.agg #[(.int .i64 0), (.int .i16 0), (.int .i32 0), (.int .i64 0), (.int .i64 0), (.bool false)]) 40 rfl Try.underlying34 info42 rfl (by decide) (by omega) (.slice (some ad227) x5_1.length co22) x5_1 (⟨((rd_T42 l0 x6_1).f0), ((rd_T42 l0 x6_1).f1), ((rd_T42 l0 x6_1).f2), ((rd_T42 l0 x6_1).f3), ((rd_T42 l0 x6_1).f4), ((rd_T42 l0 x6_1).f5)⟩ : S42) [.int .i64 ((rd_T42 l0 x6_1).f0), .int .i16 ((rd_T42 l0 x6_1).f1), .int .i32 ((rd_T42 l0 x6_1).f2), .int .i64 ((rd_T42 l0 x6_1).f3), .int .i64 ((rd_T42 l0 x6_1).f4), .bool ((rd_T42 l0 x6_1).f5)] (fun k_ => k_ ≠ gb226) (fun _ => False) rfl rfl ?aP (fun _ hk => hk.elim) ?aF ?aO ?aB ?aS ?aL ?_; (case aP => exact k42_mkM _ _ _ (⟨((rd_T42 l0 x6_1).f0), ((rd_T42 l0 x6_1).f1), ((rd_T42 l0 x6_1).f2), ((rd_T42 l0 x6_1).f3), ((rd_T42 l0 x6_1).f4), ((rd_T42 l0 x6_1).f5)⟩ : S42)); (case aB => exact (by repeat (first | (with_reducible first | exact HB.out | apply below_alloc | apply pw_below_drewN | apply below_drew1 | refine below_set ?_ GE226.out) | exact HB.out))); (case aF => exact (fun k_ hk => Kd.freshB (g := gb226) (o := .cells #[.int .i64 ((rd_T42 l0 x6_1).f0), .int .i16 ((rd_T42 l0 x6_1).f1), .int .i32 ((rd_T42 l0 x6_1).f2), .int .i64 ((rd_T42 l0 x6_1).f3), .int .i64 ((rd_T42 l0 x6_1).f4), .bool ((rd_T42 l0 x6_1).f5)] 42 (0, 0)) (by (with_reducible repeat (first | refine blk_drewN ?_ _ | refine blk_drew ?_ | refine blk_alloc ?_ _)); exact BK226.out) k_ hk)); (case aO => exact (by (with_reducible repeat (first | apply Kd.R_alloc | apply Kd.R_drewN | apply Kd.R_drew)); exact HO_5.out)); (case aS => exact (below_size (by repeat (first | (with_reducible first | exact HB.out | apply below_alloc | apply pw_below_drewN | apply below_drew1 | refine below_set ?_ GE226.out) | exact HB.out)))); (case aL => have := LMc21.out; omega); intro v229 w24 ho hb hg hat; rw [← Ny228.out] at ho; have n0_ := Aside0.mk (blk_grown (g := gb226) (o := .cells #[.int .i64 ((rd_T42 l0 x6_1).f0), .int .i16 ((rd_T42 l0 x6_1).f1), .int .i32 ((rd_T42 l0 x6_1).f2), .int .i64 ((rd_T42 l0 x6_1).f3), .int .i64 ((rd_T42 l0 x6_1).f4), .bool ((rd_T42 l0 x6_1).f5)] 42 (0, 0)) (by (with_reducible repeat (first | refine blk_drewN ?_ _ | refine blk_drew ?_ | refine blk_alloc ?_ _)); exact BK226.out) hg (Kd.R_away HO_5.out (fun _ hk => hk))); have n1_ := Aside0.mk (hb); have n2_ := Aside0.mk (ho); clear BK226; clear HB; clear HO_5; have BK226 := n0_; have HB := n1_; have HO230 := n2_; clear n0_ n1_ n2_; clear ho hb hg hat)))
                              go_roundg kj10
                              case measure => have := HK1.out; have := HJ4.out; have := HJ10.out; omega
                              case rel => exact ⟨(y228), (wrap64 (x6_1 - 1)), (by first | rfl | (simp; done) | (simp [*]; done)), H', ⟨by have := HK1.out; have := HJ4.out; have := HJ10.out; omega⟩, ⟨by (with_reducible repeat (first | apply Kd.R_alloc | apply Kd.R_drewN | apply Kd.R_drew)); exact Kd.R_mono HO230.out (fun _ hk => trivial)⟩, ⟨by repeat (first | (with_reducible first | exact HB.out | apply below_alloc | apply pw_below_drewN | apply below_drew1 | refine below_set ?_ GE226.out) | exact HB.out)⟩⟩
                            · rw [if_neg c21] at H
                              exact absurd H (by simp)
                          · rw [if_neg c20] at H
                            have c20b0 : (((rd_T42 x5_1 0).f1) == ((rd_T42 l0 x6_1).f1)) = false := beq_eq_false_iff_ne.mpr c20
                            have c20b1 : (((rd_T42 x5_1 0).f1) != ((rd_T42 l0 x6_1).f1)) = true := bne_iff_ne.mpr c20
                            have H' := Aside0.mk H
                            clear H
                            obtain ⟨Ao25, co25, eo25⟩ := Kd.R_slice HO_5.out
                            subst eo25
                            have p227 : 0 ≤ (0 : Int) := (by omega)
                            have q227 : 0 < (x5_1.length : Int) := of_decide_eq_true (by first | (with_reducible assumption) | assumption)
                            obtain ⟨ad227, e227, hx227_0, hx227_1, hx227_2, hx227_3, hx227_4, hx227_5⟩ := at_T42 (Kd.R_reads' HO_5.out).2.2 0 p227 q227
                            cases e227
                            have qi227 : (0 < x5_1.length) = True := eq_true (by omega)
                            (try rw [show ((0 : Int)).toNat = 0 from rfl] at hx227_0)
                            (try rw [show 0 * 6 = 0 from rfl] at hx227_0)
                            (try rw [Addr.add_zero'] at hx227_0)
                            (try rw [show ((0 : Int)).toNat = 0 from rfl] at hx227_1)
                            (try rw [show 0 * 6 = 0 from rfl] at hx227_1)
                            (try rw [Addr.add_zero'] at hx227_1)
                            (try rw [show ((0 : Int)).toNat = 0 from rfl] at hx227_2)
                            (try rw [show 0 * 6 = 0 from rfl] at hx227_2)
                            (try rw [Addr.add_zero'] at hx227_2)
                            (try rw [show ((0 : Int)).toNat = 0 from rfl] at hx227_3)
                            (try rw [show 0 * 6 = 0 from rfl] at hx227_3)
                            (try rw [Addr.add_zero'] at hx227_3)
                            (try rw [show ((0 : Int)).toNat = 0 from rfl] at hx227_4)
                            (try rw [show 0 * 6 = 0 from rfl] at hx227_4)
                            (try rw [Addr.add_zero'] at hx227_4)
                            (try rw [show ((0 : Int)).toNat = 0 from rfl] at hx227_5)
                            (try rw [show 0 * 6 = 0 from rfl] at hx227_5)
                            (try rw [Addr.add_zero'] at hx227_5)
                            replace p227 := eq_true p227
                            replace q227 := eq_true q227
                            have hcz26_0 : wc.cell? ⟨gb226, 0, none⟩ = some (.int .i64 ((rd_T42 l0 x6_1).f0)) := (blk_cell BK226.out 0).trans rfl
                            have hcz26_1 : wc.cell? ⟨gb226, 1, none⟩ = some (.int .i16 ((rd_T42 l0 x6_1).f1)) := (blk_cell BK226.out 1).trans rfl
                            have hcz26_2 : wc.cell? ⟨gb226, 2, none⟩ = some (.int .i32 ((rd_T42 l0 x6_1).f2)) := (blk_cell BK226.out 2).trans rfl
                            have hcz26_3 : wc.cell? ⟨gb226, 3, none⟩ = some (.int .i64 ((rd_T42 l0 x6_1).f3)) := (blk_cell BK226.out 3).trans rfl
                            have hcz26_4 : wc.cell? ⟨gb226, 4, none⟩ = some (.int .i64 ((rd_T42 l0 x6_1).f4)) := (blk_cell BK226.out 4).trans rfl
                            have hcz26_5 : wc.cell? ⟨gb226, 5, none⟩ = some (.bool ((rd_T42 l0 x6_1).f5)) := (blk_cell BK226.out 5).trans rfl
                            have hfz26_0 := blk_frozen BK226.out 0
                            have hfz26_1 := blk_frozen BK226.out 1
                            have hfz26_2 := blk_frozen BK226.out 2
                            have hfz26_3 := blk_frozen BK226.out 3
                            have hfz26_4 := blk_frozen BK226.out 4
                            have hfz26_5 := blk_frozen BK226.out 5
                            go_wp2
                            repeat (go_quiet (fail); try go_wp2)
                            go_roundg kj10
                            case measure => have := HK1.out; have := HJ4.out; have := HJ10.out; omega
                            case rel => exact ⟨(x5_1), (-1), (by first | rfl | (simp; done) | (simp [*]; done)), H', ⟨by have := HK1.out; have := HJ4.out; have := HJ10.out; omega⟩, ⟨by (with_reducible repeat (first | apply Kd.R_alloc | apply Kd.R_drewN | apply Kd.R_drew)); exact Kd.R_mono HO_5.out (fun _ hk => trivial)⟩, ⟨by repeat (first | (with_reducible first | exact HB.out | apply below_alloc | apply pw_below_drewN | apply below_drew1 | refine below_set ?_ GE226.out) | exact HB.out)⟩⟩
                        · rw [if_neg c19] at H
                          exact absurd H (by simp)
                      · rw [if_neg c18] at H
                        have c18b0 : decide (0 < (x5_1.length : Int)) = false := decide_eq_false c18
                        have c18b1 : decide (0 < x5_1.length) = false := decide_eq_false (by omega)
                        clear c18
                        by_cases c27 : x5_1.length < 3518437208883
                        · rw [if_pos c27] at H
                          have LMc27 := Aside0.mk c27
                          clear c27
                          obtain ⟨y231, hy231⟩ : ∃ y_ : List (S42), y_ = (x5_1 ++ [(⟨((rd_T42 l0 x6_1).f0), ((rd_T42 l0 x6_1).f1), ((rd_T42 l0 x6_1).f2), ((rd_T42 l0 x6_1).f3), ((rd_T42 l0 x6_1).f4), ((rd_T42 l0 x6_1).f5)⟩ : S42)]) := ⟨_, rfl⟩
                          replace H : (leatref21_Of.l0 kj10 l0 a1 y231 (wrap64 (x6_1 - 1))) = some r := by first | (rw [hy231]; with_reducible exact H) | (have H2_ := (Option.bind_some _ _).symm.trans H; rw [hy231]; with_reducible exact H2_) | (have H2_ := (Option.bind_some _ _).symm.trans H; with_reducible exact H2_) | with_reducible exact H | (rw [hy231]; exact H) | exact H
                          have Ny231 := Aside0.mk hy231
                          clear hy231
                          have H' := Aside0.mk H
                          clear H
                          obtain ⟨Ao28, co28, eo28⟩ := Kd.R_slice HO_5.out
                          subst eo28
                          have hcz29_0 : wc.cell? ⟨gb226, 0, none⟩ = some (.int .i64 ((rd_T42 l0 x6_1).f0)) := (blk_cell BK226.out 0).trans rfl
                          have hcz29_1 : wc.cell? ⟨gb226, 1, none⟩ = some (.int .i16 ((rd_T42 l0 x6_1).f1)) := (blk_cell BK226.out 1).trans rfl
                          have hcz29_2 : wc.cell? ⟨gb226, 2, none⟩ = some (.int .i32 ((rd_T42 l0 x6_1).f2)) := (blk_cell BK226.out 2).trans rfl
                          have hcz29_3 : wc.cell? ⟨gb226, 3, none⟩ = some (.int .i64 ((rd_T42 l0 x6_1).f3)) := (blk_cell BK226.out 3).trans rfl
                          have hcz29_4 : wc.cell? ⟨gb226, 4, none⟩ = some (.int .i64 ((rd_T42 l0 x6_1).f4)) := (blk_cell BK226.out 4).trans rfl
                          have hcz29_5 : wc.cell? ⟨gb226, 5, none⟩ = some (.bool ((rd_T42 l0 x6_1).f5)) := (blk_cell BK226.out 5).trans rfl
                          have hfz29_0 := blk_frozen BK226.out 0
                          have hfz29_1 := blk_frozen BK226.out 1
                          have hfz29_2 := blk_frozen BK226.out 2
                          have hfz29_3 := blk_frozen BK226.out 3
                          have hfz29_4 := blk_frozen BK226.out 4
                          have hfz29_5 := blk_frozen BK226.out 5
                          go_wp2_with (first | ((with_reducible refine gate_builtin (b := .append) (xs := #[.tmp 48, .tmp 50]) rfl ?_); (try (refine gate_guard (by rfl) ?_; dsimp only)); at_builtin; refine Kd.R_append k42 (w0 := w) w.heap.size rfl (.tmp 48) (.tmp 50) 34 42 (.agg #[(.int .i64 0), (.int .i16 0), (.int .i32 0), (.int .i64 0), (.int .i64 0), (.bool false)]) 40 rfl Try.underlying34 info42 rfl (by decide) (by omega) (.slice Ao28 x5_1.length co28) x5_1 (⟨((rd_T42 l0 x6_1).f0), ((rd_T42 l0 x6_1).f1), ((rd_T42 l0 x6_1).f2), ((rd_T42 l0 x6_1).f3), ((rd_T42 l0 x6_1).f4), ((rd_T42 l0 x6_1).f5)⟩ : S42) [.int .i64 ((rd_T42 l0 x6_1).f0), .int .i16 ((rd_T42 l0 x6_1).f1), .int .i32 ((rd_T42 l0 x6_1).f2), .int .i64 ((rd_T42 l0 x6_1).f3), .int .i64 ((rd_T42 l0 x6_1).f4), .bool ((rd_T42 l0 x6_1).f5)] (fun k_ => k_ ≠ gb226) (fun _ => False) rfl rfl ?aP (fun _ hk => hk.elim) ?aF ?aO ?aB ?aS ?aL ?_; (case aP => exact k42_mkM _ _ _ (⟨((rd_T42 l0 x6_1).f0), ((rd_T42 l0 x6_1).f1), ((rd_T42 l0 x6_1).f2), ((rd_T42 l0 x6_1).f3), ((rd_T42 l0 x6_1).f4), ((rd_T42 l0 x6_1).f5)⟩ : S42)); (case aB => exact (by repeat (first | (with_reducible first | exact HB.out | apply below_alloc | apply pw_below_drewN | apply below_drew1 | refine below_set ?_ GE226.out) | exact HB.out))); (case aF => exact (fun k_ hk => Kd.freshB (g := gb226) (o := .cells #[.int .i64 ((rd_T42 l0 x6_1).f0), .int .i16 ((rd_T42 l0 x6_1).f1), .int .i32 ((rd_T42 l0 x6_1).f2), .int .i64 ((rd_T42 l0 x6_1).f3), .int .i64 ((rd_T42 l0 x6_1).f4), .bool ((rd_T42 l0 x6_1).f5)] 42 (0, 0)) (by (with_reducible repeat (first | refine blk_drewN ?_ _ | refine blk_drew ?_ | refine blk_alloc ?_ _)); exact BK226.out) k_ hk)); (case aO => exact (by (with_reducible repeat (first | apply Kd.R_alloc | apply Kd.R_drewN | apply Kd.R_drew)); exact HO_5.out)); (case aS => exact (below_size (by repeat (first | (with_reducible first | exact HB.out | apply below_alloc | apply pw_below_drewN | apply below_drew1 | refine below_set ?_ GE226.out) | exact HB.out)))); (case aL => have := LMc27.out; omega); intro v232 w30 ho hb hg hat; rw [← Ny231.out] at ho; have n0_ := Aside0.mk (blk_grown (g := gb226) (o := .cells #[.int .i64 ((rd_T42 l0 x6_1).f0), .int .i16 ((rd_T42 l0 x6_1).f1), .int .i32 ((rd_T42 l0 x6_1).f2), .int .i64 ((rd_T42 l0 x6_1).f3), .int .i64 ((rd_T42 l0 x6_1).f4), .bool ((rd_T42 l0 x6_1).f5)] 42 (0, 0)) (by (with_reducible repeat (first | refine blk_drewN ?_ _ | refine blk_drew ?_ | refine blk_alloc ?_ _)); exact BK226.out) hg (Kd.R_away HO_5.out (fun _ hk => hk))); have n1_ := Aside0.mk (hb); have n2_ := Aside0.mk (ho); clear BK226; clear HB; clear HO_5; have BK226 := n0_; have HB := n1_; have HO233 := n2_; clear n0_ n1_ n2_; clear ho hb hg hat))
                          repeat (go_quiet (first | ((with_reducible refine gate_builtin (b := .append) (xs := #[.tmp 48, .tmp 50]) rfl ?_); (try (refine gate_guard (by rfl) ?_; dsimp only)); at_builtin; refine Kd.R_append k42 (w0 := w) w.heap.size rfl (.tmp 48) (.tmp 50) 34 42 (.agg #[(.int .i64 0), (.int .i16 0), (.int .i32 0), (.int .i64 0), (.int .i64 0), (.bool false)]) 40 rfl Try.underlying34 info42 rfl (by decide) (by omega) (.slice Ao28 x5_1.length co28) x5_1 (⟨((rd_T42 l0 x6_1).f0), ((rd_T42 l0 x6_1).f1), ((rd_T42 l0 x6_1).f2), ((rd_T42 l0 x6_1).f3), ((rd_T42 l0 x6_1).f4), ((rd_T42 l0 x6_1).f5)⟩ : S42) [.int .i64 ((rd_T42 l0 x6_1).f0), .int .i16 ((rd_T42 l0 x6_1).f1), .int .i32 ((rd_T42 l0 x6_1).f2), .int .i64 ((rd_T42 l0 x6_1).f3), .int .i64 ((rd_T42 l0 x6_1).f4), .bool ((rd_T42 l0 x6_1).f5)] (fun k_ => k_ ≠ gb226) (fun _ => False) rfl rfl ?aP (fun _ hk => hk.elim) ?aF ?aO ?aB ?aS ?aL ?_; (case aP => exact k42_mkM _ _ _ (⟨((rd_T42 l0 x6_1).f0), ((rd_T42 l0 x6_1).f1), ((rd_T42 l0 x6_1).f2), ((rd_T42 l0 x6_1).f3), ((rd_T42 l0 x6_1).f4), ((rd_T42 l0 x6_1).f5)⟩ : S42)); (case aB => exact (by repeat (first | (with_reducible first | exact HB.out | apply below_alloc | apply pw_below_drewN | apply below_drew1 | refine below_set ?_ GE226.out) | exact HB.out))); (case aF => exact (fun k_ hk => Kd.freshB (g := gb226) (o := .cells #[.int .i64 ((rd_T42 l0 x6_1).f0), .int .i16 ((rd_T42 l0 x6_1).f1), .int .i32 ((rd_T42 l0 x6_1).f2), .int .i64 ((rd_T42 l0 x6_1).f3), .int .i64 ((rd_T42 l0 x6_1).f4), .bool ((rd_T42 l0 x6_1).f5)] 42 (0, 0)) (by (with_reducible repeat (first | refine blk_drewN ?_ _ | refine blk_drew ?_ | refine blk_alloc ?_ _)); exact BK226.out) k_ hk)); (case aO => exact (by (with_reducible repeat (first | apply Kd.R_alloc | apply Kd.R_drewN | apply Kd.R_drew)); exact HO_5.out)); (case aS => exact (below_size (by repeat (first | (with_reducible first | exact HB.out | apply below_alloc | apply pw_below_drewN | apply below_drew1 | refine below_set ?_ GE226.out) | exact HB.out)))); (case aL => have := LMc27.out; omega); intro v232 w30 ho hb hg hat; rw [← Ny231.out] at ho; have n0_ := Aside0.mk (blk_grown (g := gb226) (o := .cells #[.int .i64 ((rd_T42 l0 x6_1).f0), .int .i16 ((rd_T42 l0 x6_1).f1), .int .i32 ((rd_T42 l0 x6_1).f2), .int .i64 ((rd_T42 l0 x6_1).f3), .int .i64 ((rd_T42 l0 x6_1).f4), .bool ((rd_T42 l0 x6_1).f5)] 42 (0, 0)) (by (with_reducible repeat (first | refine blk_drewN ?_ _ | refine blk_drew ?_ | refine blk_alloc ?_ _)); exact BK226.out) hg (Kd.R_away HO_5.out (fun _ hk => hk))); have n1_ := Aside0.mk (hb); have n2_ := Aside0.mk (ho); clear BK226; clear HB; clear HO_5; have BK226 := n0_; have HB := n1_; have HO233 := n2_; clear n0_ n1_ n2_; clear ho hb hg hat)); try go_wp2_with (first | ((with_reducible refine gate_builtin (b := .append) (xs := #[.tmp 48, .tmp 50]) rfl ?_); (try (refine gate_guard (by rfl) ?_; dsimp only)); at_builtin; refine Kd.R_append k42 (w0 := w) w.heap.size rfl (.tmp 48) (.tmp 50) 34 42 (.agg #[(.int .i64 0), (.int .i16 0), (.int .i32 0), (.int .i64 0), (.int .i64 0), (.bool false)]) 40 rfl Try.underlying34 info42 rfl (by decide) (by omega) (.slice Ao28 x5_1.length co28) x5_1 (⟨((rd_T42 l0 x6_1).f0), ((rd_T42 l0 x6_1).f1), ((rd_T42 l0 x6_1).f2), ((rd_T42 l0 x6_1).f3), ((rd_T42 l0 x6_1).f4), ((rd_T42 l0 x6_1).f5)⟩ : S42) [.int .i64 ((rd_T42 l0 x6_1).f0), .int .i16 ((rd_T42 l0 x6_1).f1), .int .i32 ((rd_T42 l0 x6_1).f2), .int .i64 ((rd_T42 l0 x6_1).f3), .int .i64 ((rd_T42 l0 x6_1).f4), .bool ((rd_T42 l0 x6_1).f5)] (fun k_ => k_ ≠ gb226) (fun _ => False) rfl rfl ?aP (fun _ hk => hk.elim) ?aF ?aO ?aB ?aS ?aL ?_; (case aP => exact k42_mkM _ _ _ (⟨((rd_T42 l0 x6_1).f0), ((rd_T42 l0 x6_1).f1), ((rd_T42 l0 x6_1).f2), ((rd_T42 l0 x6_1).f3), ((rd_T42 l0 x6_1).f4), ((rd_T42 l0 x6_1).f5)⟩ : S42)); (case aB => exact (by repeat (first | (with_reducible first | exact HB.out | apply below_alloc | apply pw_below_drewN | apply below_drew1 | refine below_set ?_ GE226.out) | exact HB.out))); (case aF => exact (fun k_ hk => Kd.freshB (g := gb226) (o := .cells #[.int .i64 ((rd_T42 l0 x6_1).f0), .int .i16 ((rd_T42 l0 x6_1).f1), .int .i32 ((rd_T42 l0 x6_1).f2), .int .i64 ((rd_T42 l0 x6_1).f3), .int .i64 ((rd_T42 l0 x6_1).f4), .bool ((rd_T42 l0 x6_1).f5)] 42 (0, 0)) (by (with_reducible repeat (first | refine blk_drewN ?_ _ | refine blk_drew ?_ | refine blk_alloc ?_ _)); exact BK226.out) k_ hk)); (case aO => exact (by (with_reducible repeat (first | apply Kd.R_alloc | apply Kd.R_drewN | apply Kd.R_drew)); exact HO_5.out)); (case aS => exact (below_size (by repeat (first | (with_reducible first | exact HB.out | apply below_alloc | apply pw_below_drewN | apply below_drew1 | refine below_set ?_ GE226.out) | exact HB.out)))); (case aL => have := LMc27.out; omega); intro v232 w30 ho hb hg hat; rw [← Ny231.out] at ho; have n0_ := Aside0.mk (blk_grown (g := gb226) (o := .cells #[.int .i64 ((rd_T42 l0 x6_1).f0), .int .i16 ((rd_T42 l0 x6_1).f1), .int .i32 ((rd_T42 l0 x6_1).f2), .int .i64 ((rd_T42 l0 x6_1).f3), .int .i64 ((rd_T42 l0 x6_1).f4), .bool ((rd_T42 l0 x6_1).f5)] 42 (0, 0)) (by (with_reducible repeat (first | refine blk_drewN ?_ _ | refine blk_drew ?_ | refine blk_alloc ?_ _)); exact BK226.out) hg (Kd.R_away HO_5.out (fun _ hk => hk))); have n1_ := Aside0.mk (hb); have n2_ := Aside0.mk (ho); clear BK226; clear HB; clear HO_5; have BK226 := n0_; have HB := n1_; have HO233 := n2_; clear n0_ n1_ n2_; clear ho hb hg hat)))
                          go_roundg kj10
                          case measure => have := HK1.out; have := HJ4.out; have := HJ10.out; omega
                          case rel => exact ⟨(y231), (wrap64 (x6_1 - 1)), (by first | rfl | (simp; done) | (simp [*]; done)), H', ⟨by have := HK1.out; have := HJ4.out; have := HJ10.out; omega⟩, ⟨by (with_reducible repeat (first | apply Kd.R_alloc | apply Kd.R_drewN | apply Kd.R_drew)); exact Kd.R_mono HO233.out (fun _ hk => trivial)⟩, ⟨by repeat (first | (with_reducible first | exact HB.out | apply below_alloc | apply pw_below_drewN | apply below_drew1 | refine below_set ?_ GE226.out) | exact HB.out)⟩⟩
                        · rw [if_neg c27] at H
                          exact absurd H (by simp)
                    · replace c17 := Bool.eq_false_iff.mpr c17
                      subst c17
                      have H1 : (leatref21_Of.l0 kj10 l0 a1 x5_1 (wrap64 (x6_1 - 1))) = some r := by rw [if_neg (show ¬ (false = true) by decide)] at H; exact H
                      clear H
                      have H := H1
                      clear H1
                      have H' := Aside0.mk H
                      clear H
                      go_wp2
                      repeat (go_quiet (fail); try go_wp2)
                      go_roundg kj10
                      case measure => have := HK1.out; have := HJ4.out; have := HJ10.out; omega
                      case rel => exact ⟨(x5_1), (wrap64 (x6_1 - 1)), (by first | rfl | (simp; done) | (simp [*]; done)), H', ⟨by have := HK1.out; have := HJ4.out; have := HJ10.out; omega⟩, ⟨by (with_reducible repeat (first | apply Kd.R_alloc | apply Kd.R_drewN | apply Kd.R_drew)); exact Kd.R_mono HO_5.out (fun _ hk => trivial)⟩, ⟨by repeat (first | (with_reducible first | exact HB.out | apply below_alloc | apply pw_below_drewN | apply below_drew1 | refine below_set ?_ GE226.out) | exact HB.out)⟩⟩
              · rw [if_neg c10] at H
                exact absurd H (by simp)
            · rw [if_neg c9] at H
              exact absurd H (by simp)
          · replace c8 := Bool.eq_false_iff.mpr c8
            subst c8
            have H1 : (leatref21_Of.l1 kj4 x5_1 (([] : List (S42))) (wrap64 ((x5_1.length : Int) - 1))) = some r := by rw [if_neg (show ¬ (false = true) by decide)] at H; exact H
            clear H
            have H := H1
            clear H1
            obtain ⟨y234, hy234⟩ : ∃ y_ : List (S42), y_ = (([] : List (S42))) := ⟨_, rfl⟩
            replace H : (leatref21_Of.l1 kj4 x5_1 y234 (wrap64 ((x5_1.length : Int) - 1))) = some r := by first | (rw [hy234]; with_reducible exact H) | (have H2_ := (Option.bind_some _ _).symm.trans H; rw [hy234]; with_reducible exact H2_) | (have H2_ := (Option.bind_some _ _).symm.trans H; with_reducible exact H2_) | with_reducible exact H | (rw [hy234]; exact H) | exact H
            have Ny234 := Aside0.mk hy234
            clear hy234
            have H' := Aside0.mk H
            clear H
            go_wp2_with (first | ((with_reducible refine gate_dst (N := 52) rfl ?_); (try (refine gate_guard (by rfl) ?_; dsimp only)); refine Kd.R_lit k42 _ 42 ?hg (N := 52) ?hd (xs := ([] : List (S42))) (inner := []) (ok := fun _ => True) (okp := fun _ => True) ?hr ?hp (fun _ hk => hk) trivial (Below.refl _ _) (Nat.le_refl _) (by simp) ?_; (case hd => rfl); (case hg => rfl); (case hr => first | (go_simp; done) | (go_simp; rfl)); (case hp => exact (Reps.none _ _)); intro v235 w31 ho32 hb hg_ hnew_; clear hg_ hnew_; (first | rw [← Ny234.out] at ho32 | (simp only [Int.reduceToNat] at ho32; rw [← Ny234.out] at ho32)); have n0_ := Aside0.mk (Kd.R_elder' (by (with_reducible repeat (first | apply Kd.R_alloc | apply Kd.R_drewN | apply Kd.R_drew)); exact HO_5.out) (Kd.R_base ho32) hb); have n1_ := Aside0.mk (Kd.R_lower (Kd.R_new' ho32 (Kd.R_lt (by (with_reducible repeat (first | apply Kd.R_alloc | apply Kd.R_drewN | apply Kd.R_drew)); exact HO_5.out))) (below_size (by repeat (first | (with_reducible first | exact HB.out | apply below_alloc | apply pw_below_drewN | apply below_drew1) | exact HB.out)))); have n2_ := Aside0.mk (below_step (by repeat (first | (with_reducible first | exact HB.out | apply below_alloc | apply pw_below_drewN | apply below_drew1) | exact HB.out)) hb); clear HO_5; clear HB; have HO_5 := n0_; have HO236 := n1_; have HB := n2_; clear n0_ n1_ n2_; clear hb ho32; obtain ⟨Ao33, co33, eo33⟩ := Kd.R_slice HO_5.out; subst eo33))
            repeat (go_quiet (first | ((with_reducible refine gate_dst (N := 52) rfl ?_); (try (refine gate_guard (by rfl) ?_; dsimp only)); refine Kd.R_lit k42 _ 42 ?hg (N := 52) ?hd (xs := ([] : List (S42))) (inner := []) (ok := fun _ => True) (okp := fun _ => True) ?hr ?hp (fun _ hk => hk) trivial (Below.refl _ _) (Nat.le_refl _) (by simp) ?_; (case hd => rfl); (case hg => rfl); (case hr => first | (go_simp; done) | (go_simp; rfl)); (case hp => exact (Reps.none _ _)); intro v235 w31 ho32 hb hg_ hnew_; clear hg_ hnew_; (first | rw [← Ny234.out] at ho32 | (simp only [Int.reduceToNat] at ho32; rw [← Ny234.out] at ho32)); have n0_ := Aside0.mk (Kd.R_elder' (by (with_reducible repeat (first | apply Kd.R_alloc | apply Kd.R_drewN | apply Kd.R_drew)); exact HO_5.out) (Kd.R_base ho32) hb); have n1_ := Aside0.mk (Kd.R_lower (Kd.R_new' ho32 (Kd.R_lt (by (with_reducible repeat (first | apply Kd.R_alloc | apply Kd.R_drewN | apply Kd.R_drew)); exact HO_5.out))) (below_size (by repeat (first | (with_reducible first | exact HB.out | apply below_alloc | apply pw_below_drewN | apply below_drew1) | exact HB.out)))); have n2_ := Aside0.mk (below_step (by repeat (first | (with_reducible first | exact HB.out | apply below_alloc | apply pw_below_drewN | apply below_drew1) | exact HB.out)) hb); clear HO_5; clear HB; have HO_5 := n0_; have HO236 := n1_; have HB := n2_; clear n0_ n1_ n2_; clear hb ho32; obtain ⟨Ao33, co33, eo33⟩ := Kd.R_slice HO_5.out; subst eo33)); try go_wp2_with (first | ((with_reducible refine gate_dst (N := 52) rfl ?_); (try (refine gate_guard (by rfl) ?_; dsimp only)); refine Kd.R_lit k42 _ 42 ?hg (N := 52) ?hd (xs := ([] : List (S42))) (inner := []) (ok := fun _ => True) (okp := fun _ => True) ?hr ?hp (fun _ hk => hk) trivial (Below.refl _ _) (Nat.le_refl _) (by simp) ?_; (case hd => rfl); (case hg => rfl); (case hr => first | (go_simp; done) | (go_simp; rfl)); (case hp => exact (Reps.none _ _)); intro v235 w31 ho32 hb hg_ hnew_; clear hg_ hnew_; (first | rw [← Ny234.out] at ho32 | (simp only [Int.reduceToNat] at ho32; rw [← Ny234.out] at ho32)); have n0_ := Aside0.mk (Kd.R_elder' (by (with_reducible repeat (first | apply Kd.R_alloc | apply Kd.R_drewN | apply Kd.R_drew)); exact HO_5.out) (Kd.R_base ho32) hb); have n1_ := Aside0.mk (Kd.R_lower (Kd.R_new' ho32 (Kd.R_lt (by (with_reducible repeat (first | apply Kd.R_alloc | apply Kd.R_drewN | apply Kd.R_drew)); exact HO_5.out))) (below_size (by repeat (first | (with_reducible first | exact HB.out | apply below_alloc | apply pw_below_drewN | apply below_drew1) | exact HB.out)))); have n2_ := Aside0.mk (below_step (by repeat (first | (with_reducible first | exact HB.out | apply below_alloc | apply pw_below_drewN | apply below_drew1) | exact HB.out)) hb); clear HO_5; clear HB; have HO_5 := n0_; have HO236 := n1_; have HB := n2_; clear n0_ n1_ n2_; clear hb ho32; obtain ⟨Ao33, co33, eo33⟩ := Kd.R_slice HO_5.out; subst eo33)))
            go_loopg [8, 9] kj4 (fun kq v8 v9 w' => ∃ (x8_3 : List (S42)) (x9_3 : Int), v9 = .int .i64 x9_3 ∧ Aside0 (leatref21_Of.l1 kq x5_1 x8_3 x9_3 = some r) ∧ Aside0 (kq ≤ kj4) ∧ Aside0 (Kd.R k42 42 w' w.heap.size (fun k_ => some k_ ≠ (v8 : Value).ownBlock) (.slice Ao33 x5_1.length co33) x5_1) ∧ Aside0 (Kd.R k42 42 w' w.heap.size (fun k_ => some k_ ≠ ((.slice Ao33 x5_1.length co33) : Value).ownBlock) v8 x8_3) ∧ Aside0 (Below w.heap.size w w'))
            case atStart => exact ⟨(y234), (wrap64 ((x5_1.length : Int) - 1)), (by first | rfl | (simp; done) | (simp [*]; done)), H', ⟨Nat.le_refl _⟩, ⟨by (with_reducible repeat (first | apply Kd.R_alloc | apply Kd.R_drewN | apply Kd.R_drew)); exact Kd.R_mono HO_5.out (fun _ hk => hk.2)⟩, ⟨by (with_reducible repeat (first | apply Kd.R_alloc | apply Kd.R_drewN | apply Kd.R_drew)); exact Kd.R_mono HO236.out (fun _ hk => hk.2)⟩, ⟨by repeat (first | (with_reducible first | exact HB.out | apply below_alloc | apply pw_below_drewN | apply below_drew1) | exact HB.out)⟩⟩
            case round =>
              clear H'
              try clear c1
              try clear c2
              try clear p2
              try clear q2
              try clear hx2
              try clear qi2
              try clear c6
              try clear c6b0
              try clear p6
              try clear c8
              try clear c9
              try clear c9b0
              try clear c10
              try clear c10b0
              try clear c14
              try clear c14b0
              try clear c14b1
              try clear c17
              try clear c18
              try clear c18b0
              try clear c18b1
              try clear c19
              try clear c19b0
              try clear c19b1
              try clear c20
              try clear c20b0
              try clear c20b1
              try clear c21
              try clear p22
              try clear q22
              try clear hx22
              try clear qi22
              try clear c23
              try clear c27
              try clear hcz13_0
              try clear hcz13_1
              try clear hcz13_2
              try clear hcz13_3
              try clear hcz13_4
              try clear hcz13_5
              try clear hcz15_0
              try clear hcz15_1
              try clear hcz15_2
              try clear hcz15_3
              try clear hcz15_4
              try clear hcz15_5
              try clear hcz16_0
              try clear hcz16_1
              try clear hcz16_2
              try clear hcz16_3
              try clear hcz16_4
              try clear hcz16_5
              try clear hcz23_0
              try clear hcz23_1
              try clear hcz23_2
              try clear hcz23_3
              try clear hcz23_4
              try clear hcz23_5
              try clear hcz26_0
              try clear hcz26_1
              try clear hcz26_2
              try clear hcz26_3
              try clear hcz26_4
              try clear hcz26_5
              try clear hcz29_0
              try clear hcz29_1
              try clear hcz29_2
              try clear hcz29_3
              try clear hcz29_4
              try clear hcz29_5
              try clear hfz13_0
              try clear hfz13_1
              try clear hfz13_2
              try clear hfz13_3
              try clear hfz13_4
              try clear hfz13_5
              try clear hfz15_0
              try clear hfz15_1
              try clear hfz15_2
              try clear hfz15_3
              try clear hfz15_4
              try clear hfz15_5
              try clear hfz16_0
              try clear hfz16_1
              try clear hfz16_2
              try clear hfz16_3
              try clear hfz16_4
              try clear hfz16_5
              try clear hfz23_0
              try clear hfz23_1
              try clear hfz23_2
              try clear hfz23_3
              try clear hfz23_4
              try clear hfz23_5
              try clear hfz26_0
              try clear hfz26_1
              try clear hfz26_2
              try clear hfz26_3
              try clear hfz26_4
              try clear hfz26_5
              try clear hfz29_0
              try clear hfz29_1
              try clear hfz29_2
              try clear hfz29_3
              try clear hfz29_4
              try clear hfz29_5
              try clear hx225_0
              try clear hx225_1
              try clear hx225_2
              try clear hx225_3
              try clear hx225_4
              try clear hx225_5
              try clear hx227_0
              try clear hx227_1
              try clear hx227_2
              try clear hx227_3
              try clear hx227_4
              try clear hx227_5
              try clear p2
              try clear p225
              try clear p227
              try clear p6
              try clear q2
              try clear q225
              try clear q227
              obtain ⟨x8_3, x9_3, rfl, HA, HK3, HO_5, HO_8, HB⟩ := hrel
              cases gk with
              | zero => exact absurd HA.out (by simp [leatref21_Of.l1])
              | succ k3 =>
                have H := HA.out
                clear HA
                simp only [leatref21_Of.l1] at H
                by_cases c34 : x9_3 ≥ 0
                · rw [if_pos c34] at H
                  have c34b0 : decide (0 ≤ x9_3) = true := decide_eq_true c34
                  clear c34
                  by_cases c35 : 0 ≤ x9_3
                  · rw [if_pos c35] at H
                    have c35b0 : decide (0 ≤ x9_3) = true := decide_eq_true c35
                    clear c35
                    by_cases c36 : x9_3 < (x5_1.length : Int)
                    · rw [if_pos c36] at H
                      have c36b0 : decide (x9_3 < (x5_1.length : Int)) = true := decide_eq_true c36
                      clear c36
                      by_cases c37 : x8_3.length < 3518437208883
                      · rw [if_pos c37] at H
                        have LMc37 := Aside0.mk c37
                        clear c37
                        obtain ⟨y238, hy238⟩ : ∃ y_ : List (S42), y_ = (x8_3 ++ [(⟨(rd_T42 x5_1 x9_3).f0, (rd_T42 x5_1 x9_3).f1, (rd_T42 x5_1 x9_3).f2, (rd_T42 x5_1 x9_3).f3, (rd_T42 x5_1 x9_3).f4, (rd_T42 x5_1 x9_3).f5⟩ : S42)]) := ⟨_, rfl⟩
                        replace H : (leatref21_Of.l1 k3 x5_1 y238 (wrap64 (x9_3 - 1))) = some r := by first | (rw [hy238]; with_reducible exact H) | (have H2_ := (Option.bind_some _ _).symm.trans H; rw [hy238]; with_reducible exact H2_) | (have H2_ := (Option.bind_some _ _).symm.trans H; with_reducible exact H2_) | with_reducible exact H | (rw [hy238]; exact H) | exact H
                        have Ny238 := Aside0.mk hy238
                        clear hy238
                        have H' := Aside0.mk H
                        clear H
                        have p237 : 0 ≤ (x9_3 : Int) := of_decide_eq_true (by first | (with_reducible assumption) | assumption)
                        have q237 : x9_3 < (x5_1.length : Int) := of_decide_eq_true (by first | (with_reducible assumption) | assumption)
                        obtain ⟨ad237, e237, hx237_0, hx237_1, hx237_2, hx237_3, hx237_4, hx237_5⟩ := at_T42 (Kd.R_reads' HO_5.out).2.2 x9_3 p237 q237
                        cases e237
                        replace p237 := eq_true p237
                        replace q237 := eq_true q237
                        go_wp2_with (first | ((with_reducible refine gate_builtin (b := .append) (xs := #[.tmp 60, .tmp 65]) rfl ?_); (try (refine gate_guard (by rfl) ?_; dsimp only)); at_builtin; refine Kd.R_append k42 (w0 := w) w.heap.size rfl (.tmp 60) (.tmp 65) 34 42 (.agg #[(.int .i64 0), (.int .i16 0), (.int .i32 0), (.int .i64 0), (.int .i64 0), (.bool false)]) 40 rfl Try.underlying34 info42 rfl (by decide) (by omega) u8 x8_3 (⟨(rd_T42 x5_1 x9_3).f0, (rd_T42 x5_1 x9_3).f1, (rd_T42 x5_1 x9_3).f2, (rd_T42 x5_1 x9_3).f3, (rd_T42 x5_1 x9_3).f4, (rd_T42 x5_1 x9_3).f5⟩ : S42) [.int .i64 ((rd_T42 x5_1 x9_3).f0), .int .i16 ((rd_T42 x5_1 x9_3).f1), .int .i32 ((rd_T42 x5_1 x9_3).f2), .int .i64 ((rd_T42 x5_1 x9_3).f3), .int .i64 ((rd_T42 x5_1 x9_3).f4), .bool ((rd_T42 x5_1 x9_3).f5)] (fun k_ => some k_ ≠ (.slice (some ad237) x5_1.length co33 : Value).ownBlock) (fun _ => False) rfl rfl ?aP (fun _ hk => hk.elim) ?aF ?aO ?aB ?aS ?aL ?_; (case aP => exact k42_mkM _ _ _ (⟨(rd_T42 x5_1 x9_3).f0, (rd_T42 x5_1 x9_3).f1, (rd_T42 x5_1 x9_3).f2, (rd_T42 x5_1 x9_3).f3, (rd_T42 x5_1 x9_3).f4, (rd_T42 x5_1 x9_3).f5⟩ : S42)); (case aB => exact (by repeat (first | (with_reducible first | exact HB.out | apply below_alloc | apply pw_below_drewN | apply below_drew1) | exact HB.out))); (case aF => exact (fun k_ hk => Kd.fresh' (Kd.R_lt (by (with_reducible repeat (first | apply Kd.R_alloc | apply Kd.R_drewN | apply Kd.R_drew)); exact HO_5.out)) k_ hk)); (case aO => exact (by (with_reducible repeat (first | apply Kd.R_alloc | apply Kd.R_drewN | apply Kd.R_drew)); exact HO_8.out)); (case aS => exact (below_size (by repeat (first | (with_reducible first | exact HB.out | apply below_alloc | apply pw_below_drewN | apply below_drew1) | exact HB.out)))); (case aL => have := LMc37.out; omega); intro v239 w38 ho hb hg hat; rw [← Ny238.out] at ho; have n0_ := Aside0.mk (Kd.R_after (ok := (fun _ => True)) (by (with_reducible repeat (first | apply Kd.R_alloc | apply Kd.R_drewN | apply Kd.R_drew)); exact Kd.R_mono HO_5.out (fun _ hk => ⟨trivial, hk⟩)) hg hat); have n1_ := Aside0.mk (hb); have n2_ := Aside0.mk (ho); clear HO_5; clear HB; clear HO_8; have HO_5 := n0_; have HB := n1_; have HO240 := n2_; clear n0_ n1_ n2_; clear ho hb hg hat))
                        repeat (go_quiet (first | ((with_reducible refine gate_builtin (b := .append) (xs := #[.tmp 60, .tmp 65]) rfl ?_); (try (refine gate_guard (by rfl) ?_; dsimp only)); at_builtin; refine Kd.R_append k42 (w0 := w) w.heap.size rfl (.tmp 60) (.tmp 65) 34 42 (.agg #[(.int .i64 0), (.int .i16 0), (.int .i32 0), (.int .i64 0), (.int .i64 0), (.bool false)]) 40 rfl Try.underlying34 info42 rfl (by decide) (by omega) u8 x8_3 (⟨(rd_T42 x5_1 x9_3).f0, (rd_T42 x5_1 x9_3).f1, (rd_T42 x5_1 x9_3).f2, (rd_T42 x5_1 x9_3).f3, (rd_T42 x5_1 x9_3).f4, (rd_T42 x5_1 x9_3).f5⟩ : S42) [.int .i64 ((rd_T42 x5_1 x9_3).f0), .int .i16 ((rd_T42 x5_1 x9_3).f1), .int .i32 ((rd_T42 x5_1 x9_3).f2), .int .i64 ((rd_T42 x5_1 x9_3).f3), .int .i64 ((rd_T42 x5_1 x9_3).f4), .bool ((rd_T42 x5_1 x9_3).f5)] (fun k_ => some k_ ≠ (.slice (some ad237) x5_1.length co33 : Value).ownBlock) (fun _ => False) rfl rfl ?aP (fun _ hk => hk.elim) ?aF ?aO ?aB ?aS ?aL ?_; (case aP => exact k42_mkM _ _ _ (⟨(rd_T42 x5_1 x9_3).f0, (rd_T42 x5_1 x9_3).f1, (rd_T42 x5_1 x9_3).f2, (rd_T42 x5_1 x9_3).f3, (rd_T42 x5_1 x9_3).f4, (rd_T42 x5_1 x9_3).f5⟩ : S42)); (case aB => exact (by repeat (first | (with_reducible first | exact HB.out | apply below_alloc | apply pw_below_drewN | apply below_drew1) | exact HB.out))); (case aF => exact (fun k_ hk => Kd.fresh' (Kd.R_lt (by (with_reducible repeat (first | apply Kd.R_alloc | apply Kd.R_drewN | apply Kd.R_drew)); exact HO_5.out)) k_ hk)); (case aO => exact (by (with_reducible repeat (first | apply Kd.R_alloc | apply Kd.R_drewN | apply Kd.R_drew)); exact HO_8.out)); (case aS => exact (below_size (by repeat (first | (with_reducible first | exact HB.out | apply below_alloc | apply pw_below_drewN | apply below_drew1) | exact HB.out)))); (case aL => have := LMc37.out; omega); intro v239 w38 ho hb hg hat; rw [← Ny238.out] at ho; have n0_ := Aside0.mk (Kd.R_after (ok := (fun _ => True)) (by (with_reducible repeat (first | apply Kd.R_alloc | apply Kd.R_drewN | apply Kd.R_drew)); exact Kd.R_mono HO_5.out (fun _ hk => ⟨trivial, hk⟩)) hg hat); have n1_ := Aside0.mk (hb); have n2_ := Aside0.mk (ho); clear HO_5; clear HB; clear HO_8; have HO_5 := n0_; have HB := n1_; have HO240 := n2_; clear n0_ n1_ n2_; clear ho hb hg hat)); try go_wp2_with (first | ((with_reducible refine gate_builtin (b := .append) (xs := #[.tmp 60, .tmp 65]) rfl ?_); (try (refine gate_guard (by rfl) ?_; dsimp only)); at_builtin; refine Kd.R_append k42 (w0 := w) w.heap.size rfl (.tmp 60) (.tmp 65) 34 42 (.agg #[(.int .i64 0), (.int .i16 0), (.int .i32 0), (.int .i64 0), (.int .i64 0), (.bool false)]) 40 rfl Try.underlying34 info42 rfl (by decide) (by omega) u8 x8_3 (⟨(rd_T42 x5_1 x9_3).f0, (rd_T42 x5_1 x9_3).f1, (rd_T42 x5_1 x9_3).f2, (rd_T42 x5_1 x9_3).f3, (rd_T42 x5_1 x9_3).f4, (rd_T42 x5_1 x9_3).f5⟩ : S42) [.int .i64 ((rd_T42 x5_1 x9_3).f0), .int .i16 ((rd_T42 x5_1 x9_3).f1), .int .i32 ((rd_T42 x5_1 x9_3).f2), .int .i64 ((rd_T42 x5_1 x9_3).f3), .int .i64 ((rd_T42 x5_1 x9_3).f4), .bool ((rd_T42 x5_1 x9_3).f5)] (fun k_ => some k_ ≠ (.slice (some ad237) x5_1.length co33 : Value).ownBlock) (fun _ => False) rfl rfl ?aP (fun _ hk => hk.elim) ?aF ?aO ?aB ?aS ?aL ?_; (case aP => exact k42_mkM _ _ _ (⟨(rd_T42 x5_1 x9_3).f0, (rd_T42 x5_1 x9_3).f1, (rd_T42 x5_1 x9_3).f2, (rd_T42 x5_1 x9_3).f3, (rd_T42 x5_1 x9_3).f4, (rd_T42 x5_1 x9_3).f5⟩ : S42)); (case aB => exact (by repeat (first | (with_reducible first | exact HB.out | apply below_alloc | apply pw_below_drewN | apply below_drew1) | exact HB.out))); (case aF => exact (fun k_ hk => Kd.fresh' (Kd.R_lt (by (with_reducible repeat (first | apply Kd.R_alloc | apply Kd.R_drewN | apply Kd.R_drew)); exact HO_5.out)) k_ hk)); (case aO => exact (by (with_reducible repeat (first | apply Kd.R_alloc | apply Kd.R_drewN | apply Kd.R_drew)); exact HO_8.out)); (case aS => exact (below_size (by repeat (first | (with_reducible first | exact HB.out | apply below_alloc | apply pw_below_drewN | apply below_drew1) | exact HB.out)))); (case aL => have := LMc37.out; omega); intro v239 w38 ho hb hg hat; rw [← Ny238.out] at ho; have n0_ := Aside0.mk (Kd.R_after (ok := (fun _ => True)) (by (with_reducible repeat (first | apply Kd.R_alloc | apply Kd.R_drewN | apply Kd.R_drew)); exact Kd.R_mono HO_5.out (fun _ hk => ⟨trivial, hk⟩)) hg hat); have n1_ := Aside0.mk (hb); have n2_ := Aside0.mk (ho); clear HO_5; clear HB; clear HO_8; have HO_5 := n0_; have HB := n1_; have HO240 := n2_; clear n0_ n1_ n2_; clear ho hb hg hat)))
                        go_roundg k3
                        case measure => have := HK1.out; have := HJ4.out; have := HK3.out; omega
                        case rel => exact ⟨(y238), (wrap64 (x9_3 - 1)), (by first | rfl | (simp; done) | (simp [*]; done)), H', ⟨by have := HK1.out; have := HJ4.out; have := HK3.out; omega⟩, ⟨by (with_reducible repeat (first | apply Kd.R_alloc | apply Kd.R_drewN | apply Kd.R_drew)); exact Kd.R_mono HO_5.out (fun _ hk => hk.2)⟩, ⟨by (with_reducible repeat (first | apply Kd.R_alloc | apply Kd.R_drewN | apply Kd.R_drew)); exact HO240.out⟩, ⟨by repeat (first | (with_reducible first | exact HB.out | apply below_alloc | apply pw_below_drewN | apply below_drew1) | exact HB.out)⟩⟩
                      · rw [if_neg c37] at H
                        exact absurd H (by simp)
                    · rw [if_neg c36] at H
                      exact absurd H (by simp)
                  · rw [if_neg c35] at H
                    exact absurd H (by simp)
                · rw [if_neg c34] at H
                  have c34b0 : decide (0 ≤ x9_3) = false := decide_eq_false c34
                  clear c34
                  obtain rfl := Option.some.inj H
                  go_wp2
                  repeat (go_quiet (fail); try go_wp2)
                  go_ret
                  exact ⟨_, by first | rfl | (simp [errW_none, errW_some] <;> rfl) | (simp [*, errW_none, errW_some] <;> rfl), by (with_reducible repeat (first | apply Kd.R_alloc | apply Kd.R_drewN | apply Kd.R_drew)); exact Kd.R_mono HO_8.out (fun _ hk => trivial), by repeat (first | (with_reducible first | exact HB.out | apply below_alloc | apply pw_below_drewN | apply below_drew1) | exact HB.out)⟩

end Go.Proofs.Ytnooekflmjebiaa.PIdemPlays
