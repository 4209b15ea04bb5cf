-- PRINTED BY print.sh 35421559b90ae4d0a3588c463048766b98c2df88dd9212a6774a882060cdf62d: not written by this session
import Derived.Test.YtnooekflmjebiaaPIdemPlaysx0
namespace Go.Proofs.Ytnooekflmjebiaa.PIdemPlays
open Go.RowKit Go.Proofs.YtnooekflmjebiaaW.PrintWords Go.Proofs.YtnooekflmjebiaaW.PrintLast Go.Proofs.YtnooekflmjebiaaW.PrintMore
attribute [local go_sem] max2_int min2_int max_two min_two max_three min_three max_four min_four   -- for this text's walks alone
set_option linter.unusedVariables false
set_option linter.unusedSimpArgs false

/-! ### leatref21_known: function 34 -/
def leatref21_known.l0 : Nat → List (S42) → Int → Int → Int → List Int → List Int → List Int → Option (Int × Int × List Int × List Int × List Int)
  | 0, _, _, _, _, _, _, _ => none
  | k + 1, x0, x4, x295000, x295001, x295002, x295003, x295004 => if x4 < (x0.length : Int) then (if 0 ≤ x4 then (if x295002.length < 35184372088832 then (if x295003.length < 17592186044416 then (if x295004.length < 17592186044416 then (leatref21_known.l0 k x0 (wrap64 (x4 + 1)) ((rd_T42 x0 x4).f0) ((rd_T42 x0 x4).f1) (x295002 ++ [(rd_T42 x0 x4).f2]) (x295003 ++ [(rd_T42 x0 x4).f3]) (x295004 ++ [(rd_T42 x0 x4).f4])) else (none)) else (none)) else (none)) else (none)) else (some (x295000, x295001, x295002, x295003, x295004))
def leatref21_known.f (k : Nat) (l0 : List (S42)) : Option (Int × Int × List Int × List Int × List Int) := leatref21_known.l0 k l0 0 0 0 ([] : List Int) ([] : List Int) ([] : List Int)
theorem leatref21_known.mono_l : ∀ k, (∀ y0 y1 y2 y3 y4 y5 y6, LeO (leatref21_known.l0 k y0 y1 y2 y3 y4 y5 y6) (leatref21_known.l0 (k + 1) y0 y1 y2 y3 y4 y5 y6))
  | 0 => fun _ _ _ _ _ _ _ r h => by simp [leatref21_known.l0] at h
  | k + 1 => by
    have ih0 := leatref21_known.mono_l k
    · intro y0 y1 y2 y3 y4 y5 y6
      unfold leatref21_known.l0
      repeat' first
      | (with_reducible exact ih0 _ _ _ _ _ _ _)
      | (with_reducible exact LeO.refl _)
      | (with_reducible exact LeO.none _)
      | (with_reducible refine LeO.ite ?_ ?_)
      | (with_reducible refine LeO.bind ?_ (fun _ => ?_))
      | exact ih0 _ _ _ _ _ _ _
      | exact LeO.none _
      | refine LeO.ite ?_ ?_
      | refine LeO.bind ?_ (fun _ => ?_)
theorem leatref21_known.mono : ∀ a0 k, LeO (leatref21_known.f k a0) (leatref21_known.f (k + 1) a0) := by
  intro a0 k
  have ih0 := leatref21_known.mono_l k
  unfold leatref21_known.f
  repeat' first
      | (with_reducible exact ih0 _ _ _ _ _ _ _)
      | (with_reducible exact LeO.refl _)
      | (with_reducible exact LeO.none _)
      | (with_reducible refine LeO.ite ?_ ?_)
      | (with_reducible refine LeO.bind ?_ (fun _ => ?_))
      | exact ih0 _ _ _ _ _ _ _
      | exact LeO.none _
      | refine LeO.ite ?_ ?_
      | refine LeO.bind ?_ (fun _ => ?_)
def leatref21_known.T7 : Bool × List (List Nat × List Nat) := (true, [([], []), ([0], [0]), ([], []), ([], []), ([2, 3], [2, 3]), ([4], [4]), ([5], [5]), ([6], [6]), ([1, 7], [1, 7]), ([0, 1, 2, 3, 4, 5, 6, 7, 8], []), ([9, 8, 8, 0, 1, 2, 3, 4, 5, 6, 7, 8], [8, 9])])
def leatref21_known.B7 : List Nat := [0, 1, 0, 0, 12, 28, 60, 124, 255, 511, 1023]
theorem leatref21_known.tab7 : rtab .any (opsOf Try.f34 7) = leatref21_known.T7 := by kernel_rfl
theorem leatref21_known.bits7 : waitsOk leatref21_known.T7.2 leatref21_known.B7 = true := by kernel_rfl
def leatref21_known.T8 : Bool × List (List Nat × List Nat) := (true, [([], []), ([0], [0]), ([], []), ([], []), ([2, 3], [2, 3]), ([4], [4]), ([5], [5]), ([6], [6]), ([1, 7], [1, 7]), ([0, 1, 2, 3, 4, 5, 6, 7, 8], []), ([9, 8, 8, 0, 1, 2, 3, 4, 5, 6, 7, 8], [8, 9])])
def leatref21_known.B8 : List Nat := [0, 1, 0, 0, 12, 28, 60, 124, 255, 511, 1023]
theorem leatref21_known.tab8 : rtab .any (opsOf Try.f34 8) = leatref21_known.T8 := by kernel_rfl
theorem leatref21_known.bits8 : waitsOk leatref21_known.T8.2 leatref21_known.B8 = true := by kernel_rfl
def leatref21_known.T9 : Bool × List (List Nat × List Nat) := (true, [([], []), ([0], [0]), ([], []), ([], []), ([2, 3], [2, 3]), ([4], [4]), ([5], [5]), ([6], [6]), ([1, 7], [1, 7]), ([0, 1, 2, 3, 4, 5, 6, 7, 8], []), ([9, 8, 8, 0, 1, 2, 3, 4, 5, 6, 7, 8], [8, 9])])
def leatref21_known.B9 : List Nat := [0, 1, 0, 0, 12, 28, 60, 124, 255, 511, 1023]
theorem leatref21_known.tab9 : rtab .any (opsOf Try.f34 9) = leatref21_known.T9 := by kernel_rfl
theorem leatref21_known.bits9 : waitsOk leatref21_known.T9.2 leatref21_known.B9 = true := by kernel_rfl
set_option maxHeartbeats 8000000 in
set_option maxRecDepth 100000 in
theorem leatref21_known.calls (k : Nat) (A0 : Option Addr) (c0 : Nat) (l0 : List (S42)) (r1 : Int) (r2 : Int) (r3 : List Int) (r4 : List Int) (r5 : List Int) (w : World) (hr0 : Kd.C k42 w A0 l0.length l0) (hc0 : l0.length ≤ c0) (h : leatref21_known.f k l0 = some (r1, r2, r3, r4, r5)) :
    Calls Try.prog 34 #[.slice A0 l0.length c0] w fun e w' => ∃ v2_ v3_ v4_ : Value, e = .returned (.agg #[.int .i64 r1, .int .i16 r2, v2_, v3_, v4_]) ∧ Kd.R (Kd.int .i32) 21 w' w.heap.size (fun _ => True) v2_ r3 ∧ Kd.R (Kd.int .i64) 3 w' w.heap.size (fun _ => True) v3_ r4 ∧ Kd.R (Kd.int .i64) 2 w' w.heap.size (fun _ => True) v4_ r5 ∧ Below w.heap.size w w' := by
  have hu52 := Try.underlying52
  have HR0 := Aside0.mk hr0
  have HC0 := Aside0.mk hc0
  clear hr0 hc0
  have HB := Aside0.mk (Below.refl w.heap.size w)
  have H : (leatref21_known.l0 k l0 0 0 0 ([] : List Int) ([] : List Int) ([] : List Int)) = some (r1, r2, r3, r4, r5) := h
  clear h
  have H' := Aside0.mk H
  clear H
  go_enter Try.func34, Try.ntmps34
  go_wp2_with (first | ((with_reducible refine gate_dst (N := 2) rfl ?_); refine box_event ?hg (N := 2) ?hd (cs := #[.int .i64 0, .int .i16 0, .slice none 0 0, .slice none 0 0, .slice none 0 0]) (t := 52) ?hr ?_; (case hd => rfl); (case hg => rfl); (case hr => first | (go_simp; done) | (go_simp; rfl)); intro gb293 hg w2 hbox hb; have n0_ := Aside0.mk (below_step (by repeat (first | (with_reducible first | exact HB.out | apply below_alloc | apply pw_below_drewN | apply below_drew1) | exact HB.out)) hb); have n1_ := Aside0.mk (hbox); have n2_ := Aside0.mk ((by rw [hg]; exact (below_size (by repeat (first | (with_reducible first | exact HB.out | apply below_alloc | apply pw_below_drewN | apply below_drew1) | exact HB.out))) : w.heap.size ≤ gb293)); have n3_ := Aside0.mk ((by rw [hg]; exact (below_size (by repeat (first | (with_reducible first | exact HB.out | apply below_alloc | apply pw_below_drewN | apply below_drew1) | exact HB.out))) : w.heap.size ≤ gb293)); clear HB; have HB := n0_; have BK293 := n1_; have GW293 := n2_; have GE293 := n3_; clear n0_ n1_ n2_ n3_; clear hb hbox hg) | ((with_reducible refine gate_dst (N := 3) rfl ?_); refine box_event ?hg (N := 3) ?hd (cs := #[.int .i64 0, .int .i16 0, .slice none 0 0, .slice none 0 0, .slice none 0 0]) (t := 52) ?hr ?_; (case hd => rfl); (case hg => rfl); (case hr => first | (go_simp; done) | (go_simp; rfl)); intro gb294 hg w3 hbox hb; have n0_ := Aside0.mk (blk_below (g := gb293) (o := .cells #[.int .i64 0, .int .i16 0, .slice none 0 0, .slice none 0 0, .slice none 0 0] 52 (0, 0)) (by (with_reducible repeat (first | refine blk_drewN ?_ _ | refine blk_drew ?_ | refine blk_alloc ?_ _)); exact BK293.out) hb); have n1_ := Aside0.mk (below_step (by repeat (first | (with_reducible first | exact HB.out | apply below_alloc | apply pw_below_drewN | apply below_drew1 | refine below_set ?_ GE293.out) | exact HB.out)) hb); have n2_ := Aside0.mk (hbox); have n3_ := Aside0.mk ((by rw [hg]; exact (below_size (by repeat (first | (with_reducible first | exact HB.out | apply below_alloc | apply pw_below_drewN | apply below_drew1 | refine below_set ?_ GE293.out) | exact HB.out))) : w.heap.size ≤ gb294)); have n4_ := Aside0.mk ((by rw [hg]; exact (below_size (by repeat (first | (with_reducible first | exact HB.out | apply below_alloc | apply pw_below_drewN | apply below_drew1 | refine below_set ?_ GE293.out) | exact HB.out))) : w.heap.size ≤ gb294)); have n5_ := Aside0.mk ((by rw [hg]; exact Nat.ne_of_lt (blk_lt (g := gb293) (o := .cells #[.int .i64 0, .int .i16 0, .slice none 0 0, .slice none 0 0, .slice none 0 0] 52 (0, 0)) (by (with_reducible repeat (first | refine blk_drewN ?_ _ | refine blk_drew ?_ | refine blk_alloc ?_ _)); exact BK293.out)) : gb293 ≠ gb294)); have n6_ := Aside0.mk ((by rw [hg]; exact Nat.ne_of_gt (blk_lt (g := gb293) (o := .cells #[.int .i64 0, .int .i16 0, .slice none 0 0, .slice none 0 0, .slice none 0 0] 52 (0, 0)) (by (with_reducible repeat (first | refine blk_drewN ?_ _ | refine blk_drew ?_ | refine blk_alloc ?_ _)); exact BK293.out)) : gb294 ≠ gb293)); clear BK293; clear HB; have BK293 := n0_; have HB := n1_; have BK294 := n2_; have GW294 := n3_; have GE294 := n4_; have NB293_294 := n5_; have NB294_293 := n6_; clear n0_ n1_ n2_ n3_ n4_ n5_ n6_; clear hb hbox hg; have hnb4 := NB294_293.out; have hnc4 := NB293_294.out; have hcz5_0 : w3.cell? ⟨gb294, 0, none⟩ = some (.int .i64 0) := (blk_cell BK294.out 0).trans rfl; have hcz5_1 : w3.cell? ⟨gb294, 1, none⟩ = some (.int .i16 0) := (blk_cell BK294.out 1).trans rfl; have hcz5_2 : w3.cell? ⟨gb294, 2, none⟩ = some (.slice none 0 0) := (blk_cell BK294.out 2).trans rfl; have hcz5_3 : w3.cell? ⟨gb294, 3, none⟩ = some (.slice none 0 0) := (blk_cell BK294.out 3).trans rfl; have hcz5_4 : w3.cell? ⟨gb294, 4, none⟩ = some (.slice none 0 0) := (blk_cell BK294.out 4).trans rfl; have hfz5_0 := blk_frozen BK294.out 0; have hfz5_1 := blk_frozen BK294.out 1; have hfz5_2 := blk_frozen BK294.out 2; have hfz5_3 := blk_frozen BK294.out 3; have hfz5_4 := blk_frozen BK294.out 4))
  go_loopg [4] k (fun kq v4 w' => ∃ (x4_1 : Int) (x295000_1 : Int) (x295001_1 : Int) (x295002_1 : List Int) (x295003_1 : List Int) (x295004_1 : List Int) (u295002 : Value) (u295003 : Value) (u295004 : Value), v4 = .int .i64 x4_1 ∧ Aside0 (leatref21_known.l0 kq l0 x4_1 x295000_1 x295001_1 x295002_1 x295003_1 x295004_1 = some (r1, r2, r3, r4, r5)) ∧ Aside0 (kq ≤ k) ∧ Aside0 (Kd.R (Kd.int .i32) 21 w' w.heap.size (fun _ => True) u295002 x295002_1) ∧ Aside0 (Kd.R (Kd.int .i64) 3 w' w.heap.size (fun _ => True) u295003 x295003_1) ∧ Aside0 (Kd.R (Kd.int .i64) 2 w' w.heap.size (fun _ => True) u295004 x295004_1) ∧ Aside0 (w'.heap[gb293]? = some (.cells #[.int .i64 0, .int .i16 0, (.slice none 0 0), (.slice none 0 0), (.slice none 0 0)] 52 (0, 0))) ∧ Aside0 (w'.heap[gb294]? = some (.cells #[.int .i64 x295000_1, .int .i16 x295001_1, u295002, u295003, u295004] 52 (0, 0))) ∧ Aside0 (Below w.heap.size w w'))
  case atStart => exact ⟨(0), (0), (0), (([] : List Int)), (([] : List Int)), (([] : List Int)), (.slice none 0 0), (.slice none 0 0), (.slice none 0 0), (by first | rfl | (simp; done) | (simp [*]; done)), H', ⟨Nat.le_refl _⟩, ⟨by first | exact Kd.R_nil _ _ _ _ _ | exact Kd.N_nil _ _ _ _ _ | exact Kd.V_nil _ _ _ _ _ | exact Kd.Q_nil _ _ _ _ _ | exact Kd.S_nil _ _ _ _ _⟩, ⟨by first | exact Kd.R_nil _ _ _ _ _ | exact Kd.N_nil _ _ _ _ _ | exact Kd.V_nil _ _ _ _ _ | exact Kd.Q_nil _ _ _ _ _ | exact Kd.S_nil _ _ _ _ _⟩, ⟨by first | exact Kd.R_nil _ _ _ _ _ | exact Kd.N_nil _ _ _ _ _ | exact Kd.V_nil _ _ _ _ _ | exact Kd.Q_nil _ _ _ _ _ | exact Kd.S_nil _ _ _ _ _⟩, ⟨by (with_reducible repeat (first | refine blk_drewN ?_ _ | refine blk_drew ?_ | refine blk_alloc ?_ _)); refine blk_far ?_ NB293_294.out _; (with_reducible repeat (first | refine blk_drewN ?_ _ | refine blk_drew ?_ | refine blk_alloc ?_ _)); refine blk_far ?_ NB293_294.out _; (with_reducible repeat (first | refine blk_drewN ?_ _ | refine blk_drew ?_ | refine blk_alloc ?_ _)); refine blk_far ?_ NB293_294.out _; (with_reducible repeat (first | refine blk_drewN ?_ _ | refine blk_drew ?_ | refine blk_alloc ?_ _)); refine blk_far ?_ NB293_294.out _; (with_reducible repeat (first | refine blk_drewN ?_ _ | refine blk_drew ?_ | refine blk_alloc ?_ _)); refine blk_far ?_ NB293_294.out _; (with_reducible repeat (first | refine blk_drewN ?_ _ | refine blk_drew ?_ | refine blk_alloc ?_ _)); exact BK293.out⟩, ⟨by (with_reducible repeat (first | refine blk_drewN ?_ _ | refine blk_drew ?_ | refine blk_alloc ?_ _)); refine blk_put (cs := #[.int .i64 0, .int .i16 0, .slice none 0 0, .slice none 0 0, .slice none 0 0]) ?_ 4 _ rfl; (with_reducible repeat (first | refine blk_drewN ?_ _ | refine blk_drew ?_ | refine blk_alloc ?_ _)); refine blk_put (cs := #[.int .i64 0, .int .i16 0, .slice none 0 0, .slice none 0 0, .slice none 0 0]) ?_ 3 _ rfl; (with_reducible repeat (first | refine blk_drewN ?_ _ | refine blk_drew ?_ | refine blk_alloc ?_ _)); refine blk_put (cs := #[.int .i64 0, .int .i16 0, .slice none 0 0, .slice none 0 0, .slice none 0 0]) ?_ 2 _ rfl; (with_reducible repeat (first | refine blk_drewN ?_ _ | refine blk_drew ?_ | refine blk_alloc ?_ _)); refine blk_put (cs := #[.int .i64 0, .int .i16 0, .slice none 0 0, .slice none 0 0, .slice none 0 0]) ?_ 1 _ rfl; (with_reducible repeat (first | refine blk_drewN ?_ _ | refine blk_drew ?_ | refine blk_alloc ?_ _)); refine blk_put (cs := #[.int .i64 0, .int .i16 0, .slice none 0 0, .slice none 0 0, .slice none 0 0]) ?_ 0 _ rfl; (with_reducible repeat (first | refine blk_drewN ?_ _ | refine blk_drew ?_ | refine blk_alloc ?_ _)); exact BK294.out⟩, ⟨by repeat (first | (with_reducible first | exact HB.out | apply below_alloc | apply pw_below_drewN | apply below_drew1 | refine below_set ?_ GE293.out | refine below_set ?_ GE294.out) | exact HB.out)⟩⟩
  case round =>
    clear H'
    try clear p2
    try clear c3
    try clear c4
    try clear hcz5_0
    try clear hcz5_1
    try clear hcz5_2
    try clear hcz5_3
    try clear hcz5_4
    try clear hfz5_0
    try clear hfz5_1
    try clear hfz5_2
    try clear hfz5_3
    try clear hfz5_4
    obtain ⟨x4_1, x295000_1, x295001_1, x295002_1, x295003_1, x295004_1, u295002, u295003, u295004, rfl, HA, HK1, HO_295002, HO_295003, HO_295004, BK293, BK294, HB⟩ := hrel
    cases gk with
    | zero => exact absurd HA.out (by simp [leatref21_known.l0])
    | succ k1 =>
      have H := HA.out
      clear HA
      simp only [leatref21_known.l0] at H
      by_cases c6 : x4_1 < (l0.length : Int)
      · rw [if_pos c6] at H
        have c6b0 : decide (x4_1 < (l0.length : Int)) = true := decide_eq_true c6
        clear c6
        by_cases c7 : 0 ≤ x4_1
        · rw [if_pos c7] at H
          have c7b0 : decide (0 ≤ x4_1) = true := decide_eq_true c7
          clear c7
          by_cases c8 : x295002_1.length < 35184372088832
          · rw [if_pos c8] at H
            have LMc8 := Aside0.mk c8
            clear c8
            obtain ⟨y298, hy298⟩ : ∃ y_ : List Int, y_ = (x295002_1 ++ [(rd_T42 l0 x4_1).f2]) := ⟨_, rfl⟩
            replace H : (if x295003_1.length < 17592186044416 then (if x295004_1.length < 17592186044416 then (leatref21_known.l0 k1 l0 (wrap64 (x4_1 + 1)) ((rd_T42 l0 x4_1).f0) ((rd_T42 l0 x4_1).f1) y298 (x295003_1 ++ [(rd_T42 l0 x4_1).f3]) (x295004_1 ++ [(rd_T42 l0 x4_1).f4])) else (none)) else (none)) = some (r1, r2, r3, r4, r5) := by first | (rw [hy298]; with_reducible exact H) | (have H2_ := (Option.bind_some _ _).symm.trans H; rw [hy298]; with_reducible exact H2_) | (have H2_ := (Option.bind_some _ _).symm.trans H; with_reducible exact H2_) | with_reducible exact H | (rw [hy298]; exact H) | exact H
            have Ny298 := Aside0.mk hy298
            clear hy298
            by_cases c9 : x295003_1.length < 17592186044416
            · rw [if_pos c9] at H
              have LMc9 := Aside0.mk c9
              clear c9
              obtain ⟨y302, hy302⟩ : ∃ y_ : List Int, y_ = (x295003_1 ++ [(rd_T42 l0 x4_1).f3]) := ⟨_, rfl⟩
              replace H : (if x295004_1.length < 17592186044416 then (leatref21_known.l0 k1 l0 (wrap64 (x4_1 + 1)) ((rd_T42 l0 x4_1).f0) ((rd_T42 l0 x4_1).f1) y298 y302 (x295004_1 ++ [(rd_T42 l0 x4_1).f4])) else (none)) = some (r1, r2, r3, r4, r5) := by first | (rw [hy302]; with_reducible exact H) | (have H2_ := (Option.bind_some _ _).symm.trans H; rw [hy302]; with_reducible exact H2_) | (have H2_ := (Option.bind_some _ _).symm.trans H; with_reducible exact H2_) | with_reducible exact H | (rw [hy302]; exact H) | exact H
              have Ny302 := Aside0.mk hy302
              clear hy302
              by_cases c10 : x295004_1.length < 17592186044416
              · rw [if_pos c10] at H
                have LMc10 := Aside0.mk c10
                clear c10
                obtain ⟨y306, hy306⟩ : ∃ y_ : List Int, y_ = (x295004_1 ++ [(rd_T42 l0 x4_1).f4]) := ⟨_, rfl⟩
                replace H : (leatref21_known.l0 k1 l0 (wrap64 (x4_1 + 1)) ((rd_T42 l0 x4_1).f0) ((rd_T42 l0 x4_1).f1) y298 y302 y306) = some (r1, r2, r3, r4, r5) := by first | (rw [hy306]; with_reducible exact H) | (have H2_ := (Option.bind_some _ _).symm.trans H; rw [hy306]; with_reducible exact H2_) | (have H2_ := (Option.bind_some _ _).symm.trans H; with_reducible exact H2_) | with_reducible exact H | (rw [hy306]; exact H) | exact H
                have Ny306 := Aside0.mk hy306
                clear hy306
                have H' := Aside0.mk H
                clear H
                have p295 : 0 ≤ (x4_1 : Int) := of_decide_eq_true (by first | (with_reducible assumption) | assumption)
                have q295 : x4_1 < (l0.length : Int) := of_decide_eq_true (by first | (with_reducible assumption) | assumption)
                obtain ⟨ad295, e295, hx295_0, hx295_1, hx295_2, hx295_3, hx295_4, hx295_5⟩ := at_T42 HR0.out x4_1 p295 q295
                cases e295
                replace hx295_0 := (HB.out.cell (World.block_lt_of_cell? w _ hx295_0)).trans hx295_0
                replace hx295_1 := (HB.out.cell (World.block_lt_of_cell? w _ hx295_1)).trans hx295_1
                replace hx295_2 := (HB.out.cell (World.block_lt_of_cell? w _ hx295_2)).trans hx295_2
                replace hx295_3 := (HB.out.cell (World.block_lt_of_cell? w _ hx295_3)).trans hx295_3
                replace hx295_4 := (HB.out.cell (World.block_lt_of_cell? w _ hx295_4)).trans hx295_4
                replace hx295_5 := (HB.out.cell (World.block_lt_of_cell? w _ hx295_5)).trans hx295_5
                replace p295 := eq_true p295
                replace q295 := eq_true q295
                have hnb11 := NB294_293.out
                have hnc11 := NB293_294.out
                have hcz12_0 : wr.cell? ⟨gb294, 0, none⟩ = some (.int .i64 x295000_1) := (blk_cell BK294.out 0).trans rfl
                have hcz12_1 : wr.cell? ⟨gb294, 1, none⟩ = some (.int .i16 x295001_1) := (blk_cell BK294.out 1).trans rfl
                have hcz12_2 : wr.cell? ⟨gb294, 2, none⟩ = some (u295002) := (blk_cell BK294.out 2).trans rfl
                have hcz12_3 : wr.cell? ⟨gb294, 3, none⟩ = some (u295003) := (blk_cell BK294.out 3).trans rfl
                have hcz12_4 : wr.cell? ⟨gb294, 4, none⟩ = some (u295004) := (blk_cell BK294.out 4).trans rfl
                have hfz12_0 := blk_frozen BK294.out 0
                have hfz12_1 := blk_frozen BK294.out 1
                have hfz12_2 := blk_frozen BK294.out 2
                have hfz12_3 := blk_frozen BK294.out 3
                have hfz12_4 := blk_frozen BK294.out 4
                have p296 : 0 ≤ (x4_1 : Int) := of_decide_eq_true (by first | (with_reducible assumption) | assumption)
                have q296 : x4_1 < (l0.length : Int) := of_decide_eq_true (by first | (with_reducible assumption) | assumption)
                obtain ⟨ad296, e296, hx296_0, hx296_1, hx296_2, hx296_3, hx296_4, hx296_5⟩ := at_T42 HR0.out x4_1 p296 q296
                obtain rfl : ad295 = ad296 := (by injection e296)
                have hn296_0 : ad295.block ≠ gb294 := Nat.ne_of_lt (Nat.lt_of_lt_of_le (by have := World.block_lt_of_cell? _ _ hx296_0; first | rwa [add_block] at this | exact this) GW294.out)
                replace hx296_0 := (HB.out.cell (World.block_lt_of_cell? w _ hx296_0)).trans hx296_0
                replace hx296_1 := (HB.out.cell (World.block_lt_of_cell? w _ hx296_1)).trans hx296_1
                replace hx296_2 := (HB.out.cell (World.block_lt_of_cell? w _ hx296_2)).trans hx296_2
                replace hx296_3 := (HB.out.cell (World.block_lt_of_cell? w _ hx296_3)).trans hx296_3
                replace hx296_4 := (HB.out.cell (World.block_lt_of_cell? w _ hx296_4)).trans hx296_4
                replace hx296_5 := (HB.out.cell (World.block_lt_of_cell? w _ hx296_5)).trans hx296_5
                replace hx296_0 := (cell_far (p := ⟨gb294, 0, none⟩) (by first | (rw [add_block]; exact hn296_0) | (show (Addr.add _ _).block ≠ _; rw [add_block]; exact hn296_0) | exact hn296_0) (.int .i64 ((rd_T42 l0 x4_1).f0))).trans hx296_0
                replace hx296_1 := (cell_far (p := ⟨gb294, 0, none⟩) (by first | (rw [add_block]; exact hn296_0) | (show (Addr.add _ _).block ≠ _; rw [add_block]; exact hn296_0) | exact hn296_0) (.int .i64 ((rd_T42 l0 x4_1).f0))).trans hx296_1
                replace hx296_2 := (cell_far (p := ⟨gb294, 0, none⟩) (by first | (rw [add_block]; exact hn296_0) | (show (Addr.add _ _).block ≠ _; rw [add_block]; exact hn296_0) | exact hn296_0) (.int .i64 ((rd_T42 l0 x4_1).f0))).trans hx296_2
                replace hx296_3 := (cell_far (p := ⟨gb294, 0, none⟩) (by first | (rw [add_block]; exact hn296_0) | (show (Addr.add _ _).block ≠ _; rw [add_block]; exact hn296_0) | exact hn296_0) (.int .i64 ((rd_T42 l0 x4_1).f0))).trans hx296_3
                replace hx296_4 := (cell_far (p := ⟨gb294, 0, none⟩) (by first | (rw [add_block]; exact hn296_0) | (show (Addr.add _ _).block ≠ _; rw [add_block]; exact hn296_0) | exact hn296_0) (.int .i64 ((rd_T42 l0 x4_1).f0))).trans hx296_4
                replace hx296_5 := (cell_far (p := ⟨gb294, 0, none⟩) (by first | (rw [add_block]; exact hn296_0) | (show (Addr.add _ _).block ≠ _; rw [add_block]; exact hn296_0) | exact hn296_0) (.int .i64 ((rd_T42 l0 x4_1).f0))).trans hx296_5
                clear hn296_0
                replace p296 := eq_true p296
                replace q296 := eq_true q296
                try go_wp2
                have n0_ : Aside0 (Kd.R (Kd.int .i32) 21 ((wr.setCell ⟨gb294, 0, none⟩ (.int .i64 ((rd_T42 l0 x4_1).f0))).setCell ⟨gb294, 1, none⟩ (.int .i16 ((rd_T42 l0 x4_1).f1))) w.heap.size (fun _ => True) u295002 x295002_1) := ⟨by (with_reducible repeat (first | apply Kd.R_alloc | apply Kd.R_drewN | apply Kd.R_drew)); exact Kd.R_mono (Kd.R_far (p := ⟨gb294, 1, none⟩) (Kd.R_far (p := ⟨gb294, 0, none⟩) (Kd.R_types HO_295002.out BK294.out (by decide)) (fun _ hk => hk.2) (.int .i64 ((rd_T42 l0 x4_1).f0))) (fun _ hk => hk.2) (.int .i16 ((rd_T42 l0 x4_1).f1))) (fun _ hk => trivial)⟩
                have n1_ : Aside0 (Kd.R (Kd.int .i64) 3 ((wr.setCell ⟨gb294, 0, none⟩ (.int .i64 ((rd_T42 l0 x4_1).f0))).setCell ⟨gb294, 1, none⟩ (.int .i16 ((rd_T42 l0 x4_1).f1))) w.heap.size (fun _ => True) u295003 x295003_1) := ⟨by (with_reducible repeat (first | apply Kd.R_alloc | apply Kd.R_drewN | apply Kd.R_drew)); exact Kd.R_mono (Kd.R_far (p := ⟨gb294, 1, none⟩) (Kd.R_far (p := ⟨gb294, 0, none⟩) (Kd.R_types HO_295003.out BK294.out (by decide)) (fun _ hk => hk.2) (.int .i64 ((rd_T42 l0 x4_1).f0))) (fun _ hk => hk.2) (.int .i16 ((rd_T42 l0 x4_1).f1))) (fun _ hk => trivial)⟩
                have n2_ : Aside0 (Kd.R (Kd.int .i64) 2 ((wr.setCell ⟨gb294, 0, none⟩ (.int .i64 ((rd_T42 l0 x4_1).f0))).setCell ⟨gb294, 1, none⟩ (.int .i16 ((rd_T42 l0 x4_1).f1))) w.heap.size (fun _ => True) u295004 x295004_1) := ⟨by (with_reducible repeat (first | apply Kd.R_alloc | apply Kd.R_drewN | apply Kd.R_drew)); exact Kd.R_mono (Kd.R_far (p := ⟨gb294, 1, none⟩) (Kd.R_far (p := ⟨gb294, 0, none⟩) (Kd.R_types HO_295004.out BK294.out (by decide)) (fun _ hk => hk.2) (.int .i64 ((rd_T42 l0 x4_1).f0))) (fun _ hk => hk.2) (.int .i16 ((rd_T42 l0 x4_1).f1))) (fun _ hk => trivial)⟩
                have n3_ : Aside0 (((wr.setCell ⟨gb294, 0, none⟩ (.int .i64 ((rd_T42 l0 x4_1).f0))).setCell ⟨gb294, 1, none⟩ (.int .i16 ((rd_T42 l0 x4_1).f1))).heap[gb293]? = some (.cells #[.int .i64 0, .int .i16 0, .slice none 0 0, .slice none 0 0, .slice none 0 0] 52 (0, 0))) := ⟨by (with_reducible repeat (first | refine blk_drewN ?_ _ | refine blk_drew ?_ | refine blk_alloc ?_ _)); refine blk_far ?_ NB293_294.out _; (with_reducible repeat (first | refine blk_drewN ?_ _ | refine blk_drew ?_ | refine blk_alloc ?_ _)); refine blk_far ?_ NB293_294.out _; (with_reducible repeat (first | refine blk_drewN ?_ _ | refine blk_drew ?_ | refine blk_alloc ?_ _)); exact BK293.out⟩
                have n4_ : Aside0 (((wr.setCell ⟨gb294, 0, none⟩ (.int .i64 ((rd_T42 l0 x4_1).f0))).setCell ⟨gb294, 1, none⟩ (.int .i16 ((rd_T42 l0 x4_1).f1))).heap[gb294]? = some (.cells #[.int .i64 ((rd_T42 l0 x4_1).f0), .int .i16 ((rd_T42 l0 x4_1).f1), u295002, u295003, u295004] 52 (0, 0))) := ⟨by (with_reducible repeat (first | refine blk_drewN ?_ _ | refine blk_drew ?_ | refine blk_alloc ?_ _)); refine blk_put (cs := #[.int .i64 ((rd_T42 l0 x4_1).f0), .int .i16 x295001_1, u295002, u295003, u295004]) ?_ 1 _ rfl; (with_reducible repeat (first | refine blk_drewN ?_ _ | refine blk_drew ?_ | refine blk_alloc ?_ _)); refine blk_put (cs := #[.int .i64 x295000_1, .int .i16 x295001_1, u295002, u295003, u295004]) ?_ 0 _ rfl; (with_reducible repeat (first | refine blk_drewN ?_ _ | refine blk_drew ?_ | refine blk_alloc ?_ _)); exact BK294.out⟩
                have n5_ : Aside0 (Below w.heap.size w ((wr.setCell ⟨gb294, 0, none⟩ (.int .i64 ((rd_T42 l0 x4_1).f0))).setCell ⟨gb294, 1, none⟩ (.int .i16 ((rd_T42 l0 x4_1).f1)))) := ⟨by repeat (first | (with_reducible first | exact HB.out | apply below_alloc | apply pw_below_drewN | apply below_drew1 | refine below_set ?_ GE293.out | refine below_set ?_ GE294.out) | exact HB.out)⟩
                (try clear HO_295002)
                (try clear HO_295003)
                (try clear HO_295004)
                (try clear BK293)
                (try clear BK294)
                (try clear HB)
                generalize ((wr.setCell ⟨gb294, 0, none⟩ (.int .i64 ((rd_T42 l0 x4_1).f0))).setCell ⟨gb294, 1, none⟩ (.int .i16 ((rd_T42 l0 x4_1).f1))) = w13 at n0_ n1_ n2_ n3_ n4_ n5_ ⊢
                have HO_295002 := n0_
                have HO_295003 := n1_
                have HO_295004 := n2_
                have BK293 := n3_
                have BK294 := n4_
                have HB := n5_
                clear n0_ n1_ n2_ n3_ n4_ n5_
                have n0_ := Aside0.mk (Kd.R_drew HO_295002.out)
                have n1_ := Aside0.mk (Kd.R_drew HO_295003.out)
                have n2_ := Aside0.mk (Kd.R_drew HO_295004.out)
                have n3_ := Aside0.mk (blk_drew BK293.out)
                have n4_ := Aside0.mk (blk_drew BK294.out)
                have n5_ := Aside0.mk (below_drew1 HB.out)
                clear HO_295002
                clear HO_295003
                clear HO_295004
                clear BK293
                clear BK294
                clear HB
                have HO_295002 := n0_
                have HO_295003 := n1_
                have HO_295004 := n2_
                have BK293 := n3_
                have BK294 := n4_
                have HB := n5_
                clear n0_ n1_ n2_ n3_ n4_ n5_
                have p297 : 0 ≤ (x4_1 : Int) := of_decide_eq_true (by first | (with_reducible assumption) | assumption)
                have q297 : x4_1 < (l0.length : Int) := of_decide_eq_true (by first | (with_reducible assumption) | assumption)
                obtain ⟨ad297, e297, hx297_0, hx297_1, hx297_2, hx297_3, hx297_4, hx297_5⟩ := at_T42 HR0.out x4_1 p297 q297
                have hw297_5 := hx297_5
                have hw297_4 := hx297_4
                have hw297_3 := hx297_3
                have hw297_2 := hx297_2
                have hw297_1 := hx297_1
                have hw297_0 := hx297_0
                obtain rfl : ad295 = ad297 := (by injection e297)
                replace hx297_0 := (HB.out.cell (World.block_lt_of_cell? w _ hx297_0)).trans hx297_0
                replace hx297_1 := (HB.out.cell (World.block_lt_of_cell? w _ hx297_1)).trans hx297_1
                replace hx297_2 := (HB.out.cell (World.block_lt_of_cell? w _ hx297_2)).trans hx297_2
                replace hx297_3 := (HB.out.cell (World.block_lt_of_cell? w _ hx297_3)).trans hx297_3
                replace hx297_4 := (HB.out.cell (World.block_lt_of_cell? w _ hx297_4)).trans hx297_4
                replace hx297_5 := (HB.out.cell (World.block_lt_of_cell? w _ hx297_5)).trans hx297_5
                replace p297 := eq_true p297
                replace q297 := eq_true q297
                refine start_ (n := 11) (S := fun w' => w'.cell? ⟨gb294, 0, none⟩ = some (.int .i64 ((rd_T42 l0 x4_1).f0)) ∧ w'.cell? ⟨gb294, 1, none⟩ = some (.int .i16 ((rd_T42 l0 x4_1).f1)) ∧ w'.cell? ⟨gb294, 2, none⟩ = some (u295002) ∧ w'.cell? ⟨gb294, 3, none⟩ = some (u295003) ∧ w'.cell? ⟨gb294, 4, none⟩ = some (u295004) ∧ w'.cell? (ad295.add ((x4_1).toNat * 6)) = some (.int .i64 ((rd_T42 l0 x4_1).f0)) ∧ w'.cell? ⟨(ad295.add ((x4_1).toNat * 6)).block, (ad295.add ((x4_1).toNat * 6)).off + 1, none⟩ = some (.int .i16 ((rd_T42 l0 x4_1).f1)) ∧ w'.cell? ⟨(ad295.add ((x4_1).toNat * 6)).block, (ad295.add ((x4_1).toNat * 6)).off + 2, none⟩ = some (.int .i32 ((rd_T42 l0 x4_1).f2)) ∧ w'.cell? ⟨(ad295.add ((x4_1).toNat * 6)).block, (ad295.add ((x4_1).toNat * 6)).off + 3, none⟩ = some (.int .i64 ((rd_T42 l0 x4_1).f3)) ∧ w'.cell? ⟨(ad295.add ((x4_1).toNat * 6)).block, (ad295.add ((x4_1).toNat * 6)).off + 4, none⟩ = some (.int .i64 ((rd_T42 l0 x4_1).f4)) ∧ w'.cell? ⟨(ad295.add ((x4_1).toNat * 6)).block, (ad295.add ((x4_1).toNat * 6)).off + 5, none⟩ = some (.bool ((rd_T42 l0 x4_1).f5))) (ds := [10]) #[false, false, false, false, false, false, false, false, false, false, false] (by kernel_rfl) rfl rfl ⟨(blk_cell BK294.out 0).trans rfl, (blk_cell BK294.out 1).trans rfl, (blk_cell BK294.out 2).trans rfl, (blk_cell BK294.out 3).trans rfl, (blk_cell BK294.out 4).trans rfl, ((HB.out.cell (World.block_lt_of_cell? w _ hw297_0)).trans hw297_0), ((HB.out.cell (World.block_lt_of_cell? w _ hw297_1)).trans hw297_1), ((HB.out.cell (World.block_lt_of_cell? w _ hw297_2)).trans hw297_2), ((HB.out.cell (World.block_lt_of_cell? w _ hw297_3)).trans hw297_3), ((HB.out.cell (World.block_lt_of_cell? w _ hw297_4)).trans hw297_4), ((HB.out.cell (World.block_lt_of_cell? w _ hw297_5)).trans hw297_5)⟩ (fun hHeld => ?_); refine with_tabW leatref21_known.tab7 leatref21_known.bits7 (fun HT_ HW_ => ?_)
                generalize w13.drew = w14 at HO_295002 HO_295003 HO_295004 BK293 BK294 HB hx297_0 hx297_1 hx297_2 hx297_3 hx297_4 hx297_5 hHeld ⊢
                refine pure_ (i := 0) (N := some 24) (v := ?_) (a' := ?_) #[true, false, false, false, false, false, false, false, false, false, false] rfl rfl (any_of HT_.out (by kernel_rfl)) (fun _ _ _ h => h) (Or.inl ⟨by rfl, ?_⟩) ?_ ?_
                rotate_left
                · intro w'
                  go_simp
                  with_reducible rfl
                rotate_left
                · simp only [Act.put, List.setIfInBounds_toArray, List.set_cons_zero, List.set_cons_succ, i64_w, i32_w]
                  rfl
                refine pure_ (i := 2) (N := some 26) (v := ?_) (a' := ?_) #[true, false, true, false, false, false, false, false, false, false, false] rfl rfl (any_of HT_.out (by kernel_rfl)) (fun _ _ _ h => h) (Or.inl ⟨by rfl, ?_⟩) ?_ ?_
                rotate_left
                · intro w'
                  go_simp
                  with_reducible rfl
                rotate_left
                · simp only [Act.put, List.setIfInBounds_toArray, List.set_cons_zero, List.set_cons_succ, i64_w, i32_w]
                  rfl
                refine pure_ (i := 3) (N := some 27) (v := ?_) (a' := ?_) #[true, false, true, true, false, false, false, false, false, false, false] rfl rfl (any_of HT_.out (by kernel_rfl)) (fun _ _ _ h => h) (Or.inl ⟨by rfl, ?_⟩) ?_ ?_
                rotate_left
                · intro w'
                  go_simp
                  with_reducible rfl
                rotate_left
                · simp only [Act.put, List.setIfInBounds_toArray, List.set_cons_zero, List.set_cons_succ, i64_w, i32_w]
                  rfl
                refine pure_ (i := 4) (N := some 28) (v := ?_) (a' := ?_) #[true, false, true, true, true, false, false, false, false, false, false] rfl rfl (any_of HT_.out (by kernel_rfl)) (fun _ _ _ h => h) (Or.inl ⟨by rfl, ?_⟩) ?_ ?_
                rotate_left
                · intro w'
                  go_simp
                  with_reducible rfl
                rotate_left
                · simp only [Act.put, List.setIfInBounds_toArray, List.set_cons_zero, List.set_cons_succ, i64_w, i32_w]
                  rfl
                refine pure_ (i := 5) (N := some 29) (v := ?_) (a' := ?_) #[true, false, true, true, true, true, false, false, false, false, false] rfl rfl (any_of HT_.out (by kernel_rfl)) (fun _ _ _ h => h) (Or.inl ⟨by rfl, ?_⟩) ?_ ?_
                rotate_left
                · intro w'
                  go_simp
                  with_reducible rfl
                rotate_left
                · simp only [Act.put, List.setIfInBounds_toArray, List.set_cons_zero, List.set_cons_succ, i64_w, i32_w]
                  rfl
                refine take_ (i := 1) (N := some 25) (v := ?_) (a' := ?_) #[true, true, true, true, true, true, false, false, false, false, false] rfl rfl (take_ofW HT_.out HW_.out (by kernel_rfl)) (fun _ _ _ h => h) (Or.inl ⟨by rfl, ?_⟩) hHeld ?_ ?_
                rotate_left
                · rintro w' ⟨s0, s1, s2, s3, s4, s5, s6, s7, s8, s9, s10⟩
                  go_simp
                  with_reducible rfl
                rotate_left
                · simp only [Act.put, List.setIfInBounds_toArray, List.set_cons_zero, List.set_cons_succ, i64_w, i32_w]
                  rfl
                refine take_ (i := 6) (N := some 30) (v := ?_) (a' := ?_) #[true, true, true, true, true, true, true, false, false, false, false] rfl rfl (take_ofW HT_.out HW_.out (by kernel_rfl)) (fun _ _ _ h => h) (Or.inl ⟨by rfl, ?_⟩) hHeld ?_ ?_
                rotate_left
                · rintro w' ⟨s0, s1, s2, s3, s4, s5, s6, s7, s8, s9, s10⟩
                  go_simp
                  with_reducible rfl
                rotate_left
                · simp only [Act.put, List.setIfInBounds_toArray, List.set_cons_zero, List.set_cons_succ, i64_w, i32_w]
                  rfl
                refine one_ (i := 7) (N := some 31) #[true, true, true, true, true, true, true, true, false, false, false] rfl rfl (one_of HT_.out (by kernel_rfl)) (by decide) (fun K hK => ?_)
                refine value_ (w1 := ?_) (v := ?_) (by rfl) rfl ?_ ?_
                rotate_left 2
                · go_simp
                  constructor
                  · rfl
                  · rfl
                refine hK.out _ _ ⟨(blk_cell (blk_alloc BK294.out _) 0).trans rfl, (blk_cell (blk_alloc BK294.out _) 1).trans rfl, (blk_cell (blk_alloc BK294.out _) 2).trans rfl, (blk_cell (blk_alloc BK294.out _) 3).trans rfl, (blk_cell (blk_alloc BK294.out _) 4).trans rfl, (World.cell?_alloc_lt _ _ _ (World.block_lt_of_cell? _ _ (((HB.out.cell (World.block_lt_of_cell? w _ hw297_0)).trans hw297_0)))).trans (((HB.out.cell (World.block_lt_of_cell? w _ hw297_0)).trans hw297_0)), (World.cell?_alloc_lt _ _ _ (World.block_lt_of_cell? _ _ (((HB.out.cell (World.block_lt_of_cell? w _ hw297_1)).trans hw297_1)))).trans (((HB.out.cell (World.block_lt_of_cell? w _ hw297_1)).trans hw297_1)), (World.cell?_alloc_lt _ _ _ (World.block_lt_of_cell? _ _ (((HB.out.cell (World.block_lt_of_cell? w _ hw297_2)).trans hw297_2)))).trans (((HB.out.cell (World.block_lt_of_cell? w _ hw297_2)).trans hw297_2)), (World.cell?_alloc_lt _ _ _ (World.block_lt_of_cell? _ _ (((HB.out.cell (World.block_lt_of_cell? w _ hw297_3)).trans hw297_3)))).trans (((HB.out.cell (World.block_lt_of_cell? w _ hw297_3)).trans hw297_3)), (World.cell?_alloc_lt _ _ _ (World.block_lt_of_cell? _ _ (((HB.out.cell (World.block_lt_of_cell? w _ hw297_4)).trans hw297_4)))).trans (((HB.out.cell (World.block_lt_of_cell? w _ hw297_4)).trans hw297_4)), (World.cell?_alloc_lt _ _ _ (World.block_lt_of_cell? _ _ (((HB.out.cell (World.block_lt_of_cell? w _ hw297_5)).trans hw297_5)))).trans (((HB.out.cell (World.block_lt_of_cell? w _ hw297_5)).trans hw297_5))⟩ (fun hHeld => ?_)
                clear hK K
                refine norm_ (a' := ?_) ?_ ?_
                rotate_left
                · show Act.put _ (some 31) _ = _
                  simp only [Act.put, List.setIfInBounds_toArray, List.set_cons_zero, List.set_cons_succ, i64_w, i32_w]
                  rfl
                refine one_ (i := 8) (N := some 32) #[true, true, true, true, true, true, true, true, true, false, false] rfl rfl (one_of HT_.out (by kernel_rfl)) (by decide) (fun K hK => ?_)
                refine Kd.R_append_step (Kd.int .i32) (w0 := w) w.heap.size (by rfl) (.tmp 25) (.tmp 31) 27 21 (.int .i32 0) 4 rfl Try.underlying27 info21 rfl (by decide) (by omega) u295002 x295002_1 ((rd_T42 l0 x4_1).f2) [.int .i32 ((rd_T42 l0 x4_1).f2)] (fun _ => True) (fun _ => False) rfl rfl ?aP (fun _ hk => hk.elim) ?aF ?aO ?aB ?aS ?aL ?_
                (case aP => exact rfl)
                (case aB => exact (by repeat (first | (with_reducible first | exact HB.out | apply below_alloc | apply pw_below_drewN | apply below_drew1 | refine below_set ?_ GE293.out | refine below_set ?_ GE294.out) | exact HB.out)))
                (case aF => exact (fun _ _ => trivial))
                (case aO => exact (by (with_reducible repeat (first | apply Kd.R_alloc | apply Kd.R_drewN | apply Kd.R_drew)); exact HO_295002.out))
                (case aS => exact (below_size (by repeat (first | (with_reducible first | exact HB.out | apply below_alloc | apply pw_below_drewN | apply below_drew1 | refine below_set ?_ GE293.out | refine below_set ?_ GE294.out) | exact HB.out))))
                (case aL => have := LMc8.out; omega)
                intro v299 w15 ho hb hg hat
                rw [← Ny298.out] at ho
                have n0_ := Aside0.mk (Kd.R_over' (by (with_reducible repeat (first | apply Kd.R_alloc | apply Kd.R_drewN | apply Kd.R_drew)); exact HO_295003.out) (Kd.R_typed (by (with_reducible repeat (first | apply Kd.R_alloc | apply Kd.R_drewN | apply Kd.R_drew)); exact HO_295002.out)) (by decide) hg)
                have n1_ := Aside0.mk (Kd.R_over' (by (with_reducible repeat (first | apply Kd.R_alloc | apply Kd.R_drewN | apply Kd.R_drew)); exact HO_295004.out) (Kd.R_typed (by (with_reducible repeat (first | apply Kd.R_alloc | apply Kd.R_drewN | apply Kd.R_drew)); exact HO_295002.out)) (by decide) hg)
                have n2_ := Aside0.mk (blk_grown (g := gb293) (o := .cells #[.int .i64 0, .int .i16 0, .slice none 0 0, .slice none 0 0, .slice none 0 0] 52 (0, 0)) (by (with_reducible repeat (first | refine blk_drewN ?_ _ | refine blk_drew ?_ | refine blk_alloc ?_ _)); exact BK293.out) hg (Kd.R_ne HO_295002.out BK293.out (by decide)))
                have n3_ := Aside0.mk (blk_grown (g := gb294) (o := .cells #[.int .i64 ((rd_T42 l0 x4_1).f0), .int .i16 ((rd_T42 l0 x4_1).f1), u295002, u295003, u295004] 52 (0, 0)) (by (with_reducible repeat (first | refine blk_drewN ?_ _ | refine blk_drew ?_ | refine blk_alloc ?_ _)); exact BK294.out) hg (Kd.R_ne HO_295002.out BK294.out (by decide)))
                have n4_ := Aside0.mk (hb)
                have n5_ := Aside0.mk (ho)
                clear HO_295003
                clear HO_295004
                clear BK293
                clear BK294
                clear HB
                clear HO_295002
                have HO_295003 := n0_
                have HO_295004 := n1_
                have BK293 := n2_
                have BK294 := n3_
                have HB := n4_
                have HO300 := n5_
                clear n0_ n1_ n2_ n3_ n4_ n5_
                clear ho hb hg hat
                obtain ⟨Ao16, co16, eo16⟩ := Kd.R_slice HO300.out
                (first | subst eo16 | (injection eo16 with f1_ f2_ f3_; have f4_ := f1_.symm; have f5_ := f3_.symm; clear f1_ f2_ f3_; subst f4_; subst f5_))
                refine hK.out _ _ ⟨(blk_cell BK294.out 0).trans rfl, (blk_cell BK294.out 1).trans rfl, (blk_cell BK294.out 2).trans rfl, (blk_cell BK294.out 3).trans rfl, (blk_cell BK294.out 4).trans rfl, ((HB.out.cell (World.block_lt_of_cell? w _ hw297_0)).trans hw297_0), ((HB.out.cell (World.block_lt_of_cell? w _ hw297_1)).trans hw297_1), ((HB.out.cell (World.block_lt_of_cell? w _ hw297_2)).trans hw297_2), ((HB.out.cell (World.block_lt_of_cell? w _ hw297_3)).trans hw297_3), ((HB.out.cell (World.block_lt_of_cell? w _ hw297_4)).trans hw297_4), ((HB.out.cell (World.block_lt_of_cell? w _ hw297_5)).trans hw297_5)⟩ (fun hHeld => ?_)
                clear hK K
                refine norm_ (a' := ?_) ?_ ?_
                rotate_left
                · show Act.put _ (some 32) _ = _
                  simp only [Act.put, List.setIfInBounds_toArray, List.set_cons_zero, List.set_cons_succ, i64_w, i32_w]
                  rfl
                refine pure_ (i := 9) (N := some 33) (v := ?_) (a' := ?_) #[true, true, true, true, true, true, true, true, true, true, false] rfl rfl (any_of HT_.out (by kernel_rfl)) (fun _ _ _ h => h) (Or.inl ⟨by rfl, ?_⟩) ?_ ?_
                rotate_left
                · intro w'
                  go_simp
                  with_reducible rfl
                rotate_left
                · simp only [Act.put, List.setIfInBounds_toArray, List.set_cons_zero, List.set_cons_succ, i64_w, i32_w]
                  rfl
                refine last_ (i := 10) (N := none) #[true, true, true, true, true, true, true, true, true, true, true] rfl rfl (one_of HT_.out (by kernel_rfl)) (by decide) (fun K hK => ?_)
                have hs17 : w15.cell? ⟨gb294, 2, none⟩ = some (u295002) := (blk_cell BK294.out 2).trans rfl
                have hfs17 := blk_frozen BK294.out 2
                have hns17_0 := NB293_294.out
                have hms17_0 := NB294_293.out
                refine skip_ (w1 := ?_) (by rfl) rfl ?_ ?_
                rotate_left
                · go_simp
                  rfl
                refine hK.out _ _ ?_
                clear hK K
                refine done_ (done_of HT_.out (by kernel_rfl)) ?_
                try go_wp2
                have n0_ : Aside0 (Kd.R (Kd.int .i64) 3 (w15.setCell ⟨gb294, 2, none⟩ (.slice Ao16 y298.length co16)) w.heap.size (fun _ => True) u295003 x295003_1) := ⟨by (with_reducible repeat (first | apply Kd.R_alloc | apply Kd.R_drewN | apply Kd.R_drew)); exact Kd.R_mono (Kd.R_far (p := ⟨gb294, 2, none⟩) (Kd.R_types HO_295003.out BK294.out (by decide)) (fun _ hk => hk.2) (.slice Ao16 y298.length co16)) (fun _ hk => trivial)⟩
                have n1_ : Aside0 (Kd.R (Kd.int .i64) 2 (w15.setCell ⟨gb294, 2, none⟩ (.slice Ao16 y298.length co16)) w.heap.size (fun _ => True) u295004 x295004_1) := ⟨by (with_reducible repeat (first | apply Kd.R_alloc | apply Kd.R_drewN | apply Kd.R_drew)); exact Kd.R_mono (Kd.R_far (p := ⟨gb294, 2, none⟩) (Kd.R_types HO_295004.out BK294.out (by decide)) (fun _ hk => hk.2) (.slice Ao16 y298.length co16)) (fun _ hk => trivial)⟩
                have n2_ : Aside0 (Kd.R (Kd.int .i32) 21 (w15.setCell ⟨gb294, 2, none⟩ (.slice Ao16 y298.length co16)) w.heap.size (fun _ => True) (.slice Ao16 y298.length co16) y298) := ⟨by (with_reducible repeat (first | apply Kd.R_alloc | apply Kd.R_drewN | apply Kd.R_drew)); exact Kd.R_mono (Kd.R_far (p := ⟨gb294, 2, none⟩) (Kd.R_types HO300.out BK294.out (by decide)) (fun _ hk => hk.2) (.slice Ao16 y298.length co16)) (fun _ hk => trivial)⟩
                have n3_ : Aside0 ((w15.setCell ⟨gb294, 2, none⟩ (.slice Ao16 y298.length co16)).heap[gb293]? = some (.cells #[.int .i64 0, .int .i16 0, .slice none 0 0, .slice none 0 0, .slice none 0 0] 52 (0, 0))) := ⟨by (with_reducible repeat (first | refine blk_drewN ?_ _ | refine blk_drew ?_ | refine blk_alloc ?_ _)); refine blk_far ?_ NB293_294.out _; (with_reducible repeat (first | refine blk_drewN ?_ _ | refine blk_drew ?_ | refine blk_alloc ?_ _)); exact BK293.out⟩
                have n4_ : Aside0 ((w15.setCell ⟨gb294, 2, none⟩ (.slice Ao16 y298.length co16)).heap[gb294]? = some (.cells #[.int .i64 ((rd_T42 l0 x4_1).f0), .int .i16 ((rd_T42 l0 x4_1).f1), .slice Ao16 y298.length co16, u295003, u295004] 52 (0, 0))) := ⟨by (with_reducible repeat (first | refine blk_drewN ?_ _ | refine blk_drew ?_ | refine blk_alloc ?_ _)); refine blk_put (cs := #[.int .i64 ((rd_T42 l0 x4_1).f0), .int .i16 ((rd_T42 l0 x4_1).f1), u295002, u295003, u295004]) ?_ 2 _ rfl; (with_reducible repeat (first | refine blk_drewN ?_ _ | refine blk_drew ?_ | refine blk_alloc ?_ _)); exact BK294.out⟩
                have n5_ : Aside0 (Below w.heap.size w (w15.setCell ⟨gb294, 2, none⟩ (.slice Ao16 y298.length co16))) := ⟨by repeat (first | (with_reducible first | exact HB.out | apply below_alloc | apply pw_below_drewN | apply below_drew1 | refine below_set ?_ GE293.out | refine below_set ?_ GE294.out) | exact HB.out)⟩
                (try clear HO_295003)
                (try clear HO_295004)
                (try clear HO300)
                (try clear BK293)
                (try clear BK294)
                (try clear HB)
                generalize (w15.setCell ⟨gb294, 2, none⟩ (.slice Ao16 y298.length co16)) = w18 at n0_ n1_ n2_ n3_ n4_ n5_ ⊢
                have HO_295003 := n0_
                have HO_295004 := n1_
                have HO300 := n2_
                have BK293 := n3_
                have BK294 := n4_
                have HB := n5_
                clear n0_ n1_ n2_ n3_ n4_ n5_
                have n0_ := Aside0.mk (Kd.R_drew HO_295003.out)
                have n1_ := Aside0.mk (Kd.R_drew HO_295004.out)
                have n2_ := Aside0.mk (Kd.R_drew HO300.out)
                have n3_ := Aside0.mk (blk_drew BK293.out)
                have n4_ := Aside0.mk (blk_drew BK294.out)
                have n5_ := Aside0.mk (below_drew1 HB.out)
                clear HO_295003
                clear HO_295004
                clear HO300
                clear BK293
                clear BK294
                clear HB
                have HO_295003 := n0_
                have HO_295004 := n1_
                have HO300 := n2_
                have BK293 := n3_
                have BK294 := n4_
                have HB := n5_
                clear n0_ n1_ n2_ n3_ n4_ n5_
                have p301 : 0 ≤ (x4_1 : Int) := of_decide_eq_true (by first | (with_reducible assumption) | assumption)
                have q301 : x4_1 < (l0.length : Int) := of_decide_eq_true (by first | (with_reducible assumption) | assumption)
                obtain ⟨ad301, e301, hx301_0, hx301_1, hx301_2, hx301_3, hx301_4, hx301_5⟩ := at_T42 HR0.out x4_1 p301 q301
                have hw301_5 := hx301_5
                have hw301_4 := hx301_4
                have hw301_3 := hx301_3
                have hw301_2 := hx301_2
                have hw301_1 := hx301_1
                have hw301_0 := hx301_0
                obtain rfl : ad295 = ad301 := (by injection e301)
                replace hx301_0 := (HB.out.cell (World.block_lt_of_cell? w _ hx301_0)).trans hx301_0
                replace hx301_1 := (HB.out.cell (World.block_lt_of_cell? w _ hx301_1)).trans hx301_1
                replace hx301_2 := (HB.out.cell (World.block_lt_of_cell? w _ hx301_2)).trans hx301_2
                replace hx301_3 := (HB.out.cell (World.block_lt_of_cell? w _ hx301_3)).trans hx301_3
                replace hx301_4 := (HB.out.cell (World.block_lt_of_cell? w _ hx301_4)).trans hx301_4
                replace hx301_5 := (HB.out.cell (World.block_lt_of_cell? w _ hx301_5)).trans hx301_5
                replace p301 := eq_true p301
                replace q301 := eq_true q301
                refine start_ (n := 11) (S := fun w' => w'.cell? ⟨gb294, 0, none⟩ = some (.int .i64 ((rd_T42 l0 x4_1).f0)) ∧ w'.cell? ⟨gb294, 1, none⟩ = some (.int .i16 ((rd_T42 l0 x4_1).f1)) ∧ w'.cell? ⟨gb294, 2, none⟩ = some (.slice Ao16 y298.length co16) ∧ w'.cell? ⟨gb294, 3, none⟩ = some (u295003) ∧ w'.cell? ⟨gb294, 4, none⟩ = some (u295004) ∧ w'.cell? (ad295.add ((x4_1).toNat * 6)) = some (.int .i64 ((rd_T42 l0 x4_1).f0)) ∧ w'.cell? ⟨(ad295.add ((x4_1).toNat * 6)).block, (ad295.add ((x4_1).toNat * 6)).off + 1, none⟩ = some (.int .i16 ((rd_T42 l0 x4_1).f1)) ∧ w'.cell? ⟨(ad295.add ((x4_1).toNat * 6)).block, (ad295.add ((x4_1).toNat * 6)).off + 2, none⟩ = some (.int .i32 ((rd_T42 l0 x4_1).f2)) ∧ w'.cell? ⟨(ad295.add ((x4_1).toNat * 6)).block, (ad295.add ((x4_1).toNat * 6)).off + 3, none⟩ = some (.int .i64 ((rd_T42 l0 x4_1).f3)) ∧ w'.cell? ⟨(ad295.add ((x4_1).toNat * 6)).block, (ad295.add ((x4_1).toNat * 6)).off + 4, none⟩ = some (.int .i64 ((rd_T42 l0 x4_1).f4)) ∧ w'.cell? ⟨(ad295.add ((x4_1).toNat * 6)).block, (ad295.add ((x4_1).toNat * 6)).off + 5, none⟩ = some (.bool ((rd_T42 l0 x4_1).f5))) (ds := [10]) #[false, false, false, false, false, false, false, false, false, false, false] (by kernel_rfl) rfl rfl ⟨(blk_cell BK294.out 0).trans rfl, (blk_cell BK294.out 1).trans rfl, (blk_cell BK294.out 2).trans rfl, (blk_cell BK294.out 3).trans rfl, (blk_cell BK294.out 4).trans rfl, ((HB.out.cell (World.block_lt_of_cell? w _ hw301_0)).trans hw301_0), ((HB.out.cell (World.block_lt_of_cell? w _ hw301_1)).trans hw301_1), ((HB.out.cell (World.block_lt_of_cell? w _ hw301_2)).trans hw301_2), ((HB.out.cell (World.block_lt_of_cell? w _ hw301_3)).trans hw301_3), ((HB.out.cell (World.block_lt_of_cell? w _ hw301_4)).trans hw301_4), ((HB.out.cell (World.block_lt_of_cell? w _ hw301_5)).trans hw301_5)⟩ (fun hHeld => ?_); refine with_tabW leatref21_known.tab8 leatref21_known.bits8 (fun HT_ HW_ => ?_)
                generalize w18.drew = w19 at HO_295003 HO_295004 HO300 BK293 BK294 HB hx301_0 hx301_1 hx301_2 hx301_3 hx301_4 hx301_5 hHeld ⊢
                refine pure_ (i := 0) (N := some 34) (v := ?_) (a' := ?_) #[true, false, false, false, false, false, false, false, false, false, false] rfl rfl (any_of HT_.out (by kernel_rfl)) (fun _ _ _ h => h) (Or.inl ⟨by rfl, ?_⟩) ?_ ?_
                rotate_left
                · intro w'
                  go_simp
                  with_reducible rfl
                rotate_left
                · simp only [Act.put, List.setIfInBounds_toArray, List.set_cons_zero, List.set_cons_succ, i64_w, i32_w]
                  rfl
                refine pure_ (i := 2) (N := some 36) (v := ?_) (a' := ?_) #[true, false, true, false, false, false, false, false, false, false, false] rfl rfl (any_of HT_.out (by kernel_rfl)) (fun _ _ _ h => h) (Or.inl ⟨by rfl, ?_⟩) ?_ ?_
                rotate_left
                · intro w'
                  go_simp
                  with_reducible rfl
                rotate_left
                · simp only [Act.put, List.setIfInBounds_toArray, List.set_cons_zero, List.set_cons_succ, i64_w, i32_w]
                  rfl
                refine pure_ (i := 3) (N := some 37) (v := ?_) (a' := ?_) #[true, false, true, true, false, false, false, false, false, false, false] rfl rfl (any_of HT_.out (by kernel_rfl)) (fun _ _ _ h => h) (Or.inl ⟨by rfl, ?_⟩) ?_ ?_
                rotate_left
                · intro w'
                  go_simp
                  with_reducible rfl
                rotate_left
                · simp only [Act.put, List.setIfInBounds_toArray, List.set_cons_zero, List.set_cons_succ, i64_w, i32_w]
                  rfl
                refine pure_ (i := 4) (N := some 38) (v := ?_) (a' := ?_) #[true, false, true, true, true, false, false, false, false, false, false] rfl rfl (any_of HT_.out (by kernel_rfl)) (fun _ _ _ h => h) (Or.inl ⟨by rfl, ?_⟩) ?_ ?_
                rotate_left
                · intro w'
                  go_simp
                  with_reducible rfl
                rotate_left
                · simp only [Act.put, List.setIfInBounds_toArray, List.set_cons_zero, List.set_cons_succ, i64_w, i32_w]
                  rfl
                refine pure_ (i := 5) (N := some 39) (v := ?_) (a' := ?_) #[true, false, true, true, true, true, false, false, false, false, false] rfl rfl (any_of HT_.out (by kernel_rfl)) (fun _ _ _ h => h) (Or.inl ⟨by rfl, ?_⟩) ?_ ?_
                rotate_left
                · intro w'
                  go_simp
                  with_reducible rfl
                rotate_left
                · simp only [Act.put, List.setIfInBounds_toArray, List.set_cons_zero, List.set_cons_succ, i64_w, i32_w]
                  rfl
                refine take_ (i := 1) (N := some 35) (v := ?_) (a' := ?_) #[true, true, true, true, true, true, false, false, false, false, false] rfl rfl (take_ofW HT_.out HW_.out (by kernel_rfl)) (fun _ _ _ h => h) (Or.inl ⟨by rfl, ?_⟩) hHeld ?_ ?_
                rotate_left
                · rintro w' ⟨s0, s1, s2, s3, s4, s5, s6, s7, s8, s9, s10⟩
                  go_simp
                  with_reducible rfl
                rotate_left
                · simp only [Act.put, List.setIfInBounds_toArray, List.set_cons_zero, List.set_cons_succ, i64_w, i32_w]
                  rfl
                refine take_ (i := 6) (N := some 40) (v := ?_) (a' := ?_) #[true, true, true, true, true, true, true, false, false, false, false] rfl rfl (take_ofW HT_.out HW_.out (by kernel_rfl)) (fun _ _ _ h => h) (Or.inl ⟨by rfl, ?_⟩) hHeld ?_ ?_
                rotate_left
                · rintro w' ⟨s0, s1, s2, s3, s4, s5, s6, s7, s8, s9, s10⟩
                  go_simp
                  with_reducible rfl
                rotate_left
                · simp only [Act.put, List.setIfInBounds_toArray, List.set_cons_zero, List.set_cons_succ, i64_w, i32_w]
                  rfl
                refine one_ (i := 7) (N := some 41) #[true, true, true, true, true, true, true, true, false, false, false] rfl rfl (one_of HT_.out (by kernel_rfl)) (by decide) (fun K hK => ?_)
                refine value_ (w1 := ?_) (v := ?_) (by rfl) rfl ?_ ?_
                rotate_left 2
                · go_simp
                  constructor
                  · rfl
                  · rfl
                refine hK.out _ _ ⟨(blk_cell (blk_alloc BK294.out _) 0).trans rfl, (blk_cell (blk_alloc BK294.out _) 1).trans rfl, (blk_cell (blk_alloc BK294.out _) 2).trans rfl, (blk_cell (blk_alloc BK294.out _) 3).trans rfl, (blk_cell (blk_alloc BK294.out _) 4).trans rfl, (World.cell?_alloc_lt _ _ _ (World.block_lt_of_cell? _ _ (((HB.out.cell (World.block_lt_of_cell? w _ hw301_0)).trans hw301_0)))).trans (((HB.out.cell (World.block_lt_of_cell? w _ hw301_0)).trans hw301_0)), (World.cell?_alloc_lt _ _ _ (World.block_lt_of_cell? _ _ (((HB.out.cell (World.block_lt_of_cell? w _ hw301_1)).trans hw301_1)))).trans (((HB.out.cell (World.block_lt_of_cell? w _ hw301_1)).trans hw301_1)), (World.cell?_alloc_lt _ _ _ (World.block_lt_of_cell? _ _ (((HB.out.cell (World.block_lt_of_cell? w _ hw301_2)).trans hw301_2)))).trans (((HB.out.cell (World.block_lt_of_cell? w _ hw301_2)).trans hw301_2)), (World.cell?_alloc_lt _ _ _ (World.block_lt_of_cell? _ _ (((HB.out.cell (World.block_lt_of_cell? w _ hw301_3)).trans hw301_3)))).trans (((HB.out.cell (World.block_lt_of_cell? w _ hw301_3)).trans hw301_3)), (World.cell?_alloc_lt _ _ _ (World.block_lt_of_cell? _ _ (((HB.out.cell (World.block_lt_of_cell? w _ hw301_4)).trans hw301_4)))).trans (((HB.out.cell (World.block_lt_of_cell? w _ hw301_4)).trans hw301_4)), (World.cell?_alloc_lt _ _ _ (World.block_lt_of_cell? _ _ (((HB.out.cell (World.block_lt_of_cell? w _ hw301_5)).trans hw301_5)))).trans (((HB.out.cell (World.block_lt_of_cell? w _ hw301_5)).trans hw301_5))⟩ (fun hHeld => ?_)
                clear hK K
                refine norm_ (a' := ?_) ?_ ?_
                rotate_left
                · show Act.put _ (some 41) _ = _
                  simp only [Act.put, List.setIfInBounds_toArray, List.set_cons_zero, List.set_cons_succ, i64_w, i32_w]
                  rfl
                refine one_ (i := 8) (N := some 42) #[true, true, true, true, true, true, true, true, true, false, false] rfl rfl (one_of HT_.out (by kernel_rfl)) (by decide) (fun K hK => ?_)
                refine Kd.R_append_step (Kd.int .i64) (w0 := w) w.heap.size (by rfl) (.tmp 35) (.tmp 41) 23 3 (.int .i64 0) 8 rfl Try.underlying23 info3 rfl (by decide) (by omega) u295003 x295003_1 ((rd_T42 l0 x4_1).f3) [.int .i64 ((rd_T42 l0 x4_1).f3)] (fun _ => True) (fun _ => False) rfl rfl ?aP (fun _ hk => hk.elim) ?aF ?aO ?aB ?aS ?aL ?_
                (case aP => exact rfl)
                (case aB => exact (by repeat (first | (with_reducible first | exact HB.out | apply below_alloc | apply pw_below_drewN | apply below_drew1 | refine below_set ?_ GE293.out | refine below_set ?_ GE294.out) | exact HB.out)))
                (case aF => exact (fun _ _ => trivial))
                (case aO => exact (by (with_reducible repeat (first | apply Kd.R_alloc | apply Kd.R_drewN | apply Kd.R_drew)); exact HO_295003.out))
                (case aS => exact (below_size (by repeat (first | (with_reducible first | exact HB.out | apply below_alloc | apply pw_below_drewN | apply below_drew1 | refine below_set ?_ GE293.out | refine below_set ?_ GE294.out) | exact HB.out))))
                (case aL => have := LMc9.out; omega)
                intro v303 w20 ho hb hg hat
                rw [← Ny302.out] at ho
                have n0_ := Aside0.mk (Kd.R_over' (by (with_reducible repeat (first | apply Kd.R_alloc | apply Kd.R_drewN | apply Kd.R_drew)); exact HO_295004.out) (Kd.R_typed (by (with_reducible repeat (first | apply Kd.R_alloc | apply Kd.R_drewN | apply Kd.R_drew)); exact HO_295003.out)) (by decide) hg)
                have n1_ := Aside0.mk (blk_grown (g := gb293) (o := .cells #[.int .i64 0, .int .i16 0, .slice none 0 0, .slice none 0 0, .slice none 0 0] 52 (0, 0)) (by (with_reducible repeat (first | refine blk_drewN ?_ _ | refine blk_drew ?_ | refine blk_alloc ?_ _)); exact BK293.out) hg (Kd.R_ne HO_295003.out BK293.out (by decide)))
                have n2_ := Aside0.mk (blk_grown (g := gb294) (o := .cells #[.int .i64 ((rd_T42 l0 x4_1).f0), .int .i16 ((rd_T42 l0 x4_1).f1), .slice Ao16 y298.length co16, u295003, u295004] 52 (0, 0)) (by (with_reducible repeat (first | refine blk_drewN ?_ _ | refine blk_drew ?_ | refine blk_alloc ?_ _)); exact BK294.out) hg (Kd.R_ne HO_295003.out BK294.out (by decide)))
                have n3_ := Aside0.mk (Kd.R_over' (by (with_reducible repeat (first | apply Kd.R_alloc | apply Kd.R_drewN | apply Kd.R_drew)); exact HO300.out) (Kd.R_typed (by (with_reducible repeat (first | apply Kd.R_alloc | apply Kd.R_drewN | apply Kd.R_drew)); exact HO_295003.out)) (by decide) hg)
                have n4_ := Aside0.mk (hb)
                have n5_ := Aside0.mk (ho)
                clear HO_295004
                clear BK293
                clear BK294
                clear HO300
                clear HB
                clear HO_295003
                have HO_295004 := n0_
                have BK293 := n1_
                have BK294 := n2_
                have HO300 := n3_
                have HB := n4_
                have HO304 := n5_
                clear n0_ n1_ n2_ n3_ n4_ n5_
                clear ho hb hg hat
                obtain ⟨Ao21, co21, eo21⟩ := Kd.R_slice HO304.out
                (first | subst eo21 | (injection eo21 with f1_ f2_ f3_; have f4_ := f1_.symm; have f5_ := f3_.symm; clear f1_ f2_ f3_; subst f4_; subst f5_))
                refine hK.out _ _ ⟨(blk_cell BK294.out 0).trans rfl, (blk_cell BK294.out 1).trans rfl, (blk_cell BK294.out 2).trans rfl, (blk_cell BK294.out 3).trans rfl, (blk_cell BK294.out 4).trans rfl, ((HB.out.cell (World.block_lt_of_cell? w _ hw301_0)).trans hw301_0), ((HB.out.cell (World.block_lt_of_cell? w _ hw301_1)).trans hw301_1), ((HB.out.cell (World.block_lt_of_cell? w _ hw301_2)).trans hw301_2), ((HB.out.cell (World.block_lt_of_cell? w _ hw301_3)).trans hw301_3), ((HB.out.cell (World.block_lt_of_cell? w _ hw301_4)).trans hw301_4), ((HB.out.cell (World.block_lt_of_cell? w _ hw301_5)).trans hw301_5)⟩ (fun hHeld => ?_)
                clear hK K
                refine norm_ (a' := ?_) ?_ ?_
                rotate_left
                · show Act.put _ (some 42) _ = _
                  simp only [Act.put, List.setIfInBounds_toArray, List.set_cons_zero, List.set_cons_succ, i64_w, i32_w]
                  rfl
                refine pure_ (i := 9) (N := some 43) (v := ?_) (a' := ?_) #[true, true, true, true, true, true, true, true, true, true, false] rfl rfl (any_of HT_.out (by kernel_rfl)) (fun _ _ _ h => h) (Or.inl ⟨by rfl, ?_⟩) ?_ ?_
                rotate_left
                · intro w'
                  go_simp
                  with_reducible rfl
                rotate_left
                · simp only [Act.put, List.setIfInBounds_toArray, List.set_cons_zero, List.set_cons_succ, i64_w, i32_w]
                  rfl
                refine last_ (i := 10) (N := none) #[true, true, true, true, true, true, true, true, true, true, true] rfl rfl (one_of HT_.out (by kernel_rfl)) (by decide) (fun K hK => ?_)
                have hs22 : w20.cell? ⟨gb294, 3, none⟩ = some (u295003) := (blk_cell BK294.out 3).trans rfl
                have hfs22 := blk_frozen BK294.out 3
                have hns22_0 := NB293_294.out
                have hms22_0 := NB294_293.out
                refine skip_ (w1 := ?_) (by rfl) rfl ?_ ?_
                rotate_left
                · go_simp
                  rfl
                refine hK.out _ _ ?_
                clear hK K
                refine done_ (done_of HT_.out (by kernel_rfl)) ?_
                try go_wp2
                have n0_ : Aside0 (Kd.R (Kd.int .i64) 2 (w20.setCell ⟨gb294, 3, none⟩ (.slice Ao21 y302.length co21)) w.heap.size (fun _ => True) u295004 x295004_1) := ⟨by (with_reducible repeat (first | apply Kd.R_alloc | apply Kd.R_drewN | apply Kd.R_drew)); exact Kd.R_mono (Kd.R_far (p := ⟨gb294, 3, none⟩) (Kd.R_types HO_295004.out BK294.out (by decide)) (fun _ hk => hk.2) (.slice Ao21 y302.length co21)) (fun _ hk => trivial)⟩
                have n1_ : Aside0 (Kd.R (Kd.int .i32) 21 (w20.setCell ⟨gb294, 3, none⟩ (.slice Ao21 y302.length co21)) w.heap.size (fun _ => True) (.slice Ao16 y298.length co16) y298) := ⟨by (with_reducible repeat (first | apply Kd.R_alloc | apply Kd.R_drewN | apply Kd.R_drew)); exact Kd.R_mono (Kd.R_far (p := ⟨gb294, 3, none⟩) (Kd.R_types HO300.out BK294.out (by decide)) (fun _ hk => hk.2) (.slice Ao21 y302.length co21)) (fun _ hk => trivial)⟩
                have n2_ : Aside0 (Kd.R (Kd.int .i64) 3 (w20.setCell ⟨gb294, 3, none⟩ (.slice Ao21 y302.length co21)) w.heap.size (fun _ => True) (.slice Ao21 y302.length co21) y302) := ⟨by (with_reducible repeat (first | apply Kd.R_alloc | apply Kd.R_drewN | apply Kd.R_drew)); exact Kd.R_mono (Kd.R_far (p := ⟨gb294, 3, none⟩) (Kd.R_types HO304.out BK294.out (by decide)) (fun _ hk => hk.2) (.slice Ao21 y302.length co21)) (fun _ hk => trivial)⟩
                have n3_ : Aside0 ((w20.setCell ⟨gb294, 3, none⟩ (.slice Ao21 y302.length co21)).heap[gb293]? = some (.cells #[.int .i64 0, .int .i16 0, .slice none 0 0, .slice none 0 0, .slice none 0 0] 52 (0, 0))) := ⟨by (with_reducible repeat (first | refine blk_drewN ?_ _ | refine blk_drew ?_ | refine blk_alloc ?_ _)); refine blk_far ?_ NB293_294.out _; (with_reducible repeat (first | refine blk_drewN ?_ _ | refine blk_drew ?_ | refine blk_alloc ?_ _)); exact BK293.out⟩
                have n4_ : Aside0 ((w20.setCell ⟨gb294, 3, none⟩ (.slice Ao21 y302.length co21)).heap[gb294]? = some (.cells #[.int .i64 ((rd_T42 l0 x4_1).f0), .int .i16 ((rd_T42 l0 x4_1).f1), .slice Ao16 y298.length co16, .slice Ao21 y302.length co21, u295004] 52 (0, 0))) := ⟨by (with_reducible repeat (first | refine blk_drewN ?_ _ | refine blk_drew ?_ | refine blk_alloc ?_ _)); refine blk_put (cs := #[.int .i64 ((rd_T42 l0 x4_1).f0), .int .i16 ((rd_T42 l0 x4_1).f1), .slice Ao16 y298.length co16, u295003, u295004]) ?_ 3 _ rfl; (with_reducible repeat (first | refine blk_drewN ?_ _ | refine blk_drew ?_ | refine blk_alloc ?_ _)); exact BK294.out⟩
                have n5_ : Aside0 (Below w.heap.size w (w20.setCell ⟨gb294, 3, none⟩ (.slice Ao21 y302.length co21))) := ⟨by repeat (first | (with_reducible first | exact HB.out | apply below_alloc | apply pw_below_drewN | apply below_drew1 | refine below_set ?_ GE293.out | refine below_set ?_ GE294.out) | exact HB.out)⟩
                (try clear HO_295004)
                (try clear HO300)
                (try clear HO304)
                (try clear BK293)
                (try clear BK294)
                (try clear HB)
                generalize (w20.setCell ⟨gb294, 3, none⟩ (.slice Ao21 y302.length co21)) = w23 at n0_ n1_ n2_ n3_ n4_ n5_ ⊢
                have HO_295004 := n0_
                have HO300 := n1_
                have HO304 := n2_
                have BK293 := n3_
                have BK294 := n4_
                have HB := n5_
                clear n0_ n1_ n2_ n3_ n4_ n5_
                have n0_ := Aside0.mk (Kd.R_drew HO_295004.out)
                have n1_ := Aside0.mk (Kd.R_drew HO300.out)
                have n2_ := Aside0.mk (Kd.R_drew HO304.out)
                have n3_ := Aside0.mk (blk_drew BK293.out)
                have n4_ := Aside0.mk (blk_drew BK294.out)
                have n5_ := Aside0.mk (below_drew1 HB.out)
                clear HO_295004
                clear HO300
                clear HO304
                clear BK293
                clear BK294
                clear HB
                have HO_295004 := n0_
                have HO300 := n1_
                have HO304 := n2_
                have BK293 := n3_
                have BK294 := n4_
                have HB := n5_
                clear n0_ n1_ n2_ n3_ n4_ n5_
                have p305 : 0 ≤ (x4_1 : Int) := of_decide_eq_true (by first | (with_reducible assumption) | assumption)
                have q305 : x4_1 < (l0.length : Int) := of_decide_eq_true (by first | (with_reducible assumption) | assumption)
                obtain ⟨ad305, e305, hx305_0, hx305_1, hx305_2, hx305_3, hx305_4, hx305_5⟩ := at_T42 HR0.out x4_1 p305 q305
                have hw305_5 := hx305_5
                have hw305_4 := hx305_4
                have hw305_3 := hx305_3
                have hw305_2 := hx305_2
                have hw305_1 := hx305_1
                have hw305_0 := hx305_0
                obtain rfl : ad295 = ad305 := (by injection e305)
                replace hx305_0 := (HB.out.cell (World.block_lt_of_cell? w _ hx305_0)).trans hx305_0
                replace hx305_1 := (HB.out.cell (World.block_lt_of_cell? w _ hx305_1)).trans hx305_1
                replace hx305_2 := (HB.out.cell (World.block_lt_of_cell? w _ hx305_2)).trans hx305_2
                replace hx305_3 := (HB.out.cell (World.block_lt_of_cell? w _ hx305_3)).trans hx305_3
                replace hx305_4 := (HB.out.cell (World.block_lt_of_cell? w _ hx305_4)).trans hx305_4
                replace hx305_5 := (HB.out.cell (World.block_lt_of_cell? w _ hx305_5)).trans hx305_5
                replace p305 := eq_true p305
                replace q305 := eq_true q305
                refine start_ (n := 11) (S := fun w' => w'.cell? ⟨gb294, 0, none⟩ = some (.int .i64 ((rd_T42 l0 x4_1).f0)) ∧ w'.cell? ⟨gb294, 1, none⟩ = some (.int .i16 ((rd_T42 l0 x4_1).f1)) ∧ w'.cell? ⟨gb294, 2, none⟩ = some (.slice Ao16 y298.length co16) ∧ w'.cell? ⟨gb294, 3, none⟩ = some (.slice Ao21 y302.length co21) ∧ w'.cell? ⟨gb294, 4, none⟩ = some (u295004) ∧ w'.cell? (ad295.add ((x4_1).toNat * 6)) = some (.int .i64 ((rd_T42 l0 x4_1).f0)) ∧ w'.cell? ⟨(ad295.add ((x4_1).toNat * 6)).block, (ad295.add ((x4_1).toNat * 6)).off + 1, none⟩ = some (.int .i16 ((rd_T42 l0 x4_1).f1)) ∧ w'.cell? ⟨(ad295.add ((x4_1).toNat * 6)).block, (ad295.add ((x4_1).toNat * 6)).off + 2, none⟩ = some (.int .i32 ((rd_T42 l0 x4_1).f2)) ∧ w'.cell? ⟨(ad295.add ((x4_1).toNat * 6)).block, (ad295.add ((x4_1).toNat * 6)).off + 3, none⟩ = some (.int .i64 ((rd_T42 l0 x4_1).f3)) ∧ w'.cell? ⟨(ad295.add ((x4_1).toNat * 6)).block, (ad295.add ((x4_1).toNat * 6)).off + 4, none⟩ = some (.int .i64 ((rd_T42 l0 x4_1).f4)) ∧ w'.cell? ⟨(ad295.add ((x4_1).toNat * 6)).block, (ad295.add ((x4_1).toNat * 6)).off + 5, none⟩ = some (.bool ((rd_T42 l0 x4_1).f5))) (ds := [10]) #[false, false, false, false, false, false, false, false, false, false, false] (by kernel_rfl) rfl rfl ⟨(blk_cell BK294.out 0).trans rfl, (blk_cell BK294.out 1).trans rfl, (blk_cell BK294.out 2).trans rfl, (blk_cell BK294.out 3).trans rfl, (blk_cell BK294.out 4).trans rfl, ((HB.out.cell (World.block_lt_of_cell? w _ hw305_0)).trans hw305_0), ((HB.out.cell (World.block_lt_of_cell? w _ hw305_1)).trans hw305_1), ((HB.out.cell (World.block_lt_of_cell? w _ hw305_2)).trans hw305_2), ((HB.out.cell (World.block_lt_of_cell? w _ hw305_3)).trans hw305_3), ((HB.out.cell (World.block_lt_of_cell? w _ hw305_4)).trans hw305_4), ((HB.out.cell (World.block_lt_of_cell? w _ hw305_5)).trans hw305_5)⟩ (fun hHeld => ?_); refine with_tabW leatref21_known.tab9 leatref21_known.bits9 (fun HT_ HW_ => ?_)
                generalize w23.drew = w24 at HO_295004 HO300 HO304 BK293 BK294 HB hx305_0 hx305_1 hx305_2 hx305_3 hx305_4 hx305_5 hHeld ⊢
                refine pure_ (i := 0) (N := some 44) (v := ?_) (a' := ?_) #[true, false, false, false, false, false, false, false, false, false, false] rfl rfl (any_of HT_.out (by kernel_rfl)) (fun _ _ _ h => h) (Or.inl ⟨by rfl, ?_⟩) ?_ ?_
                rotate_left
                · intro w'
                  go_simp
                  with_reducible rfl
                rotate_left
                · simp only [Act.put, List.setIfInBounds_toArray, List.set_cons_zero, List.set_cons_succ, i64_w, i32_w]
                  rfl
                refine pure_ (i := 2) (N := some 46) (v := ?_) (a' := ?_) #[true, false, true, false, false, false, false, false, false, false, false] rfl rfl (any_of HT_.out (by kernel_rfl)) (fun _ _ _ h => h) (Or.inl ⟨by rfl, ?_⟩) ?_ ?_
                rotate_left
                · intro w'
                  go_simp
                  with_reducible rfl
                rotate_left
                · simp only [Act.put, List.setIfInBounds_toArray, List.set_cons_zero, List.set_cons_succ, i64_w, i32_w]
                  rfl
                refine pure_ (i := 3) (N := some 47) (v := ?_) (a' := ?_) #[true, false, true, true, false, false, false, false, false, false, false] rfl rfl (any_of HT_.out (by kernel_rfl)) (fun _ _ _ h => h) (Or.inl ⟨by rfl, ?_⟩) ?_ ?_
                rotate_left
                · intro w'
                  go_simp
                  with_reducible rfl
                rotate_left
                · simp only [Act.put, List.setIfInBounds_toArray, List.set_cons_zero, List.set_cons_succ, i64_w, i32_w]
                  rfl
                refine pure_ (i := 4) (N := some 48) (v := ?_) (a' := ?_) #[true, false, true, true, true, false, false, false, false, false, false] rfl rfl (any_of HT_.out (by kernel_rfl)) (fun _ _ _ h => h) (Or.inl ⟨by rfl, ?_⟩) ?_ ?_
                rotate_left
                · intro w'
                  go_simp
                  with_reducible rfl
                rotate_left
                · simp only [Act.put, List.setIfInBounds_toArray, List.set_cons_zero, List.set_cons_succ, i64_w, i32_w]
                  rfl
                refine pure_ (i := 5) (N := some 49) (v := ?_) (a' := ?_) #[true, false, true, true, true, true, false, false, false, false, false] rfl rfl (any_of HT_.out (by kernel_rfl)) (fun _ _ _ h => h) (Or.inl ⟨by rfl, ?_⟩) ?_ ?_
                rotate_left
                · intro w'
                  go_simp
                  with_reducible rfl
                rotate_left
                · simp only [Act.put, List.setIfInBounds_toArray, List.set_cons_zero, List.set_cons_succ, i64_w, i32_w]
                  rfl
                refine take_ (i := 1) (N := some 45) (v := ?_) (a' := ?_) #[true, true, true, true, true, true, false, false, false, false, false] rfl rfl (take_ofW HT_.out HW_.out (by kernel_rfl)) (fun _ _ _ h => h) (Or.inl ⟨by rfl, ?_⟩) hHeld ?_ ?_
                rotate_left
                · rintro w' ⟨s0, s1, s2, s3, s4, s5, s6, s7, s8, s9, s10⟩
                  go_simp
                  with_reducible rfl
                rotate_left
                · simp only [Act.put, List.setIfInBounds_toArray, List.set_cons_zero, List.set_cons_succ, i64_w, i32_w]
                  rfl
                refine take_ (i := 6) (N := some 50) (v := ?_) (a' := ?_) #[true, true, true, true, true, true, true, false, false, false, false] rfl rfl (take_ofW HT_.out HW_.out (by kernel_rfl)) (fun _ _ _ h => h) (Or.inl ⟨by rfl, ?_⟩) hHeld ?_ ?_
                rotate_left
                · rintro w' ⟨s0, s1, s2, s3, s4, s5, s6, s7, s8, s9, s10⟩
                  go_simp
                  with_reducible rfl
                rotate_left
                · simp only [Act.put, List.setIfInBounds_toArray, List.set_cons_zero, List.set_cons_succ, i64_w, i32_w]
                  rfl
                refine one_ (i := 7) (N := some 51) #[true, true, true, true, true, true, true, true, false, false, false] rfl rfl (one_of HT_.out (by kernel_rfl)) (by decide) (fun K hK => ?_)
                refine value_ (w1 := ?_) (v := ?_) (by rfl) rfl ?_ ?_
                rotate_left 2
                · go_simp
                  constructor
                  · rfl
                  · rfl
                refine hK.out _ _ ⟨(blk_cell (blk_alloc BK294.out _) 0).trans rfl, (blk_cell (blk_alloc BK294.out _) 1).trans rfl, (blk_cell (blk_alloc BK294.out _) 2).trans rfl, (blk_cell (blk_alloc BK294.out _) 3).trans rfl, (blk_cell (blk_alloc BK294.out _) 4).trans rfl, (World.cell?_alloc_lt _ _ _ (World.block_lt_of_cell? _ _ (((HB.out.cell (World.block_lt_of_cell? w _ hw305_0)).trans hw305_0)))).trans (((HB.out.cell (World.block_lt_of_cell? w _ hw305_0)).trans hw305_0)), (World.cell?_alloc_lt _ _ _ (World.block_lt_of_cell? _ _ (((HB.out.cell (World.block_lt_of_cell? w _ hw305_1)).trans hw305_1)))).trans (((HB.out.cell (World.block_lt_of_cell? w _ hw305_1)).trans hw305_1)), (World.cell?_alloc_lt _ _ _ (World.block_lt_of_cell? _ _ (((HB.out.cell (World.block_lt_of_cell? w _ hw305_2)).trans hw305_2)))).trans (((HB.out.cell (World.block_lt_of_cell? w _ hw305_2)).trans hw305_2)), (World.cell?_alloc_lt _ _ _ (World.block_lt_of_cell? _ _ (((HB.out.cell (World.block_lt_of_cell? w _ hw305_3)).trans hw305_3)))).trans (((HB.out.cell (World.block_lt_of_cell? w _ hw305_3)).trans hw305_3)), (World.cell?_alloc_lt _ _ _ (World.block_lt_of_cell? _ _ (((HB.out.cell (World.block_lt_of_cell? w _ hw305_4)).trans hw305_4)))).trans (((HB.out.cell (World.block_lt_of_cell? w _ hw305_4)).trans hw305_4)), (World.cell?_alloc_lt _ _ _ (World.block_lt_of_cell? _ _ (((HB.out.cell (World.block_lt_of_cell? w _ hw305_5)).trans hw305_5)))).trans (((HB.out.cell (World.block_lt_of_cell? w _ hw305_5)).trans hw305_5))⟩ (fun hHeld => ?_)
                clear hK K
                refine norm_ (a' := ?_) ?_ ?_
                rotate_left
                · show Act.put _ (some 51) _ = _
                  simp only [Act.put, List.setIfInBounds_toArray, List.set_cons_zero, List.set_cons_succ, i64_w, i32_w]
                  rfl
                refine one_ (i := 8) (N := some 52) #[true, true, true, true, true, true, true, true, true, false, false] rfl rfl (one_of HT_.out (by kernel_rfl)) (by decide) (fun K hK => ?_)
                refine Kd.R_append_step (Kd.int .i64) (w0 := w) w.heap.size (by rfl) (.tmp 45) (.tmp 51) 50 2 (.int .i64 0) 8 rfl Try.underlying50 info2 rfl (by decide) (by omega) u295004 x295004_1 ((rd_T42 l0 x4_1).f4) [.int .i64 ((rd_T42 l0 x4_1).f4)] (fun _ => True) (fun _ => False) rfl rfl ?aP (fun _ hk => hk.elim) ?aF ?aO ?aB ?aS ?aL ?_
                (case aP => exact rfl)
                (case aB => exact (by repeat (first | (with_reducible first | exact HB.out | apply below_alloc | apply pw_below_drewN | apply below_drew1 | refine below_set ?_ GE293.out | refine below_set ?_ GE294.out) | exact HB.out)))
                (case aF => exact (fun _ _ => trivial))
                (case aO => exact (by (with_reducible repeat (first | apply Kd.R_alloc | apply Kd.R_drewN | apply Kd.R_drew)); exact HO_295004.out))
                (case aS => exact (below_size (by repeat (first | (with_reducible first | exact HB.out | apply below_alloc | apply pw_below_drewN | apply below_drew1 | refine below_set ?_ GE293.out | refine below_set ?_ GE294.out) | exact HB.out))))
                (case aL => have := LMc10.out; omega)
                intro v307 w25 ho hb hg hat
                rw [← Ny306.out] at ho
                have n0_ := Aside0.mk (blk_grown (g := gb293) (o := .cells #[.int .i64 0, .int .i16 0, .slice none 0 0, .slice none 0 0, .slice none 0 0] 52 (0, 0)) (by (with_reducible repeat (first | refine blk_drewN ?_ _ | refine blk_drew ?_ | refine blk_alloc ?_ _)); exact BK293.out) hg (Kd.R_ne HO_295004.out BK293.out (by decide)))
                have n1_ := Aside0.mk (blk_grown (g := gb294) (o := .cells #[.int .i64 ((rd_T42 l0 x4_1).f0), .int .i16 ((rd_T42 l0 x4_1).f1), .slice Ao16 y298.length co16, .slice Ao21 y302.length co21, u295004] 52 (0, 0)) (by (with_reducible repeat (first | refine blk_drewN ?_ _ | refine blk_drew ?_ | refine blk_alloc ?_ _)); exact BK294.out) hg (Kd.R_ne HO_295004.out BK294.out (by decide)))
                have n2_ := Aside0.mk (Kd.R_over' (by (with_reducible repeat (first | apply Kd.R_alloc | apply Kd.R_drewN | apply Kd.R_drew)); exact HO300.out) (Kd.R_typed (by (with_reducible repeat (first | apply Kd.R_alloc | apply Kd.R_drewN | apply Kd.R_drew)); exact HO_295004.out)) (by decide) hg)
                have n3_ := Aside0.mk (Kd.R_over' (by (with_reducible repeat (first | apply Kd.R_alloc | apply Kd.R_drewN | apply Kd.R_drew)); exact HO304.out) (Kd.R_typed (by (with_reducible repeat (first | apply Kd.R_alloc | apply Kd.R_drewN | apply Kd.R_drew)); exact HO_295004.out)) (by decide) hg)
                have n4_ := Aside0.mk (hb)
                have n5_ := Aside0.mk (ho)
                clear BK293
                clear BK294
                clear HO300
                clear HO304
                clear HB
                clear HO_295004
                have BK293 := n0_
                have BK294 := n1_
                have HO300 := n2_
                have HO304 := n3_
                have HB := n4_
                have HO308 := n5_
                clear n0_ n1_ n2_ n3_ n4_ n5_
                clear ho hb hg hat
                obtain ⟨Ao26, co26, eo26⟩ := Kd.R_slice HO308.out
                (first | subst eo26 | (injection eo26 with f1_ f2_ f3_; have f4_ := f1_.symm; have f5_ := f3_.symm; clear f1_ f2_ f3_; subst f4_; subst f5_))
                refine hK.out _ _ ⟨(blk_cell BK294.out 0).trans rfl, (blk_cell BK294.out 1).trans rfl, (blk_cell BK294.out 2).trans rfl, (blk_cell BK294.out 3).trans rfl, (blk_cell BK294.out 4).trans rfl, ((HB.out.cell (World.block_lt_of_cell? w _ hw305_0)).trans hw305_0), ((HB.out.cell (World.block_lt_of_cell? w _ hw305_1)).trans hw305_1), ((HB.out.cell (World.block_lt_of_cell? w _ hw305_2)).trans hw305_2), ((HB.out.cell (World.block_lt_of_cell? w _ hw305_3)).trans hw305_3), ((HB.out.cell (World.block_lt_of_cell? w _ hw305_4)).trans hw305_4), ((HB.out.cell (World.block_lt_of_cell? w _ hw305_5)).trans hw305_5)⟩ (fun hHeld => ?_)
                clear hK K
                refine norm_ (a' := ?_) ?_ ?_
                rotate_left
                · show Act.put _ (some 52) _ = _
                  simp only [Act.put, List.setIfInBounds_toArray, List.set_cons_zero, List.set_cons_succ, i64_w, i32_w]
                  rfl
                refine pure_ (i := 9) (N := some 53) (v := ?_) (a' := ?_) #[true, true, true, true, true, true, true, true, true, true, false] rfl rfl (any_of HT_.out (by kernel_rfl)) (fun _ _ _ h => h) (Or.inl ⟨by rfl, ?_⟩) ?_ ?_
                rotate_left
                · intro w'
                  go_simp
                  with_reducible rfl
                rotate_left
                · simp only [Act.put, List.setIfInBounds_toArray, List.set_cons_zero, List.set_cons_succ, i64_w, i32_w]
                  rfl
                refine last_ (i := 10) (N := none) #[true, true, true, true, true, true, true, true, true, true, true] rfl rfl (one_of HT_.out (by kernel_rfl)) (by decide) (fun K hK => ?_)
                have hs27 : w25.cell? ⟨gb294, 4, none⟩ = some (u295004) := (blk_cell BK294.out 4).trans rfl
                have hfs27 := blk_frozen BK294.out 4
                have hns27_0 := NB293_294.out
                have hms27_0 := NB294_293.out
                refine skip_ (w1 := ?_) (by rfl) rfl ?_ ?_
                rotate_left
                · go_simp
                  rfl
                refine hK.out _ _ ?_
                clear hK K
                refine done_ (done_of HT_.out (by kernel_rfl)) ?_
                try go_wp2
                go_roundg k1
                case measure => have := HK1.out; omega
                case rel => exact ⟨(wrap64 (x4_1 + 1)), ((rd_T42 l0 x4_1).f0), ((rd_T42 l0 x4_1).f1), (y298), (y302), (y306), (.slice Ao16 y298.length co16), (.slice Ao21 y302.length co21), (.slice Ao26 y306.length co26), (by first | rfl | (simp; done) | (simp [*]; done)), H', ⟨by have := HK1.out; omega⟩, ⟨by (with_reducible repeat (first | apply Kd.R_alloc | apply Kd.R_drewN | apply Kd.R_drew)); exact Kd.R_mono (Kd.R_far (p := ⟨gb294, 4, none⟩) (Kd.R_types HO300.out BK294.out (by decide)) (fun _ hk => hk.2) (.slice Ao26 y306.length co26)) (fun _ hk => trivial)⟩, ⟨by (with_reducible repeat (first | apply Kd.R_alloc | apply Kd.R_drewN | apply Kd.R_drew)); exact Kd.R_mono (Kd.R_far (p := ⟨gb294, 4, none⟩) (Kd.R_types HO304.out BK294.out (by decide)) (fun _ hk => hk.2) (.slice Ao26 y306.length co26)) (fun _ hk => trivial)⟩, ⟨by (with_reducible repeat (first | apply Kd.R_alloc | apply Kd.R_drewN | apply Kd.R_drew)); exact Kd.R_mono (Kd.R_far (p := ⟨gb294, 4, none⟩) (Kd.R_types HO308.out BK294.out (by decide)) (fun _ hk => hk.2) (.slice Ao26 y306.length co26)) (fun _ hk => trivial)⟩, ⟨by (with_reducible repeat (first | refine blk_drewN ?_ _ | refine blk_drew ?_ | refine blk_alloc ?_ _)); refine blk_far ?_ NB293_294.out _; (with_reducible repeat (first | refine blk_drewN ?_ _ | refine blk_drew ?_ | refine blk_alloc ?_ _)); exact BK293.out⟩, ⟨by (with_reducible repeat (first | refine blk_drewN ?_ _ | refine blk_drew ?_ | refine blk_alloc ?_ _)); refine blk_put (cs := #[.int .i64 ((rd_T42 l0 x4_1).f0), .int .i16 ((rd_T42 l0 x4_1).f1), .slice Ao16 y298.length co16, .slice Ao21 y302.length co21, u295004]) ?_ 4 _ rfl; (with_reducible repeat (first | refine blk_drewN ?_ _ | refine blk_drew ?_ | refine blk_alloc ?_ _)); exact BK294.out⟩, ⟨by repeat (first | (with_reducible first | exact HB.out | apply below_alloc | apply pw_below_drewN | apply below_drew1 | refine below_set ?_ GE293.out | refine below_set ?_ GE294.out) | exact HB.out)⟩⟩
              · rw [if_neg c10] at H
                exact absurd H (by simp)
            · rw [if_neg c9] at H
              exact absurd H (by simp)
          · rw [if_neg c8] at H
            exact absurd H (by simp)
        · rw [if_neg c7] at H
          exact absurd H (by simp)
      · rw [if_neg c6] at H
        have c6b0 : decide (x4_1 < (l0.length : Int)) = false := decide_eq_false c6
        clear c6
        simp only [Option.some.injEq, Prod.mk.injEq] at H
        obtain ⟨rfl, rfl, rfl, rfl, rfl⟩ := H
        have hnb28 := NB294_293.out
        have hnc28 := NB293_294.out
        have hcz29_0 : wr.cell? ⟨gb294, 0, none⟩ = some (.int .i64 x295000_1) := (blk_cell BK294.out 0).trans rfl
        have hcz29_1 : wr.cell? ⟨gb294, 1, none⟩ = some (.int .i16 x295001_1) := (blk_cell BK294.out 1).trans rfl
        have hcz29_2 : wr.cell? ⟨gb294, 2, none⟩ = some (u295002) := (blk_cell BK294.out 2).trans rfl
        have hcz29_3 : wr.cell? ⟨gb294, 3, none⟩ = some (u295003) := (blk_cell BK294.out 3).trans rfl
        have hcz29_4 : wr.cell? ⟨gb294, 4, none⟩ = some (u295004) := (blk_cell BK294.out 4).trans rfl
        have hfz29_0 := blk_frozen BK294.out 0
        have hfz29_1 := blk_frozen BK294.out 1
        have hfz29_2 := blk_frozen BK294.out 2
        have hfz29_3 := blk_frozen BK294.out 3
        have hfz29_4 := blk_frozen BK294.out 4
        have hcz30_0 : wr.cell? ⟨gb293, 0, none⟩ = some (.int .i64 0) := (blk_cell BK293.out 0).trans rfl
        have hcz30_1 : wr.cell? ⟨gb293, 1, none⟩ = some (.int .i16 0) := (blk_cell BK293.out 1).trans rfl
        have hcz30_2 : wr.cell? ⟨gb293, 2, none⟩ = some (.slice none 0 0) := (blk_cell BK293.out 2).trans rfl
        have hcz30_3 : wr.cell? ⟨gb293, 3, none⟩ = some (.slice none 0 0) := (blk_cell BK293.out 3).trans rfl
        have hcz30_4 : wr.cell? ⟨gb293, 4, none⟩ = some (.slice none 0 0) := (blk_cell BK293.out 4).trans rfl
        have hfz30_0 := blk_frozen BK293.out 0
        have hfz30_1 := blk_frozen BK293.out 1
        have hfz30_2 := blk_frozen BK293.out 2
        have hfz30_3 := blk_frozen BK293.out 3
        have hfz30_4 := blk_frozen BK293.out 4
        obtain ⟨Ao31, co31, eo31⟩ := Kd.R_slice HO_295002.out
        subst eo31
        obtain ⟨Ao32, co32, eo32⟩ := Kd.R_slice HO_295003.out
        subst eo32
        obtain ⟨Ao33, co33, eo33⟩ := Kd.R_slice HO_295004.out
        subst eo33
        go_wp2
        refine bodyPost_ret (results_cell_row rfl _ _ gb293 52 #[.int .i64 x295000_1, .int .i16 x295001_1, .slice Ao31 x295002_1.length co31, .slice Ao32 x295003_1.length co32, .slice Ao33 x295004_1.length co33] (0, 0) _ rfl (by (with_reducible repeat (first | refine blk_drewN ?_ _ | refine blk_drew ?_ | refine blk_alloc ?_ _)); refine blk_put (cs := #[.int .i64 x295000_1, .int .i16 x295001_1, .slice Ao31 x295002_1.length co31, .slice Ao32 x295003_1.length co32, .slice none 0 0]) ?_ 4 _ rfl; (with_reducible repeat (first | refine blk_drewN ?_ _ | refine blk_drew ?_ | refine blk_alloc ?_ _)); refine blk_put (cs := #[.int .i64 x295000_1, .int .i16 x295001_1, .slice Ao31 x295002_1.length co31, .slice none 0 0, .slice none 0 0]) ?_ 3 _ rfl; (with_reducible repeat (first | refine blk_drewN ?_ _ | refine blk_drew ?_ | refine blk_alloc ?_ _)); refine blk_put (cs := #[.int .i64 x295000_1, .int .i16 x295001_1, .slice none 0 0, .slice none 0 0, .slice none 0 0]) ?_ 2 _ rfl; (with_reducible repeat (first | refine blk_drewN ?_ _ | refine blk_drew ?_ | refine blk_alloc ?_ _)); refine blk_put (cs := #[.int .i64 x295000_1, .int .i16 0, .slice none 0 0, .slice none 0 0, .slice none 0 0]) ?_ 1 _ rfl; (with_reducible repeat (first | refine blk_drewN ?_ _ | refine blk_drew ?_ | refine blk_alloc ?_ _)); refine blk_put (cs := #[.int .i64 0, .int .i16 0, .slice none 0 0, .slice none 0 0, .slice none 0 0]) ?_ 0 _ rfl; (with_reducible repeat (first | refine blk_drewN ?_ _ | refine blk_drew ?_ | refine blk_alloc ?_ _)); exact BK293.out) Try.underlying52 rfl (by kernel_rfl)) rfl ?_
        exact ⟨_, _, _, by first | rfl | (simp [errW_none, errW_some] <;> rfl) | (simp [*, errW_none, errW_some] <;> rfl), by (with_reducible repeat (first | apply Kd.R_alloc | apply Kd.R_drewN | apply Kd.R_drew)); exact Kd.R_mono (Kd.R_far (p := ⟨gb293, 4, none⟩) (Kd.R_far (p := ⟨gb293, 3, none⟩) (Kd.R_far (p := ⟨gb293, 2, none⟩) (Kd.R_far (p := ⟨gb293, 1, none⟩) (Kd.R_far (p := ⟨gb293, 0, none⟩) (Kd.R_types HO_295002.out BK293.out (by decide)) (fun _ hk => hk.2) (.int .i64 x295000_1)) (fun _ hk => hk.2) (.int .i16 x295001_1)) (fun _ hk => hk.2) (.slice Ao31 x295002_1.length co31)) (fun _ hk => hk.2) (.slice Ao32 x295003_1.length co32)) (fun _ hk => hk.2) (.slice Ao33 x295004_1.length co33)) (fun _ hk => trivial), by (with_reducible repeat (first | apply Kd.R_alloc | apply Kd.R_drewN | apply Kd.R_drew)); exact Kd.R_mono (Kd.R_far (p := ⟨gb293, 4, none⟩) (Kd.R_far (p := ⟨gb293, 3, none⟩) (Kd.R_far (p := ⟨gb293, 2, none⟩) (Kd.R_far (p := ⟨gb293, 1, none⟩) (Kd.R_far (p := ⟨gb293, 0, none⟩) (Kd.R_types HO_295003.out BK293.out (by decide)) (fun _ hk => hk.2) (.int .i64 x295000_1)) (fun _ hk => hk.2) (.int .i16 x295001_1)) (fun _ hk => hk.2) (.slice Ao31 x295002_1.length co31)) (fun _ hk => hk.2) (.slice Ao32 x295003_1.length co32)) (fun _ hk => hk.2) (.slice Ao33 x295004_1.length co33)) (fun _ hk => trivial), by (with_reducible repeat (first | apply Kd.R_alloc | apply Kd.R_drewN | apply Kd.R_drew)); exact Kd.R_mono (Kd.R_far (p := ⟨gb293, 4, none⟩) (Kd.R_far (p := ⟨gb293, 3, none⟩) (Kd.R_far (p := ⟨gb293, 2, none⟩) (Kd.R_far (p := ⟨gb293, 1, none⟩) (Kd.R_far (p := ⟨gb293, 0, none⟩) (Kd.R_types HO_295004.out BK293.out (by decide)) (fun _ hk => hk.2) (.int .i64 x295000_1)) (fun _ hk => hk.2) (.int .i16 x295001_1)) (fun _ hk => hk.2) (.slice Ao31 x295002_1.length co31)) (fun _ hk => hk.2) (.slice Ao32 x295003_1.length co32)) (fun _ hk => hk.2) (.slice Ao33 x295004_1.length co33)) (fun _ hk => trivial), by repeat (first | (with_reducible first | exact HB.out | apply below_alloc | apply pw_below_drewN | apply below_drew1 | refine below_set ?_ GE293.out | refine below_set ?_ GE294.out) | exact HB.out)⟩

end Go.Proofs.Ytnooekflmjebiaa.PIdemPlays
