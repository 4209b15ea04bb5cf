-- PRINTED BY print.sh 35421559b90ae4d0a3588c463048766b98c2df88dd9212a6774a882060cdf62d: not written by this session
import Derived.Test.YtkhopknpadncdaaPDiskMemoryx0
import Derived.Test.YtkhopknpadncdaaPDiskMemoryx7
import Derived.Test.YtkhopknpadncdaaPDiskMemoryx11
namespace Go.Proofs.Ytkhopknpadncdaa.PDiskMemory
open Go.RowKit Go.Proofs.YtkhopknpadncdaaW.PrintWords Go.Proofs.YtkhopknpadncdaaW.PrintLast Go.Proofs.YtkhopknpadncdaaW.PrintMore
attribute [local go_sem] max2_int min2_int max_two min_two max_three min_three max_four min_four   -- for this text's walks alone
set_option linter.unusedVariables false
set_option linter.unusedSimpArgs false

mutual
def leatref18_After.l0 : Nat → Int → List Int → Int → ByteArray → List Int → List (S109) → Option (List Int)
  | 0, _, _, _, _, _, _ => none
  | k + 1, x1, x5, x6, x321000, x321001, x321002 => if x6 < (x321002.length : Int) then (leatref18_After.j1 k x1 x5 x6 (decide (x6 < x1)) x321000 x321001 x321002) else (leatref18_After.j1 k x1 x5 x6 false x321000 x321001 x321002)
def leatref18_After.j1 : Nat → Int → List Int → Int → Bool → ByteArray → List Int → List (S109) → Option (List Int)
  | 0, _, _, _, _, _, _, _ => none
  | k + 1, x1, x5, x6, x19, x321000, x321001, x321002 => if x19 = true then (if 0 ≤ x6 then (if x6 < (x321002.length : Int) then (if (rd_T109 x321002 x6).f0 = true then ((leatref01_Piece.f k x5 0 ((rd_T109 x321002 x6).f1)).bind fun t326 => (leatref18_After.l0 k x1 t326 (wrap64 (x6 + 1)) x321000 x321001 x321002)) else (if x5.length < 140737488355328 then (leatref18_After.l0 k x1 (x5 ++ [(rd_T109 x321002 x6).f2]) (wrap64 (x6 + 1)) x321000 x321001 x321002) else (none))) else (none)) else (none)) else (some x5)
end
def leatref18_After.f (k : Nat) (a0_0 : ByteArray) (l0_1 : List Int) (l0_2 : List (S109)) (a1 : Int) : Option (List Int) := (leatref01_Copy.f k l0_1).bind fun t321 => (leatref18_After.l0 k a1 t321 0 a0_0 l0_1 l0_2)
theorem leatref18_After.mono_l : ∀ k, (∀ y0 y1 y2 y3 y4 y5, LeO (leatref18_After.l0 k y0 y1 y2 y3 y4 y5) (leatref18_After.l0 (k + 1) y0 y1 y2 y3 y4 y5)) ∧ (∀ y0 y1 y2 y3 y4 y5 y6, LeO (leatref18_After.j1 k y0 y1 y2 y3 y4 y5 y6) (leatref18_After.j1 (k + 1) y0 y1 y2 y3 y4 y5 y6))
  | 0 => ⟨fun _ _ _ _ _ _ r h => by simp [leatref18_After.l0] at h, fun _ _ _ _ _ _ _ r h => by simp [leatref18_After.j1] at h⟩
  | k + 1 => by
    obtain ⟨ih0, ih1⟩ := leatref18_After.mono_l k
    refine ⟨?_, ?_⟩
    · intro y0 y1 y2 y3 y4 y5
      unfold leatref18_After.l0
      repeat' first
      | (with_reducible exact ih0 _ _ _ _ _ _)
      | (with_reducible exact ih1 _ _ _ _ _ _ _)
      | (with_reducible exact leatref01_Copy.mono _ _)
      | (with_reducible exact leatref01_Piece.mono _ _ _ _)
      | (with_reducible exact LeO.refl _)
      | (with_reducible exact LeO.none _)
      | (with_reducible refine LeO.ite ?_ ?_)
      | (with_reducible refine LeO.bind ?_ (fun _ => ?_))
      | exact ih0 _ _ _ _ _ _
      | exact ih1 _ _ _ _ _ _ _
      | exact leatref01_Copy.mono _ _
      | exact leatref01_Piece.mono _ _ _ _
      | exact LeO.none _
      | refine LeO.ite ?_ ?_
      | refine LeO.bind ?_ (fun _ => ?_)
    · intro y0 y1 y2 y3 y4 y5 y6
      unfold leatref18_After.j1
      repeat' first
      | (with_reducible exact ih0 _ _ _ _ _ _)
      | (with_reducible exact ih1 _ _ _ _ _ _ _)
      | (with_reducible exact leatref01_Copy.mono _ _)
      | (with_reducible exact leatref01_Piece.mono _ _ _ _)
      | (with_reducible exact LeO.refl _)
      | (with_reducible exact LeO.none _)
      | (with_reducible refine LeO.ite ?_ ?_)
      | (with_reducible refine LeO.bind ?_ (fun _ => ?_))
      | exact ih0 _ _ _ _ _ _
      | exact ih1 _ _ _ _ _ _ _
      | exact leatref01_Copy.mono _ _
      | exact leatref01_Piece.mono _ _ _ _
      | exact LeO.none _
      | refine LeO.ite ?_ ?_
      | refine LeO.bind ?_ (fun _ => ?_)
theorem leatref18_After.mono : ∀ a0 a1 a2 a3 k, LeO (leatref18_After.f k a0 a1 a2 a3) (leatref18_After.f (k + 1) a0 a1 a2 a3) := by
  intro a0 a1 a2 a3 k
  obtain ⟨ih0, ih1⟩ := leatref18_After.mono_l k
  unfold leatref18_After.f
  repeat' first
      | (with_reducible exact ih0 _ _ _ _ _ _)
      | (with_reducible exact ih1 _ _ _ _ _ _ _)
      | (with_reducible exact leatref01_Copy.mono _ _)
      | (with_reducible exact leatref01_Piece.mono _ _ _ _)
      | (with_reducible exact LeO.refl _)
      | (with_reducible exact LeO.none _)
      | (with_reducible refine LeO.ite ?_ ?_)
      | (with_reducible refine LeO.bind ?_ (fun _ => ?_))
      | exact ih0 _ _ _ _ _ _
      | exact ih1 _ _ _ _ _ _ _
      | exact leatref01_Copy.mono _ _
      | exact leatref01_Piece.mono _ _ _ _
      | exact LeO.none _
      | refine LeO.ite ?_ ?_
      | refine LeO.bind ?_ (fun _ => ?_)
set_option maxHeartbeats 8000000 in
set_option maxRecDepth 100000 in
theorem leatref18_After.calls (k : Nat) (a0_0 : ByteArray) (A0_1 : Option Addr) (c0_1 : Nat) (l0_1 : List Int) (A0_2 : Option Addr) (c0_2 : Nat) (l0_2 : List (S109)) (a1 : Int) (r : List Int) (w : World) (hr0_1 : Kd.C (Kd.int .u8) w A0_1 l0_1.length l0_1) (hc0_1 : l0_1.length ≤ c0_1) (hr0_2 : Kd.C k109 w A0_2 l0_2.length l0_2) (hc0_2 : l0_2.length ≤ c0_2) (h : leatref18_After.f k a0_0 l0_1 l0_2 a1 = some r) :
    Calls Try.prog 74 #[.agg #[.string a0_0, .slice A0_1 l0_1.length c0_1, .slice A0_2 l0_2.length c0_2], .int .i64 a1] w fun e w' => ∃ v0_ : Value, e = .returned (v0_) ∧ Kd.R (Kd.int .u8) 5 w' w.heap.size (fun _ => True) v0_ r ∧ Below w.heap.size w w' := by
  have hu94 := Try.underlying94
  have HR0_1 := Aside0.mk hr0_1
  have HC0_1 := Aside0.mk hc0_1
  clear hr0_1 hc0_1
  have HR0_2 := Aside0.mk hr0_2
  have HC0_2 := Aside0.mk hc0_2
  clear hr0_2 hc0_2
  have HB := Aside0.mk (Below.refl w.heap.size w)
  have H : ((leatref01_Copy.f k l0_1).bind fun t321 => (leatref18_After.l0 k a1 t321 0 a0_0 l0_1 l0_2)) = some r := h
  clear h
  replace H := Option.bind_eq_some_iff.mp H
  obtain ⟨t321, A30, H⟩ := H
  replace H : (leatref18_After.l0 k a1 t321 0 a0_0 l0_1 l0_2) = some r := H
  have A3 := Aside0.mk A30
  clear A30
  have H' := Aside0.mk H
  clear H
  go_enter Try.func74, Try.ntmps74
  go_wp2_with (first | ((with_reducible refine gate_dst (N := 2) rfl ?_); refine box_event ?hg (N := 2) ?hd (cs := #[.string a0_0, .slice A0_1 l0_1.length c0_1, .slice A0_2 l0_2.length c0_2]) (t := 94) ?hr ?_; (case hd => rfl); (case hg => rfl); (case hr => first | (go_simp; done) | (go_simp; rfl)); intro gb320 hg w4 hbox hb; have n0_ := Aside0.mk (below_step (by repeat (first | (with_reducible first | exact HB.out | apply below_alloc | apply pw_below_drewN | apply below_drew1) | exact HB.out)) hb); have n1_ := Aside0.mk (hbox); have n2_ := Aside0.mk ((by rw [hg]; exact (below_size (by repeat (first | (with_reducible first | exact HB.out | apply below_alloc | apply pw_below_drewN | apply below_drew1) | exact HB.out))) : w.heap.size ≤ gb320)); have n3_ := Aside0.mk ((by rw [hg]; exact (below_size (by repeat (first | (with_reducible first | exact HB.out | apply below_alloc | apply pw_below_drewN | apply below_drew1) | exact HB.out))) : w.heap.size ≤ gb320)); clear HB; have HB := n0_; have BK320 := n1_; have GW320 := n2_; have GE320 := n3_; clear n0_ n1_ n2_ n3_; clear hb hbox hg; have hcz5_0 : w4.cell? ⟨gb320, 0, none⟩ = some (.string a0_0) := (blk_cell BK320.out 0).trans rfl; have hcz5_1 : w4.cell? ⟨gb320, 1, none⟩ = some (.slice A0_1 l0_1.length c0_1) := (blk_cell BK320.out 1).trans rfl; have hcz5_2 : w4.cell? ⟨gb320, 2, none⟩ = some (.slice A0_2 l0_2.length c0_2) := (blk_cell BK320.out 2).trans rfl; have hfz5_0 := blk_frozen BK320.out 0; have hfz5_1 := blk_frozen BK320.out 1; have hfz5_2 := blk_frozen BK320.out 2) | ((with_reducible refine gate_callee (f := 29) rfl ?_); refine goesL_ (some 9) rfl rfl Try.func29 (by kernel_rfl) rfl #[.slice A0_1 l0_1.length c0_1] rfl (by (try simp only [List.map_toArray, List.map_cons, List.map_nil]); first | done | rfl | (simp only [List.length_drop, List.length_take]; rfl)) ?_; (with_reducible refine (leatref01_Copy.calls k _ _ l0_1 t321 _ ?side1 ?side2 A3.out).mono ?_); (case side1 => repeat (first | exact (Kd.C_below HR0_1.out HB.out) | (with_reducible refine Kd.C_alloc ?_ _) | (with_reducible refine Kd.C_drewN ?_ _) | (with_reducible refine Kd.C_drew ?_))); (case side2 => exact HC0_1.out); rintro e w6 ⟨v322, rfl, ho0, hb⟩; refine ⟨_, rfl, ?_⟩; have n0_ := Aside0.mk (Kd.R_lower ho0 (below_size (by repeat (first | (with_reducible first | exact HB.out | apply below_alloc | apply pw_below_drewN | apply below_drew1 | refine below_set ?_ GE320.out) | exact HB.out)))); have n1_ := Aside0.mk (blk_below (g := gb320) (o := .cells #[.string a0_0, .slice A0_1 l0_1.length c0_1, .slice A0_2 l0_2.length c0_2] 94 (0, 0)) (by (with_reducible repeat (first | refine blk_drewN ?_ _ | refine blk_drew ?_ | refine blk_alloc ?_ _)); exact BK320.out) hb); have n2_ := Aside0.mk (below_step (by repeat (first | (with_reducible first | exact HB.out | apply below_alloc | apply pw_below_drewN | apply below_drew1 | refine below_set ?_ GE320.out) | exact HB.out)) hb); clear BK320; clear HB; have HO323 := n0_; have BK320 := n1_; have HB := n2_; clear n0_ n1_ n2_; (try clear hb); (try clear hb2); (try clear hk); (try clear hi); (try clear ho0)))
  go_loopg [5, 6] k (fun kq v5 v6 w' => ∃ (x5_1 : List Int) (x6_1 : Int), v6 = .int .i64 x6_1 ∧ Aside0 (leatref18_After.l0 kq a1 x5_1 x6_1 a0_0 l0_1 l0_2 = some r) ∧ Aside0 (kq ≤ k) ∧ Aside0 (Kd.R (Kd.int .u8) 5 w' w.heap.size (fun _ => True) v5 x5_1) ∧ Aside0 (w'.heap[gb320]? = some (.cells #[.string a0_0, (.slice A0_1 l0_1.length c0_1), (.slice A0_2 l0_2.length c0_2)] 94 (0, 0))) ∧ Aside0 (Below w.heap.size w w'))
  case atStart => exact ⟨(t321), (0), (by first | rfl | (simp; done) | (simp [*]; done)), H', ⟨Nat.le_refl _⟩, ⟨by (with_reducible repeat (first | apply Kd.R_alloc | apply Kd.R_drewN | apply Kd.R_drew)); exact HO323.out⟩, ⟨by (with_reducible repeat (first | refine blk_drewN ?_ _ | refine blk_drew ?_ | refine blk_alloc ?_ _)); exact BK320.out⟩, ⟨by repeat (first | (with_reducible first | exact HB.out | apply below_alloc | apply pw_below_drewN | apply below_drew1 | refine below_set ?_ GE320.out) | exact HB.out)⟩⟩
  case round =>
    clear H'
    try clear c2
    try clear p2
    try clear hcz5_0
    try clear hcz5_1
    try clear hcz5_2
    try clear hfz5_0
    try clear hfz5_1
    try clear hfz5_2
    obtain ⟨x5_1, x6_1, rfl, HA, HK1, HO_5, BK320, HB⟩ := hrel
    cases gk with
    | zero => exact absurd HA.out (by simp [leatref18_After.l0])
    | succ k1 =>
      have H := HA.out
      clear HA
      simp only [leatref18_After.l0] at H
      have HC7 := Aside0.mk H
      clear H
      go_upto_region 3 with (fail)
      go_cut [19] (fun v19 wc => ∃ (kq : Nat) (x19_6 : Bool), v19 = .bool x19_6 ∧ Aside0 (leatref18_After.j1 kq a1 x5_1 x6_1 x19_6 a0_0 l0_1 l0_2 = some r) ∧ Aside0 (kq ≤ k1) ∧ Aside0 (Kd.R (Kd.int .u8) 5 wc w.heap.size (fun _ => True) u5 x5_1) ∧ Aside0 (wc.heap[gb320]? = some (.cells #[.string a0_0, (.slice A0_1 l0_1.length c0_1), (.slice A0_2 l0_2.length c0_2)] 94 (0, 0))) ∧ Aside0 (Below w.heap.size w wc))
      case first =>
        have H := HC7.out
        clear HC7
        by_cases c8 : x6_1 < (l0_2.length : Int)
        · rw [if_pos c8] at H
          have c8b0 : decide (x6_1 < (l0_2.length : Int)) = true := decide_eq_true c8
          clear c8
          (first | rw [c8b0] | (simp only [i64_w, i32_w]; rw [c8b0]) | skip)
          have H' := Aside0.mk H
          clear H
          have hcz9_0 : wr.cell? ⟨gb320, 0, none⟩ = some (.string a0_0) := (blk_cell BK320.out 0).trans rfl
          have hcz9_1 : wr.cell? ⟨gb320, 1, none⟩ = some (.slice A0_1 l0_1.length c0_1) := (blk_cell BK320.out 1).trans rfl
          have hcz9_2 : wr.cell? ⟨gb320, 2, none⟩ = some (.slice A0_2 l0_2.length c0_2) := (blk_cell BK320.out 2).trans rfl
          have hfz9_0 := blk_frozen BK320.out 0
          have hfz9_1 := blk_frozen BK320.out 1
          have hfz9_2 := blk_frozen BK320.out 2
          go_wp2
          go_meet
          case rel => exact ⟨_, (decide (x6_1 < a1)), (by first | rfl | (simp; done) | (simp [*]; done)), H', ⟨by have := HK1.out; first | omega | exact Nat.le_refl _⟩, ⟨by (with_reducible repeat (first | apply Kd.R_alloc | apply Kd.R_drewN | apply Kd.R_drew)); exact HO_5.out⟩, ⟨by (with_reducible repeat (first | refine blk_drewN ?_ _ | refine blk_drew ?_ | refine blk_alloc ?_ _)); exact BK320.out⟩, ⟨by repeat (first | (with_reducible first | exact HB.out | apply below_alloc | apply pw_below_drewN | apply below_drew1 | refine below_set ?_ GE320.out) | exact HB.out)⟩⟩
        · rw [if_neg c8] at H
          have c8b0 : decide (x6_1 < (l0_2.length : Int)) = false := decide_eq_false c8
          clear c8
          (first | rw [c8b0] | (simp only [i64_w, i32_w]; rw [c8b0]) | skip)
          have H' := Aside0.mk H
          clear H
          have hcz10_0 : wr.cell? ⟨gb320, 0, none⟩ = some (.string a0_0) := (blk_cell BK320.out 0).trans rfl
          have hcz10_1 : wr.cell? ⟨gb320, 1, none⟩ = some (.slice A0_1 l0_1.length c0_1) := (blk_cell BK320.out 1).trans rfl
          have hcz10_2 : wr.cell? ⟨gb320, 2, none⟩ = some (.slice A0_2 l0_2.length c0_2) := (blk_cell BK320.out 2).trans rfl
          have hfz10_0 := blk_frozen BK320.out 0
          have hfz10_1 := blk_frozen BK320.out 1
          have hfz10_2 := blk_frozen BK320.out 2
          go_wp2
          go_meet
          case rel => exact ⟨_, (false), (by first | rfl | (simp; done) | (simp [*]; done)), H', ⟨by have := HK1.out; first | omega | exact Nat.le_refl _⟩, ⟨by (with_reducible repeat (first | apply Kd.R_alloc | apply Kd.R_drewN | apply Kd.R_drew)); exact HO_5.out⟩, ⟨by (with_reducible repeat (first | refine blk_drewN ?_ _ | refine blk_drew ?_ | refine blk_alloc ?_ _)); exact BK320.out⟩, ⟨by repeat (first | (with_reducible first | exact HB.out | apply below_alloc | apply pw_below_drewN | apply below_drew1 | refine below_set ?_ GE320.out) | exact HB.out)⟩⟩
      case rest =>
        clear HC7
        try clear c2
        try clear p2
        try clear c7
        try clear c8
        try clear c8b0
        try clear hcz10_0
        try clear hcz10_1
        try clear hcz10_2
        try clear hcz5_0
        try clear hcz5_1
        try clear hcz5_2
        try clear hcz9_0
        try clear hcz9_1
        try clear hcz9_2
        try clear hfz10_0
        try clear hfz10_1
        try clear hfz10_2
        try clear hfz5_0
        try clear hfz5_1
        try clear hfz5_2
        try clear hfz9_0
        try clear hfz9_1
        try clear hfz9_2
        try clear p2
        obtain ⟨kq, x19_6, rfl, HA, HJ6, HO_5, BK320, HB⟩ := hcut
        cases kq with
        | zero => exact absurd HA.out (by simp [leatref18_After.j1])
        | succ kj6 =>
          have H := HA.out
          clear HA
          simp only [leatref18_After.j1] at H
          by_cases c11 : x19_6 = true
          · subst c11
            have H1 : (if 0 ≤ x6_1 then (if x6_1 < (l0_2.length : Int) then (if (rd_T109 l0_2 x6_1).f0 = true then ((leatref01_Piece.f kj6 x5_1 0 ((rd_T109 l0_2 x6_1).f1)).bind fun t326 => (leatref18_After.l0 kj6 a1 t326 (wrap64 (x6_1 + 1)) a0_0 l0_1 l0_2)) else (if x5_1.length < 140737488355328 then (leatref18_After.l0 kj6 a1 (x5_1 ++ [(rd_T109 l0_2 x6_1).f2]) (wrap64 (x6_1 + 1)) a0_0 l0_1 l0_2) else (none))) else (none)) else (none)) = some r := by rw [if_pos rfl] at H; exact H
            clear H
            have H := H1
            clear H1
            by_cases c12 : 0 ≤ x6_1
            · rw [if_pos c12] at H
              have c12b0 : decide (0 ≤ x6_1) = true := decide_eq_true c12
              clear c12
              by_cases c13 : x6_1 < (l0_2.length : Int)
              · rw [if_pos c13] at H
                have c13b0 : decide (x6_1 < (l0_2.length : Int)) = true := decide_eq_true c13
                clear c13
                obtain ⟨bq14, hbq14⟩ : ∃ b_ : Bool, b_ = ((rd_T109 l0_2 x6_1).f0) := ⟨_, rfl⟩
                replace H : (if bq14 = true then ((leatref01_Piece.f kj6 x5_1 0 ((rd_T109 l0_2 x6_1).f1)).bind fun t326 => (leatref18_After.l0 kj6 a1 t326 (wrap64 (x6_1 + 1)) a0_0 l0_1 l0_2)) else (if x5_1.length < 140737488355328 then (leatref18_After.l0 kj6 a1 (x5_1 ++ [(rd_T109 l0_2 x6_1).f2]) (wrap64 (x6_1 + 1)) a0_0 l0_1 l0_2) else (none))) = some r := by rw [← hbq14] at H; exact H
                have Nbq14 := Aside0.mk hbq14
                clear hbq14
                by_cases c15 : bq14 = true
                · subst c15
                  have H1 : ((leatref01_Piece.f kj6 x5_1 0 ((rd_T109 l0_2 x6_1).f1)).bind fun t326 => (leatref18_After.l0 kj6 a1 t326 (wrap64 (x6_1 + 1)) a0_0 l0_1 l0_2)) = some r := by rw [if_pos rfl] at H; exact H
                  clear H
                  have H := H1
                  clear H1
                  replace H := Option.bind_eq_some_iff.mp H
                  obtain ⟨t326, A160, H⟩ := H
                  replace H : (leatref18_After.l0 kj6 a1 t326 (wrap64 (x6_1 + 1)) a0_0 l0_1 l0_2) = some r := H
                  have A16 := Aside0.mk A160
                  clear A160
                  have H' := Aside0.mk H
                  clear H
                  have hcz17_0 : wc.cell? ⟨gb320, 0, none⟩ = some (.string a0_0) := (blk_cell BK320.out 0).trans rfl
                  have hcz17_1 : wc.cell? ⟨gb320, 1, none⟩ = some (.slice A0_1 l0_1.length c0_1) := (blk_cell BK320.out 1).trans rfl
                  have hcz17_2 : wc.cell? ⟨gb320, 2, none⟩ = some (.slice A0_2 l0_2.length c0_2) := (blk_cell BK320.out 2).trans rfl
                  have hfz17_0 := blk_frozen BK320.out 0
                  have hfz17_1 := blk_frozen BK320.out 1
                  have hfz17_2 := blk_frozen BK320.out 2
                  have p324 : 0 ≤ (x6_1 : Int) := of_decide_eq_true (by first | (with_reducible assumption) | assumption)
                  have q324 : x6_1 < (l0_2.length : Int) := of_decide_eq_true (by first | (with_reducible assumption) | assumption)
                  obtain ⟨ad324, e324, hx324_0, hx324_1, hx324_2⟩ := at_T109 HR0_2.out x6_1 p324 q324
                  (try rw [← Nbq14.out] at hx324_0)
                  cases e324
                  replace hx324_0 := (HB.out.cell (World.block_lt_of_cell? w _ hx324_0)).trans hx324_0
                  replace hx324_1 := (HB.out.cell (World.block_lt_of_cell? w _ hx324_1)).trans hx324_1
                  replace hx324_2 := (HB.out.cell (World.block_lt_of_cell? w _ hx324_2)).trans hx324_2
                  replace p324 := eq_true p324
                  replace q324 := eq_true q324
                  have p325 : 0 ≤ (x6_1 : Int) := of_decide_eq_true (by first | (with_reducible assumption) | assumption)
                  have q325 : x6_1 < (l0_2.length : Int) := of_decide_eq_true (by first | (with_reducible assumption) | assumption)
                  obtain ⟨ad325, e325, hx325_0, hx325_1, hx325_2⟩ := at_T109 HR0_2.out x6_1 p325 q325
                  (try rw [← Nbq14.out] at hx325_0)
                  obtain rfl : ad324 = ad325 := (by injection e325)
                  replace hx325_0 := (HB.out.cell (World.block_lt_of_cell? w _ hx325_0)).trans hx325_0
                  replace hx325_1 := (HB.out.cell (World.block_lt_of_cell? w _ hx325_1)).trans hx325_1
                  replace hx325_2 := (HB.out.cell (World.block_lt_of_cell? w _ hx325_2)).trans hx325_2
                  replace p325 := eq_true p325
                  replace q325 := eq_true q325
                  obtain ⟨Ao18, co18, eo18⟩ := Kd.R_slice HO_5.out
                  subst eo18
                  go_wp2_with (first | ((with_reducible refine gate_callee (f := 37) rfl ?_); refine goesL_ (some 35) rfl rfl Try.func37 (by kernel_rfl) rfl #[.slice Ao18 x5_1.length co18, .int .i64 0, .int .i64 ((rd_T109 l0_2 x6_1).f1)] rfl (by (try simp only [List.map_toArray, List.map_cons, List.map_nil]); first | done | rfl | (simp only [List.length_drop, List.length_take]; rfl)) ?_; (with_reducible refine (leatref01_Piece.calls kj6 _ _ x5_1 0 ((rd_T109 l0_2 x6_1).f1) t326 _ ?side1 ?side2 A16.out).mono ?_); (case side1 => repeat (first | exact (Kd.R_reads' HO_5.out).2.2 | (with_reducible refine Kd.C_alloc ?_ _) | (with_reducible refine Kd.C_drewN ?_ _) | (with_reducible refine Kd.C_drew ?_))); (case side2 => exact (Kd.R_reads' HO_5.out).2.1); rintro e w19 ⟨v327, rfl, ho0, hb⟩; refine ⟨_, rfl, ?_⟩; have n0_ := Aside0.mk (Kd.R_elder' (by (with_reducible repeat (first | apply Kd.R_alloc | apply Kd.R_drewN | apply Kd.R_drew)); exact HO_5.out) (Kd.R_base ho0) hb); have n1_ := Aside0.mk (Kd.R_lower (Kd.R_new' ho0 (Kd.R_lt (by (with_reducible repeat (first | apply Kd.R_alloc | apply Kd.R_drewN | apply Kd.R_drew)); exact HO_5.out))) (below_size (by repeat (first | (with_reducible first | exact HB.out | apply below_alloc | apply pw_below_drewN | apply below_drew1 | refine below_set ?_ GE320.out) | exact HB.out)))); have n2_ := Aside0.mk (blk_below (g := gb320) (o := .cells #[.string a0_0, .slice A0_1 l0_1.length c0_1, .slice (some ad324) l0_2.length c0_2] 94 (0, 0)) (by (with_reducible repeat (first | refine blk_drewN ?_ _ | refine blk_drew ?_ | refine blk_alloc ?_ _)); exact BK320.out) hb); have n3_ := Aside0.mk (below_step (by repeat (first | (with_reducible first | exact HB.out | apply below_alloc | apply pw_below_drewN | apply below_drew1 | refine below_set ?_ GE320.out) | exact HB.out)) hb); clear HO_5; clear BK320; clear HB; have HO_5 := n0_; have HO328 := n1_; have BK320 := n2_; have HB := n3_; clear n0_ n1_ n2_ n3_; (try clear hb); (try clear hb2); (try clear hk); (try clear hi); (try clear ho0)))
                  go_roundg kj6
                  case measure => have := HK1.out; have := HJ6.out; omega
                  case rel => exact ⟨(t326), (wrap64 (x6_1 + 1)), (by first | rfl | (simp; done) | (simp [*]; done)), H', ⟨by have := HK1.out; have := HJ6.out; omega⟩, ⟨by (with_reducible repeat (first | apply Kd.R_alloc | apply Kd.R_drewN | apply Kd.R_drew)); exact Kd.R_mono HO328.out (fun _ hk => trivial)⟩, ⟨by (with_reducible repeat (first | refine blk_drewN ?_ _ | refine blk_drew ?_ | refine blk_alloc ?_ _)); exact BK320.out⟩, ⟨by repeat (first | (with_reducible first | exact HB.out | apply below_alloc | apply pw_below_drewN | apply below_drew1 | refine below_set ?_ GE320.out) | exact HB.out)⟩⟩
                · replace c15 := Bool.eq_false_iff.mpr c15
                  subst c15
                  have H1 : (if x5_1.length < 140737488355328 then (leatref18_After.l0 kj6 a1 (x5_1 ++ [(rd_T109 l0_2 x6_1).f2]) (wrap64 (x6_1 + 1)) a0_0 l0_1 l0_2) else (none)) = some r := by rw [if_neg (show ¬ (false = true) by decide)] at H; exact H
                  clear H
                  have H := H1
                  clear H1
                  by_cases c20 : x5_1.length < 140737488355328
                  · rw [if_pos c20] at H
                    have LMc20 := Aside0.mk c20
                    clear c20
                    obtain ⟨y330, hy330⟩ : ∃ y_ : List Int, y_ = (x5_1 ++ [(rd_T109 l0_2 x6_1).f2]) := ⟨_, rfl⟩
                    replace H : (leatref18_After.l0 kj6 a1 y330 (wrap64 (x6_1 + 1)) a0_0 l0_1 l0_2) = some r := by first | (rw [hy330]; with_reducible exact H) | (have H2_ := (Option.bind_some _ _).symm.trans H; rw [hy330]; with_reducible exact H2_) | (have H2_ := (Option.bind_some _ _).symm.trans H; with_reducible exact H2_) | with_reducible exact H | (rw [hy330]; exact H) | exact H
                    have Ny330 := Aside0.mk hy330
                    clear hy330
                    have H' := Aside0.mk H
                    clear H
                    have hcz21_0 : wc.cell? ⟨gb320, 0, none⟩ = some (.string a0_0) := (blk_cell BK320.out 0).trans rfl
                    have hcz21_1 : wc.cell? ⟨gb320, 1, none⟩ = some (.slice A0_1 l0_1.length c0_1) := (blk_cell BK320.out 1).trans rfl
                    have hcz21_2 : wc.cell? ⟨gb320, 2, none⟩ = some (.slice A0_2 l0_2.length c0_2) := (blk_cell BK320.out 2).trans rfl
                    have hfz21_0 := blk_frozen BK320.out 0
                    have hfz21_1 := blk_frozen BK320.out 1
                    have hfz21_2 := blk_frozen BK320.out 2
                    have p324 : 0 ≤ (x6_1 : Int) := of_decide_eq_true (by first | (with_reducible assumption) | assumption)
                    have q324 : x6_1 < (l0_2.length : Int) := of_decide_eq_true (by first | (with_reducible assumption) | assumption)
                    obtain ⟨ad324, e324, hx324_0, hx324_1, hx324_2⟩ := at_T109 HR0_2.out x6_1 p324 q324
                    (try rw [← Nbq14.out] at hx324_0)
                    cases e324
                    replace hx324_0 := (HB.out.cell (World.block_lt_of_cell? w _ hx324_0)).trans hx324_0
                    replace hx324_1 := (HB.out.cell (World.block_lt_of_cell? w _ hx324_1)).trans hx324_1
                    replace hx324_2 := (HB.out.cell (World.block_lt_of_cell? w _ hx324_2)).trans hx324_2
                    replace p324 := eq_true p324
                    replace q324 := eq_true q324
                    have p329 : 0 ≤ (x6_1 : Int) := of_decide_eq_true (by first | (with_reducible assumption) | assumption)
                    have q329 : x6_1 < (l0_2.length : Int) := of_decide_eq_true (by first | (with_reducible assumption) | assumption)
                    obtain ⟨ad329, e329, hx329_0, hx329_1, hx329_2⟩ := at_T109 HR0_2.out x6_1 p329 q329
                    (try rw [← Nbq14.out] at hx329_0)
                    obtain rfl : ad324 = ad329 := (by injection e329)
                    replace hx329_0 := (HB.out.cell (World.block_lt_of_cell? w _ hx329_0)).trans hx329_0
                    replace hx329_1 := (HB.out.cell (World.block_lt_of_cell? w _ hx329_1)).trans hx329_1
                    replace hx329_2 := (HB.out.cell (World.block_lt_of_cell? w _ hx329_2)).trans hx329_2
                    replace p329 := eq_true p329
                    replace q329 := eq_true q329
                    go_wp2_with (first | ((with_reducible refine gate_builtin (b := .append) (xs := #[.tmp 36, .tmp 43]) rfl ?_); at_builtin; refine Kd.R_append (Kd.int .u8) (w0 := w) w.heap.size rfl (.tmp 36) (.tmp 43) 34 5 (.int .u8 0) 1 rfl Try.underlying34 info5 rfl (by decide) (by omega) u5 x5_1 ((rd_T109 l0_2 x6_1).f2) [.int .u8 ((rd_T109 l0_2 x6_1).f2)] (fun _ => True) (fun _ => False) rfl rfl ?aP (fun _ hk => hk.elim) ?aF ?aO ?aB ?aS ?aL ?_; (case aP => exact rfl); (case aB => exact (by repeat (first | (with_reducible first | exact HB.out | apply below_alloc | apply pw_below_drewN | apply below_drew1 | refine below_set ?_ GE320.out) | exact HB.out))); (case aF => exact (fun _ _ => trivial)); (case aO => exact (by (with_reducible repeat (first | apply Kd.R_alloc | apply Kd.R_drewN | apply Kd.R_drew)); exact HO_5.out)); (case aS => exact (below_size (by repeat (first | (with_reducible first | exact HB.out | apply below_alloc | apply pw_below_drewN | apply below_drew1 | refine below_set ?_ GE320.out) | exact HB.out)))); (case aL => have := LMc20.out; omega); intro v331 w22 ho hb hg hat; rw [← Ny330.out] at ho; have n0_ := Aside0.mk (blk_grown (g := gb320) (o := .cells #[.string a0_0, .slice A0_1 l0_1.length c0_1, .slice (some ad324) l0_2.length c0_2] 94 (0, 0)) (by (with_reducible repeat (first | refine blk_drewN ?_ _ | refine blk_drew ?_ | refine blk_alloc ?_ _)); exact BK320.out) hg (Kd.R_ne HO_5.out BK320.out (by decide))); have n1_ := Aside0.mk (hb); have n2_ := Aside0.mk (ho); clear BK320; clear HB; clear HO_5; have BK320 := n0_; have HB := n1_; have HO332 := n2_; clear n0_ n1_ n2_; clear ho hb hg hat))
                    go_roundg kj6
                    case measure => have := HK1.out; have := HJ6.out; omega
                    case rel => exact ⟨(y330), (wrap64 (x6_1 + 1)), (by first | rfl | (simp; done) | (simp [*]; done)), H', ⟨by have := HK1.out; have := HJ6.out; omega⟩, ⟨by (with_reducible repeat (first | apply Kd.R_alloc | apply Kd.R_drewN | apply Kd.R_drew)); exact HO332.out⟩, ⟨by (with_reducible repeat (first | refine blk_drewN ?_ _ | refine blk_drew ?_ | refine blk_alloc ?_ _)); exact BK320.out⟩, ⟨by repeat (first | (with_reducible first | exact HB.out | apply below_alloc | apply pw_below_drewN | apply below_drew1 | refine below_set ?_ GE320.out) | exact HB.out)⟩⟩
                  · rw [if_neg c20] at H
                    exact absurd H (by simp)
              · rw [if_neg c13] at H
                exact absurd H (by simp)
            · rw [if_neg c12] at H
              exact absurd H (by simp)
          · replace c11 := Bool.eq_false_iff.mpr c11
            subst c11
            have H1 : (some x5_1) = some r := by rw [if_neg (show ¬ (false = true) by decide)] at H; exact H
            clear H
            have H := H1
            clear H1
            obtain rfl := Option.some.inj H
            go_wp2
            go_ret
            exact ⟨_, by first | rfl | (simp [errW_none, errW_some] <;> rfl) | (simp [*, errW_none, errW_some] <;> rfl), by (with_reducible repeat (first | apply Kd.R_alloc | apply Kd.R_drewN | apply Kd.R_drew)); exact HO_5.out, by repeat (first | (with_reducible first | exact HB.out | apply below_alloc | apply pw_below_drewN | apply below_drew1 | refine below_set ?_ GE320.out) | exact HB.out)⟩

def leatref18_Seen.f (k : Nat) (a0_0 : ByteArray) (l0_1 : List Int) (l0_2 : List (S109)) : Option (List Int) := (leatref18_After.f k a0_0 l0_1 l0_2 (l0_2.length : Int)).bind fun t334 => (some t334)
theorem leatref18_Seen.mono : ∀ a0 a1 a2 k, LeO (leatref18_Seen.f k a0 a1 a2) (leatref18_Seen.f (k + 1) a0 a1 a2) := by
  intro a0 a1 a2 k
  unfold leatref18_Seen.f
  repeat' first
      | (with_reducible exact leatref18_After.mono _ _ _ _ _)
      | (with_reducible exact LeO.refl _)
      | (with_reducible exact LeO.none _)
      | (with_reducible refine LeO.ite ?_ ?_)
      | (with_reducible refine LeO.bind ?_ (fun _ => ?_))
      | exact leatref18_After.mono _ _ _ _ _
      | exact LeO.none _
      | refine LeO.ite ?_ ?_
      | refine LeO.bind ?_ (fun _ => ?_)
set_option maxHeartbeats 8000000 in
set_option maxRecDepth 100000 in
theorem leatref18_Seen.calls (k : Nat) (a0_0 : ByteArray) (A0_1 : Option Addr) (c0_1 : Nat) (l0_1 : List Int) (A0_2 : Option Addr) (c0_2 : Nat) (l0_2 : List (S109)) (r : List Int) (w : World) (hr0_1 : Kd.C (Kd.int .u8) w A0_1 l0_1.length l0_1) (hc0_1 : l0_1.length ≤ c0_1) (hr0_2 : Kd.C k109 w A0_2 l0_2.length l0_2) (hc0_2 : l0_2.length ≤ c0_2) (h : leatref18_Seen.f k a0_0 l0_1 l0_2 = some r) :
    Calls Try.prog 55 #[.agg #[.string a0_0, .slice A0_1 l0_1.length c0_1, .slice A0_2 l0_2.length c0_2]] w fun e w' => ∃ v0_ : Value, e = .returned (v0_) ∧ Kd.R (Kd.int .u8) 5 w' w.heap.size (fun _ => True) v0_ r ∧ Below w.heap.size w w' := by
  have hu94 := Try.underlying94
  have HR0_1 := Aside0.mk hr0_1
  have HC0_1 := Aside0.mk hc0_1
  clear hr0_1 hc0_1
  have HR0_2 := Aside0.mk hr0_2
  have HC0_2 := Aside0.mk hc0_2
  clear hr0_2 hc0_2
  have HB := Aside0.mk (Below.refl w.heap.size w)
  have H : ((leatref18_After.f k a0_0 l0_1 l0_2 (l0_2.length : Int)).bind fun t334 => (some t334)) = some r := h
  clear h
  replace H := Option.bind_eq_some_iff.mp H
  obtain ⟨t334, A20, H⟩ := H
  replace H : (some t334) = some r := H
  have A2 := Aside0.mk A20
  clear A20
  obtain rfl := Option.some.inj H
  go_enter Try.func55, Try.ntmps55
  go_wp2_with (first | ((with_reducible refine gate_dst (N := 1) rfl ?_); refine box_event ?hg (N := 1) ?hd (cs := #[.string a0_0, .slice A0_1 l0_1.length c0_1, .slice A0_2 l0_2.length c0_2]) (t := 94) ?hr ?_; (case hd => rfl); (case hg => rfl); (case hr => first | (go_simp; done) | (go_simp; rfl)); intro gb333 hg w3 hbox hb; have n0_ := Aside0.mk (below_step (by repeat (first | (with_reducible first | exact HB.out | apply below_alloc | apply pw_below_drewN | apply below_drew1) | exact HB.out)) hb); have n1_ := Aside0.mk (hbox); have n2_ := Aside0.mk ((by rw [hg]; exact (below_size (by repeat (first | (with_reducible first | exact HB.out | apply below_alloc | apply pw_below_drewN | apply below_drew1) | exact HB.out))) : w.heap.size ≤ gb333)); have n3_ := Aside0.mk ((by rw [hg]; exact (below_size (by repeat (first | (with_reducible first | exact HB.out | apply below_alloc | apply pw_below_drewN | apply below_drew1) | exact HB.out))) : w.heap.size ≤ gb333)); clear HB; have HB := n0_; have BK333 := n1_; have GW333 := n2_; have GE333 := n3_; clear n0_ n1_ n2_ n3_; clear hb hbox hg; have hcz4_0 : w3.cell? ⟨gb333, 0, none⟩ = some (.string a0_0) := (blk_cell BK333.out 0).trans rfl; have hcz4_1 : w3.cell? ⟨gb333, 1, none⟩ = some (.slice A0_1 l0_1.length c0_1) := (blk_cell BK333.out 1).trans rfl; have hcz4_2 : w3.cell? ⟨gb333, 2, none⟩ = some (.slice A0_2 l0_2.length c0_2) := (blk_cell BK333.out 2).trans rfl; have hfz4_0 := blk_frozen BK333.out 0; have hfz4_1 := blk_frozen BK333.out 1; have hfz4_2 := blk_frozen BK333.out 2) | ((with_reducible refine gate_callee (f := 74) rfl ?_); refine goesL_ (some 7) rfl rfl Try.func74 (by kernel_rfl) rfl #[.agg #[.string a0_0, .slice A0_1 l0_1.length c0_1, .slice A0_2 l0_2.length c0_2], .int .i64 (l0_2.length : Int)] rfl (by (try simp only [List.map_toArray, List.map_cons, List.map_nil]); first | done | rfl | (simp only [List.length_drop, List.length_take]; rfl)) ?_; (with_reducible refine (leatref18_After.calls k a0_0 _ _ l0_1 _ _ l0_2 (l0_2.length : Int) t334 _ ?side1 ?side2 ?side3 ?side4 A2.out).mono ?_); (case side1 => repeat (first | exact (Kd.C_below HR0_1.out HB.out) | (with_reducible refine Kd.C_alloc ?_ _) | (with_reducible refine Kd.C_drewN ?_ _) | (with_reducible refine Kd.C_drew ?_))); (case side2 => exact HC0_1.out); (case side3 => repeat (first | exact (Kd.C_below HR0_2.out HB.out) | (with_reducible refine Kd.C_alloc ?_ _) | (with_reducible refine Kd.C_drewN ?_ _) | (with_reducible refine Kd.C_drew ?_))); (case side4 => exact HC0_2.out); rintro e w5 ⟨v335, rfl, ho0, hb⟩; refine ⟨_, rfl, ?_⟩; have n0_ := Aside0.mk (Kd.R_lower ho0 (below_size (by repeat (first | (with_reducible first | exact HB.out | apply below_alloc | apply pw_below_drewN | apply below_drew1 | refine below_set ?_ GE333.out) | exact HB.out)))); have n1_ := Aside0.mk (blk_below (g := gb333) (o := .cells #[.string a0_0, .slice A0_1 l0_1.length c0_1, .slice A0_2 l0_2.length c0_2] 94 (0, 0)) (by (with_reducible repeat (first | refine blk_drewN ?_ _ | refine blk_drew ?_ | refine blk_alloc ?_ _)); exact BK333.out) hb); have n2_ := Aside0.mk (below_step (by repeat (first | (with_reducible first | exact HB.out | apply below_alloc | apply pw_below_drewN | apply below_drew1 | refine below_set ?_ GE333.out) | exact HB.out)) hb); clear BK333; clear HB; have HO336 := n0_; have BK333 := n1_; have HB := n2_; clear n0_ n1_ n2_; (try clear hb); (try clear hb2); (try clear hk); (try clear hi); (try clear ho0)))
  go_ret
  exact ⟨_, by first | rfl | (simp [errW_none, errW_some] <;> rfl) | (simp [*, errW_none, errW_some] <;> rfl), by (with_reducible repeat (first | apply Kd.R_alloc | apply Kd.R_drewN | apply Kd.R_drew)); exact HO336.out, by repeat (first | (with_reducible first | exact HB.out | apply below_alloc | apply pw_below_drewN | apply below_drew1 | refine below_set ?_ GE333.out) | exact HB.out)⟩

def leatref18_Used.l0 : Nat → Int → Int → List (S94) → Int → List (S26) → Int → Bool → Option (Int)
  | 0, _, _, _, _, _, _, _ => none
  | k + 1, x3, x4, x338000, x338001, x338002, x338003, x338004 => if x4 < (x338000.length : Int) then (if 0 ≤ x4 then ((leatref18_Seen.f k ((rd_T94 x338000 x4).f0) ((rd_T94 x338000 x4).f1) ((rd_T94 x338000 x4).f2)).bind fun t339 => (leatref18_Used.l0 k (wrap64 (x3 + (t339.length : Int))) (wrap64 (x4 + 1)) x338000 x338001 x338002 x338003 x338004)) else (none)) else (some x3)
def leatref18_Used.f (k : Nat) (l0_0 : List (S94)) (a0_1 : Int) (l0_2 : List (S26)) (a0_3 : Int) (a0_4 : Bool) : Option (Int) := leatref18_Used.l0 k 0 0 l0_0 a0_1 l0_2 a0_3 a0_4
theorem leatref18_Used.mono_l : ∀ k, (∀ y0 y1 y2 y3 y4 y5 y6, LeO (leatref18_Used.l0 k y0 y1 y2 y3 y4 y5 y6) (leatref18_Used.l0 (k + 1) y0 y1 y2 y3 y4 y5 y6))
  | 0 => fun _ _ _ _ _ _ _ r h => by simp [leatref18_Used.l0] at h
  | k + 1 => by
    have ih0 := leatref18_Used.mono_l k
    · intro y0 y1 y2 y3 y4 y5 y6
      unfold leatref18_Used.l0
      repeat' first
      | (with_reducible exact ih0 _ _ _ _ _ _ _)
      | (with_reducible exact leatref18_Seen.mono _ _ _ _)
      | (with_reducible exact LeO.refl _)
      | (with_reducible exact LeO.none _)
      | (with_reducible refine LeO.ite ?_ ?_)
      | (with_reducible refine LeO.bind ?_ (fun _ => ?_))
      | exact ih0 _ _ _ _ _ _ _
      | exact leatref18_Seen.mono _ _ _ _
      | exact LeO.none _
      | refine LeO.ite ?_ ?_
      | refine LeO.bind ?_ (fun _ => ?_)
theorem leatref18_Used.mono : ∀ a0 a1 a2 a3 a4 k, LeO (leatref18_Used.f k a0 a1 a2 a3 a4) (leatref18_Used.f (k + 1) a0 a1 a2 a3 a4) := by
  intro a0 a1 a2 a3 a4 k
  have ih0 := leatref18_Used.mono_l k
  unfold leatref18_Used.f
  repeat' first
      | (with_reducible exact ih0 _ _ _ _ _ _ _)
      | (with_reducible exact leatref18_Seen.mono _ _ _ _)
      | (with_reducible exact LeO.refl _)
      | (with_reducible exact LeO.none _)
      | (with_reducible refine LeO.ite ?_ ?_)
      | (with_reducible refine LeO.bind ?_ (fun _ => ?_))
      | exact ih0 _ _ _ _ _ _ _
      | exact leatref18_Seen.mono _ _ _ _
      | exact LeO.none _
      | refine LeO.ite ?_ ?_
      | refine LeO.bind ?_ (fun _ => ?_)
set_option maxHeartbeats 8000000 in
set_option maxRecDepth 100000 in
theorem leatref18_Used.calls (k : Nat) (A0_0 : Option Addr) (c0_0 : Nat) (l0_0 : List (S94)) (a0_1 : Int) (A0_2 : Option Addr) (c0_2 : Nat) (l0_2 : List (S26)) (a0_3 : Int) (a0_4 : Bool) (r : Int) (w : World) (hr0_0 : Kd.C k94 w A0_0 l0_0.length l0_0) (hc0_0 : l0_0.length ≤ c0_0) (hr0_2 : Kd.C k26 w A0_2 l0_2.length l0_2) (hc0_2 : l0_2.length ≤ c0_2) (h : leatref18_Used.f k l0_0 a0_1 l0_2 a0_3 a0_4 = some r) :
    Calls Try.prog 70 #[.agg #[.slice A0_0 l0_0.length c0_0, .int .i64 a0_1, .slice A0_2 l0_2.length c0_2, .int .i64 a0_3, .bool a0_4]] w fun e w' => e = .returned (.int .i64 r) ∧ Below w.heap.size w w' := by
  have hu40 := Try.underlying40
  have hu94 := Try.underlying94
  have HR0_0 := Aside0.mk hr0_0
  have HC0_0 := Aside0.mk hc0_0
  clear hr0_0 hc0_0
  have HR0_2 := Aside0.mk hr0_2
  have HC0_2 := Aside0.mk hc0_2
  clear hr0_2 hc0_2
  have HB := Aside0.mk (Below.refl w.heap.size w)
  have H : (leatref18_Used.l0 k 0 0 l0_0 a0_1 l0_2 a0_3 a0_4) = some r := h
  clear h
  have H' := Aside0.mk H
  clear H
  go_enter Try.func70, Try.ntmps70
  go_wp2_with (first | ((with_reducible refine gate_dst (N := 1) rfl ?_); refine box_event ?hg (N := 1) ?hd (cs := #[.slice A0_0 l0_0.length c0_0, .int .i64 a0_1, .slice A0_2 l0_2.length c0_2, .int .i64 a0_3, .bool a0_4]) (t := 40) ?hr ?_; (case hd => rfl); (case hg => rfl); (case hr => first | (go_simp; done) | (go_simp; rfl)); intro gb337 hg w2 hbox hb; have n0_ := Aside0.mk (below_step (by repeat (first | (with_reducible first | exact HB.out | apply below_alloc | apply pw_below_drewN | apply below_drew1) | exact HB.out)) hb); have n1_ := Aside0.mk (hbox); have n2_ := Aside0.mk ((by rw [hg]; exact (below_size (by repeat (first | (with_reducible first | exact HB.out | apply below_alloc | apply pw_below_drewN | apply below_drew1) | exact HB.out))) : w.heap.size ≤ gb337)); have n3_ := Aside0.mk ((by rw [hg]; exact (below_size (by repeat (first | (with_reducible first | exact HB.out | apply below_alloc | apply pw_below_drewN | apply below_drew1) | exact HB.out))) : w.heap.size ≤ gb337)); clear HB; have HB := n0_; have BK337 := n1_; have GW337 := n2_; have GE337 := n3_; clear n0_ n1_ n2_ n3_; clear hb hbox hg))
  go_loopg [3, 4] k (fun kq v3 v4 w' => ∃ (x3_1 : Int) (x4_1 : Int), v3 = .int .i64 x3_1 ∧ v4 = .int .i64 x4_1 ∧ Aside0 (leatref18_Used.l0 kq x3_1 x4_1 l0_0 a0_1 l0_2 a0_3 a0_4 = some r) ∧ Aside0 (kq ≤ k) ∧ Aside0 (w'.heap[gb337]? = some (.cells #[(.slice A0_0 l0_0.length c0_0), .int .i64 a0_1, (.slice A0_2 l0_2.length c0_2), .int .i64 a0_3, .bool a0_4] 40 (0, 0))) ∧ Aside0 (Below w.heap.size w w'))
  case atStart => exact ⟨(0), (0), (by first | rfl | (simp; done) | (simp [*]; done)), (by first | rfl | (simp; done) | (simp [*]; done)), H', ⟨Nat.le_refl _⟩, ⟨by (with_reducible repeat (first | refine blk_drewN ?_ _ | refine blk_drew ?_ | refine blk_alloc ?_ _)); exact BK337.out⟩, ⟨by repeat (first | (with_reducible first | exact HB.out | apply below_alloc | apply pw_below_drewN | apply below_drew1 | refine below_set ?_ GE337.out) | exact HB.out)⟩⟩
  case round =>
    clear H'
    try clear p2
    obtain ⟨x3_1, x4_1, rfl, rfl, HA, HK1, BK337, HB⟩ := hrel
    cases gk with
    | zero => exact absurd HA.out (by simp [leatref18_Used.l0])
    | succ k1 =>
      have H := HA.out
      clear HA
      simp only [leatref18_Used.l0] at H
      by_cases c3 : x4_1 < (l0_0.length : Int)
      · rw [if_pos c3] at H
        have c3b0 : decide (x4_1 < (l0_0.length : Int)) = true := decide_eq_true c3
        clear c3
        by_cases c4 : 0 ≤ x4_1
        · rw [if_pos c4] at H
          have c4b0 : decide (0 ≤ x4_1) = true := decide_eq_true c4
          clear c4
          replace H := Option.bind_eq_some_iff.mp H
          obtain ⟨t339, A50, H⟩ := H
          replace H : (leatref18_Used.l0 k1 (wrap64 (x3_1 + (t339.length : Int))) (wrap64 (x4_1 + 1)) l0_0 a0_1 l0_2 a0_3 a0_4) = some r := H
          have A5 := Aside0.mk A50
          clear A50
          have H' := Aside0.mk H
          clear H
          have hcz6_0 : wr.cell? ⟨gb337, 0, none⟩ = some (.slice A0_0 l0_0.length c0_0) := (blk_cell BK337.out 0).trans rfl
          have hcz6_1 : wr.cell? ⟨gb337, 1, none⟩ = some (.int .i64 a0_1) := (blk_cell BK337.out 1).trans rfl
          have hcz6_2 : wr.cell? ⟨gb337, 2, none⟩ = some (.slice A0_2 l0_2.length c0_2) := (blk_cell BK337.out 2).trans rfl
          have hcz6_3 : wr.cell? ⟨gb337, 3, none⟩ = some (.int .i64 a0_3) := (blk_cell BK337.out 3).trans rfl
          have hcz6_4 : wr.cell? ⟨gb337, 4, none⟩ = some (.bool a0_4) := (blk_cell BK337.out 4).trans rfl
          have hfz6_0 := blk_frozen BK337.out 0
          have hfz6_1 := blk_frozen BK337.out 1
          have hfz6_2 := blk_frozen BK337.out 2
          have hfz6_3 := blk_frozen BK337.out 3
          have hfz6_4 := blk_frozen BK337.out 4
          have p338 : 0 ≤ (x4_1 : Int) := of_decide_eq_true (by first | (with_reducible assumption) | assumption)
          have q338 : x4_1 < (l0_0.length : Int) := of_decide_eq_true (by first | (with_reducible assumption) | assumption)
          obtain ⟨ad338, A338_1, c338_1, A338_2, c338_2, e338, hx338_0, hx338_1, hx338_2, hl338_1, hi338_1, hl338_2, hi338_2⟩ := at_T94 HR0_0.out x4_1 p338 q338
          cases e338
          replace hx338_0 := (HB.out.cell (World.block_lt_of_cell? w _ hx338_0)).trans hx338_0
          replace hx338_1 := (HB.out.cell (World.block_lt_of_cell? w _ hx338_1)).trans hx338_1
          replace hx338_2 := (HB.out.cell (World.block_lt_of_cell? w _ hx338_2)).trans hx338_2
          have HR338_1 := Aside0.mk hi338_1
          have HC338_1 := Aside0.mk hl338_1
          clear hi338_1 hl338_1
          have HR338_2 := Aside0.mk hi338_2
          have HC338_2 := Aside0.mk hl338_2
          clear hi338_2 hl338_2
          replace p338 := eq_true p338
          replace q338 := eq_true q338
          go_wp2_with (first | ((with_reducible refine gate_callee (f := 55) rfl ?_); refine goesL_ (some 18) rfl rfl Try.func55 (by kernel_rfl) rfl #[.agg #[.string ((rd_T94 l0_0 x4_1).f0), .slice A338_1 ((rd_T94 l0_0 x4_1).f1).length c338_1, .slice A338_2 ((rd_T94 l0_0 x4_1).f2).length c338_2]] rfl (by (try simp only [List.map_toArray, List.map_cons, List.map_nil]); first | done | rfl | (simp only [List.length_drop, List.length_take]; rfl)) ?_; (with_reducible refine (leatref18_Seen.calls k1 ((rd_T94 l0_0 x4_1).f0) _ _ ((rd_T94 l0_0 x4_1).f1) _ _ ((rd_T94 l0_0 x4_1).f2) t339 _ ?side1 ?side2 ?side3 ?side4 A5.out).mono ?_); (case side1 => repeat (first | exact (Kd.C_below HR338_1.out HB.out) | (with_reducible refine Kd.C_alloc ?_ _) | (with_reducible refine Kd.C_drewN ?_ _) | (with_reducible refine Kd.C_drew ?_))); (case side2 => exact HC338_1.out); (case side3 => repeat (first | exact (Kd.C_below HR338_2.out HB.out) | (with_reducible refine Kd.C_alloc ?_ _) | (with_reducible refine Kd.C_drewN ?_ _) | (with_reducible refine Kd.C_drew ?_))); (case side4 => exact HC338_2.out); rintro e w7 ⟨v340, rfl, ho0, hb⟩; refine ⟨_, rfl, ?_⟩; have n0_ := Aside0.mk (Kd.R_lower ho0 (below_size (by repeat (first | (with_reducible first | exact HB.out | apply below_alloc | apply pw_below_drewN | apply below_drew1 | refine below_set ?_ GE337.out) | exact HB.out)))); have n1_ := Aside0.mk (blk_below (g := gb337) (o := .cells #[.slice (some ad338) l0_0.length c0_0, .int .i64 a0_1, .slice A0_2 l0_2.length c0_2, .int .i64 a0_3, .bool a0_4] 40 (0, 0)) (by (with_reducible repeat (first | refine blk_drewN ?_ _ | refine blk_drew ?_ | refine blk_alloc ?_ _)); exact BK337.out) hb); have n2_ := Aside0.mk (below_step (by repeat (first | (with_reducible first | exact HB.out | apply below_alloc | apply pw_below_drewN | apply below_drew1 | refine below_set ?_ GE337.out) | exact HB.out)) hb); clear BK337; clear HB; have HO341 := n0_; have BK337 := n1_; have HB := n2_; clear n0_ n1_ n2_; (try clear hb); (try clear hb2); (try clear hk); (try clear hi); (try clear ho0); obtain ⟨Ao8, co8, eo8⟩ := Kd.R_slice HO341.out; subst eo8))
          go_roundg k1
          case measure => have := HK1.out; omega
          case rel => exact ⟨(wrap64 (x3_1 + (t339.length : Int))), (wrap64 (x4_1 + 1)), (by first | rfl | (simp; done) | (simp [*]; done)), (by first | rfl | (simp; done) | (simp [*]; done)), H', ⟨by have := HK1.out; omega⟩, ⟨by (with_reducible repeat (first | refine blk_drewN ?_ _ | refine blk_drew ?_ | refine blk_alloc ?_ _)); exact BK337.out⟩, ⟨by repeat (first | (with_reducible first | exact HB.out | apply below_alloc | apply pw_below_drewN | apply below_drew1 | refine below_set ?_ GE337.out) | exact HB.out)⟩⟩
        · rw [if_neg c4] at H
          exact absurd H (by simp)
      · rw [if_neg c3] at H
        have c3b0 : decide (x4_1 < (l0_0.length : Int)) = false := decide_eq_false c3
        clear c3
        obtain rfl := Option.some.inj H
        have hcz9_0 : wr.cell? ⟨gb337, 0, none⟩ = some (.slice A0_0 l0_0.length c0_0) := (blk_cell BK337.out 0).trans rfl
        have hcz9_1 : wr.cell? ⟨gb337, 1, none⟩ = some (.int .i64 a0_1) := (blk_cell BK337.out 1).trans rfl
        have hcz9_2 : wr.cell? ⟨gb337, 2, none⟩ = some (.slice A0_2 l0_2.length c0_2) := (blk_cell BK337.out 2).trans rfl
        have hcz9_3 : wr.cell? ⟨gb337, 3, none⟩ = some (.int .i64 a0_3) := (blk_cell BK337.out 3).trans rfl
        have hcz9_4 : wr.cell? ⟨gb337, 4, none⟩ = some (.bool a0_4) := (blk_cell BK337.out 4).trans rfl
        have hfz9_0 := blk_frozen BK337.out 0
        have hfz9_1 := blk_frozen BK337.out 1
        have hfz9_2 := blk_frozen BK337.out 2
        have hfz9_3 := blk_frozen BK337.out 3
        have hfz9_4 := blk_frozen BK337.out 4
        go_wp2
        go_ret
        exact ⟨by first | rfl | (simp [errW_none, errW_some] <;> rfl) | (simp [*, errW_none, errW_some] <;> rfl), by repeat (first | (with_reducible first | exact HB.out | apply below_alloc | apply pw_below_drewN | apply below_drew1 | refine below_set ?_ GE337.out) | exact HB.out)⟩

def leatref18_with.l0 : Nat → Int → List (S94) → Int → List (S94) → Int → List (S26) → Int → Bool → ByteArray → List Int → List (S109) → Option ((List (S94)) × Int × (List (S26)) × Int × Bool)
  | 0, _, _, _, _, _, _, _, _, _, _, _ => none
  | k + 1, x1, x7, x8, x343000, x343001, x343002, x343003, x343004, x344000, x344001, x344002 => if x8 < (x343000.length : Int) then (if x8 = x1 then (if x7.length < 2199023255552 then (leatref18_with.l0 k x1 (x7 ++ [(⟨x344000, x344001, x344002⟩ : S94)]) (wrap64 (x8 + 1)) x343000 x343001 x343002 x343003 x343004 x344000 x344001 x344002) else (none)) else (if 0 ≤ x8 then (if x7.length < 2199023255552 then (leatref18_with.l0 k x1 (x7 ++ [(⟨(rd_T94 x343000 x8).f0, (rd_T94 x343000 x8).f1, (rd_T94 x343000 x8).f2⟩ : S94)]) (wrap64 (x8 + 1)) x343000 x343001 x343002 x343003 x343004 x344000 x344001 x344002) else (none)) else (none))) else (some (x7, x343001, x343002, x343003, x343004))
def leatref18_with.f (k : Nat) (l0_0 : List (S94)) (a0_1 : Int) (l0_2 : List (S26)) (a0_3 : Int) (a0_4 : Bool) (a1 : Int) (a2_0 : ByteArray) (l2_1 : List Int) (l2_2 : List (S109)) : Option ((List (S94)) × Int × (List (S26)) × Int × Bool) := leatref18_with.l0 k a1 (([] : List (S94))) 0 l0_0 a0_1 l0_2 a0_3 a0_4 a2_0 l2_1 l2_2
theorem leatref18_with.mono_l : ∀ k, (∀ y0 y1 y2 y3 y4 y5 y6 y7 y8 y9 y10, LeO (leatref18_with.l0 k y0 y1 y2 y3 y4 y5 y6 y7 y8 y9 y10) (leatref18_with.l0 (k + 1) y0 y1 y2 y3 y4 y5 y6 y7 y8 y9 y10))
  | 0 => fun _ _ _ _ _ _ _ _ _ _ _ r h => by simp [leatref18_with.l0] at h
  | k + 1 => by
    have ih0 := leatref18_with.mono_l k
    · intro y0 y1 y2 y3 y4 y5 y6 y7 y8 y9 y10
      unfold leatref18_with.l0
      repeat' first
      | (with_reducible exact ih0 _ _ _ _ _ _ _ _ _ _ _)
      | (with_reducible exact LeO.refl _)
      | (with_reducible exact LeO.none _)
      | (with_reducible refine LeO.ite ?_ ?_)
      | (with_reducible refine LeO.bind ?_ (fun _ => ?_))
      | exact ih0 _ _ _ _ _ _ _ _ _ _ _
      | exact LeO.none _
      | refine LeO.ite ?_ ?_
      | refine LeO.bind ?_ (fun _ => ?_)
theorem leatref18_with.mono : ∀ a0 a1 a2 a3 a4 a5 a6 a7 a8 k, LeO (leatref18_with.f k a0 a1 a2 a3 a4 a5 a6 a7 a8) (leatref18_with.f (k + 1) a0 a1 a2 a3 a4 a5 a6 a7 a8) := by
  intro a0 a1 a2 a3 a4 a5 a6 a7 a8 k
  have ih0 := leatref18_with.mono_l k
  unfold leatref18_with.f
  repeat' first
      | (with_reducible exact ih0 _ _ _ _ _ _ _ _ _ _ _)
      | (with_reducible exact LeO.refl _)
      | (with_reducible exact LeO.none _)
      | (with_reducible refine LeO.ite ?_ ?_)
      | (with_reducible refine LeO.bind ?_ (fun _ => ?_))
      | exact ih0 _ _ _ _ _ _ _ _ _ _ _
      | exact LeO.none _
      | refine LeO.ite ?_ ?_
      | refine LeO.bind ?_ (fun _ => ?_)
set_option maxHeartbeats 8000000 in
set_option maxRecDepth 100000 in
theorem leatref18_with.calls (k : Nat) (P0_0_ : Nat → Prop) (A0_0 : Option Addr) (c0_0 : Nat) (l0_0 : List (S94)) (a0_1 : Int) (P0_2_ : Nat → Prop) (u9000_ : Value) (l0_2 : List (S26)) (a0_3 : Int) (a0_4 : Bool) (a1 : Int) (a2_0 : ByteArray) (P2_1_ : Nat → Prop) (A2_1 : Option Addr) (c2_1 : Nat) (l2_1 : List Int) (P2_2_ : Nat → Prop) (A2_2 : Option Addr) (c2_2 : Nat) (l2_2 : List (S109)) (r1 : List (S94)) (r2 : Int) (r3 : List (S26)) (r4 : Int) (r5 : Bool) (w0 w : World) (hB : Below w0.heap.size w0 w) (hs0_0 : Kd.V k94 94 w w0.heap.size (fun k_ => P0_0_ k_ ∧ some k_ ≠ (u9000_ : Value).ownBlock) (.slice A0_0 l0_0.length c0_0) l0_0) (ho0_2 : Kd.R k26 26 w w0.heap.size P0_2_ u9000_ l0_2) (hs2_1 : Kd.V (Kd.int .u8) 5 w w0.heap.size (fun k_ => P2_1_ k_ ∧ some k_ ≠ (u9000_ : Value).ownBlock) (.slice A2_1 l2_1.length c2_1) l2_1) (hs2_2 : Kd.V k109 109 w w0.heap.size (fun k_ => P2_2_ k_ ∧ some k_ ≠ (u9000_ : Value).ownBlock) (.slice A2_2 l2_2.length c2_2) l2_2) (h : leatref18_with.f k l0_0 a0_1 l0_2 a0_3 a0_4 a1 a2_0 l2_1 l2_2 = some (r1, r2, r3, r4, r5)) :
    Calls Try.prog 71 #[.agg #[.slice A0_0 l0_0.length c0_0, .int .i64 a0_1, u9000_, .int .i64 a0_3, .bool a0_4], .int .i64 a1, .agg #[.string a2_0, .slice A2_1 l2_1.length c2_1, .slice A2_2 l2_2.length c2_2]] w fun e w' => ∃ v0_ v2_ : Value, e = .returned (.agg #[v0_, .int .i64 r2, v2_, .int .i64 r4, .bool r5]) ∧ Kd.N k94 94 w' w.heap.size (fun k_ => ((P0_2_ k_ ∨ P0_0_ k_ ∨ P2_1_ k_ ∨ P2_2_ k_) ∨ w.heap.size ≤ k_) ∧ some k_ ≠ (v2_ : Value).ownBlock) v0_ r1 ∧ Kd.R k26 26 w' w0.heap.size (fun k_ => (P0_2_ k_ ∨ w.heap.size ≤ k_)) v2_ r3 ∧ Below w0.heap.size w0 w' ∧ Kept w w' (fun k_ => P0_2_ k_) := by
  have hu40 := Try.underlying40
  have hu94 := Try.underlying94
  have HO0_0 := Aside0.mk (show Kd.V k94 94 w w0.heap.size (fun k_ => ((P0_2_ k_ ∨ P0_0_ k_ ∨ P2_1_ k_ ∨ P2_2_ k_) ∨ w.heap.size ≤ k_) ∧ some k_ ≠ (u9000_ : Value).ownBlock) (.slice A0_0 l0_0.length c0_0) l0_0 from Kd.V_mono hs0_0 (fun k_ hk => ⟨.inl (.inr (.inl hk.1)), hk.2⟩))
  have HO0_2 := Aside0.mk (show Kd.R k26 26 w w0.heap.size (fun k_ => (P0_2_ k_ ∨ w.heap.size ≤ k_)) u9000_ l0_2 from Kd.R_mono ho0_2 (fun k_ hk => (.inl hk)))
  have HO2_1 := Aside0.mk (show Kd.V (Kd.int .u8) 5 w w0.heap.size (fun k_ => ((P0_2_ k_ ∨ P0_0_ k_ ∨ P2_1_ k_ ∨ P2_2_ k_) ∨ w.heap.size ≤ k_) ∧ some k_ ≠ (u9000_ : Value).ownBlock) (.slice A2_1 l2_1.length c2_1) l2_1 from Kd.V_mono hs2_1 (fun k_ hk => ⟨.inl (.inr (.inr (.inl hk.1))), hk.2⟩))
  have HO2_2 := Aside0.mk (show Kd.V k109 109 w w0.heap.size (fun k_ => ((P0_2_ k_ ∨ P0_0_ k_ ∨ P2_1_ k_ ∨ P2_2_ k_) ∨ w.heap.size ≤ k_) ∧ some k_ ≠ (u9000_ : Value).ownBlock) (.slice A2_2 l2_2.length c2_2) l2_2 from Kd.V_mono hs2_2 (fun k_ hk => ⟨.inl (.inr (.inr (.inr hk.1))), hk.2⟩))
  have HK := Aside0.mk (Kept.refl w (fun k_ => P0_2_ k_))
  have HW0 := Aside0.mk hB.size
  have HB := Aside0.mk hB
  clear hB
  have H : (leatref18_with.l0 k a1 (([] : List (S94))) 0 l0_0 a0_1 l0_2 a0_3 a0_4 a2_0 l2_1 l2_2) = some (r1, r2, r3, r4, r5) := h
  clear h
  obtain ⟨y345, hy345⟩ : ∃ y_ : List (S94), y_ = (([] : List (S94))) := ⟨_, rfl⟩
  replace H : (leatref18_with.l0 k a1 y345 0 l0_0 a0_1 l0_2 a0_3 a0_4 a2_0 l2_1 l2_2) = some (r1, r2, r3, r4, r5) := by first | (rw [hy345]; with_reducible exact H) | (have H2_ := (Option.bind_some _ _).symm.trans H; rw [hy345]; with_reducible exact H2_) | (have H2_ := (Option.bind_some _ _).symm.trans H; with_reducible exact H2_) | with_reducible exact H | (rw [hy345]; exact H) | exact H
  have Ny345 := Aside0.mk hy345
  clear hy345
  have H' := Aside0.mk H
  clear H
  obtain ⟨Ao4, co4, eo4⟩ := Kd.R_slice HO0_2.out
  subst eo4
  go_enter Try.func71, Try.ntmps71
  go_wp2_with (first | ((with_reducible refine gate_dst (N := 3) rfl ?_); refine box_event ?hg (N := 3) ?hd (cs := #[.slice A0_0 l0_0.length c0_0, .int .i64 a0_1, .slice Ao4 l0_2.length co4, .int .i64 a0_3, .bool a0_4]) (t := 40) ?hr ?_; (case hd => rfl); (case hg => rfl); (case hr => first | (go_simp; done) | (go_simp; rfl)); intro gb342 hg w5 hbox hb; have n0_ := Aside0.mk (Kd.R_below (by (with_reducible repeat (first | apply Kd.R_alloc | apply Kd.R_drewN | apply Kd.R_drew)); exact HO0_2.out) hb); have n1_ := Aside0.mk (Kd.V_below (Kd.V_elderB (by (with_reducible repeat (first | apply Kd.V_alloc | apply Kd.V_drewN | apply Kd.V_drew)); exact HO0_0.out) gb342 (Nat.le_of_eq hg.symm)) hb); have n2_ := Aside0.mk (Kd.V_below (Kd.V_elderB (by (with_reducible repeat (first | apply Kd.V_alloc | apply Kd.V_drewN | apply Kd.V_drew)); exact HO2_1.out) gb342 (Nat.le_of_eq hg.symm)) hb); have n3_ := Aside0.mk (Kd.V_below (Kd.V_elderB (by (with_reducible repeat (first | apply Kd.V_alloc | apply Kd.V_drewN | apply Kd.V_drew)); exact HO2_2.out) gb342 (Nat.le_of_eq hg.symm)) hb); have n4_ := Aside0.mk (Kept.below (S := (fun k_ => P0_2_ k_)) (by repeat (first | (with_reducible first | exact HK.out | apply Kept.alloc | apply Kept.drewN | apply Kept.drew) | exact HK.out)) hb); have n5_ := Aside0.mk (below_step (by repeat (first | (with_reducible first | exact HB.out | apply below_alloc | apply pw_below_drewN | apply below_drew1) | exact HB.out)) hb); have n6_ := Aside0.mk (hbox); have n7_ := Aside0.mk ((by rw [hg]; exact (by first | exact HK.out.1 | exact (show Kept w _ (fun k_ => P0_2_ k_) from by repeat (first | (with_reducible first | exact HK.out | apply Kept.alloc | apply Kept.drewN | apply Kept.drew) | exact HK.out)).1) : w.heap.size ≤ gb342)); have n8_ := Aside0.mk ((by rw [hg]; exact (below_size (by repeat (first | (with_reducible first | exact HB.out | apply below_alloc | apply pw_below_drewN | apply below_drew1) | exact HB.out))) : w0.heap.size ≤ gb342)); clear HO0_2; clear HO0_0; clear HO2_1; clear HO2_2; clear HK; clear HB; have HO0_2 := n0_; have HO0_0 := n1_; have HO2_1 := n2_; have HO2_2 := n3_; have HK := n4_; have HB := n5_; have BK342 := n6_; have GW342 := n7_; have GE342 := n8_; clear n0_ n1_ n2_ n3_ n4_ n5_ n6_ n7_ n8_; clear hb hbox hg) | ((with_reducible refine gate_dst (N := 5) rfl ?_); refine box_event ?hg (N := 5) ?hd (cs := #[.string a2_0, .slice A2_1 l2_1.length c2_1, .slice A2_2 l2_2.length c2_2]) (t := 94) ?hr ?_; (case hd => rfl); (case hg => rfl); (case hr => first | (go_simp; done) | (go_simp; rfl)); intro gb343 hg w6 hbox hb; have n0_ := Aside0.mk (Kd.R_below (by (with_reducible repeat (first | apply Kd.R_alloc | apply Kd.R_drewN | apply Kd.R_drew)); exact HO0_2.out) hb); have n1_ := Aside0.mk (Kd.V_below (Kd.V_elderB (by (with_reducible repeat (first | apply Kd.V_alloc | apply Kd.V_drewN | apply Kd.V_drew)); exact HO0_0.out) gb343 (Nat.le_of_eq hg.symm)) hb); have n2_ := Aside0.mk (Kd.V_below (Kd.V_elderB (by (with_reducible repeat (first | apply Kd.V_alloc | apply Kd.V_drewN | apply Kd.V_drew)); exact HO2_1.out) gb343 (Nat.le_of_eq hg.symm)) hb); have n3_ := Aside0.mk (Kd.V_below (Kd.V_elderB (by (with_reducible repeat (first | apply Kd.V_alloc | apply Kd.V_drewN | apply Kd.V_drew)); exact HO2_2.out) gb343 (Nat.le_of_eq hg.symm)) hb); have n4_ := Aside0.mk (blk_below (g := gb342) (o := .cells #[.slice A0_0 l0_0.length c0_0, .int .i64 a0_1, .slice Ao4 l0_2.length co4, .int .i64 a0_3, .bool a0_4] 40 (0, 0)) (by (with_reducible repeat (first | refine blk_drewN ?_ _ | refine blk_drew ?_ | refine blk_alloc ?_ _)); exact BK342.out) hb); have n5_ := Aside0.mk (Kept.below (S := (fun k_ => P0_2_ k_)) (by repeat (first | (with_reducible first | exact HK.out | apply Kept.alloc | apply Kept.drewN | apply Kept.drew | refine Kept.setCell ?_ (.inr GW342.out) _) | exact HK.out)) hb); have n6_ := Aside0.mk (below_step (by repeat (first | (with_reducible first | exact HB.out | apply below_alloc | apply pw_below_drewN | apply below_drew1 | refine below_set ?_ GE342.out) | exact HB.out)) hb); have n7_ := Aside0.mk (hbox); have n8_ := Aside0.mk ((by rw [hg]; exact (by first | exact HK.out.1 | exact (show Kept w _ (fun k_ => P0_2_ k_) from by repeat (first | (with_reducible first | exact HK.out | apply Kept.alloc | apply Kept.drewN | apply Kept.drew | refine Kept.setCell ?_ (.inr GW342.out) _) | exact HK.out)).1) : w.heap.size ≤ gb343)); have n9_ := Aside0.mk ((by rw [hg]; exact (below_size (by repeat (first | (with_reducible first | exact HB.out | apply below_alloc | apply pw_below_drewN | apply below_drew1 | refine below_set ?_ GE342.out) | exact HB.out))) : w0.heap.size ≤ gb343)); have n10_ := Aside0.mk ((by rw [hg]; exact Nat.ne_of_lt (blk_lt (g := gb342) (o := .cells #[.slice A0_0 l0_0.length c0_0, .int .i64 a0_1, .slice Ao4 l0_2.length co4, .int .i64 a0_3, .bool a0_4] 40 (0, 0)) (by (with_reducible repeat (first | refine blk_drewN ?_ _ | refine blk_drew ?_ | refine blk_alloc ?_ _)); exact BK342.out)) : gb342 ≠ gb343)); have n11_ := Aside0.mk ((by rw [hg]; exact Nat.ne_of_gt (blk_lt (g := gb342) (o := .cells #[.slice A0_0 l0_0.length c0_0, .int .i64 a0_1, .slice Ao4 l0_2.length co4, .int .i64 a0_3, .bool a0_4] 40 (0, 0)) (by (with_reducible repeat (first | refine blk_drewN ?_ _ | refine blk_drew ?_ | refine blk_alloc ?_ _)); exact BK342.out)) : gb343 ≠ gb342)); clear HO0_2; clear HO0_0; clear HO2_1; clear HO2_2; clear BK342; clear HK; clear HB; have HO0_2 := n0_; have HO0_0 := n1_; have HO2_1 := n2_; have HO2_2 := n3_; have BK342 := n4_; have HK := n5_; have HB := n6_; have BK343 := n7_; have GW343 := n8_; have GE343 := n9_; have NB342_343 := n10_; have NB343_342 := n11_; clear n0_ n1_ n2_ n3_ n4_ n5_ n6_ n7_ n8_ n9_ n10_ n11_; clear hb hbox hg) | ((with_reducible refine gate_dst (N := 6) rfl ?_); refine box_event ?hg (N := 6) ?hd (cs := #[.slice none 0 0, .int .i64 0, .slice none 0 0, .int .i64 0, .bool false]) (t := 40) ?hr ?_; (case hd => rfl); (case hg => rfl); (case hr => first | (go_simp; done) | (go_simp; rfl)); intro gb344 hg w7 hbox hb; have n0_ := Aside0.mk (Kd.R_below (by (with_reducible repeat (first | apply Kd.R_alloc | apply Kd.R_drewN | apply Kd.R_drew)); exact HO0_2.out) hb); have n1_ := Aside0.mk (Kd.V_below (Kd.V_elderB (by (with_reducible repeat (first | apply Kd.V_alloc | apply Kd.V_drewN | apply Kd.V_drew)); exact HO0_0.out) gb344 (Nat.le_of_eq hg.symm)) hb); have n2_ := Aside0.mk (Kd.V_below (Kd.V_elderB (by (with_reducible repeat (first | apply Kd.V_alloc | apply Kd.V_drewN | apply Kd.V_drew)); exact HO2_1.out) gb344 (Nat.le_of_eq hg.symm)) hb); have n3_ := Aside0.mk (Kd.V_below (Kd.V_elderB (by (with_reducible repeat (first | apply Kd.V_alloc | apply Kd.V_drewN | apply Kd.V_drew)); exact HO2_2.out) gb344 (Nat.le_of_eq hg.symm)) hb); have n4_ := Aside0.mk (blk_below (g := gb342) (o := .cells #[.slice A0_0 l0_0.length c0_0, .int .i64 a0_1, .slice Ao4 l0_2.length co4, .int .i64 a0_3, .bool a0_4] 40 (0, 0)) (by (with_reducible repeat (first | refine blk_drewN ?_ _ | refine blk_drew ?_ | refine blk_alloc ?_ _)); exact BK342.out) hb); have n5_ := Aside0.mk (blk_below (g := gb343) (o := .cells #[.string a2_0, .slice A2_1 l2_1.length c2_1, .slice A2_2 l2_2.length c2_2] 94 (0, 0)) (by (with_reducible repeat (first | refine blk_drewN ?_ _ | refine blk_drew ?_ | refine blk_alloc ?_ _)); exact BK343.out) hb); have n6_ := Aside0.mk (Kept.below (S := (fun k_ => P0_2_ k_)) (by repeat (first | (with_reducible first | exact HK.out | apply Kept.alloc | apply Kept.drewN | apply Kept.drew | refine Kept.setCell ?_ (.inr GW342.out) _ | refine Kept.setCell ?_ (.inr GW343.out) _) | exact HK.out)) hb); have n7_ := Aside0.mk (below_step (by repeat (first | (with_reducible first | exact HB.out | apply below_alloc | apply pw_below_drewN | apply below_drew1 | refine below_set ?_ GE342.out | refine below_set ?_ GE343.out) | exact HB.out)) hb); have n8_ := Aside0.mk (hbox); have n9_ := Aside0.mk ((by rw [hg]; exact (by first | exact HK.out.1 | exact (show Kept w _ (fun k_ => P0_2_ k_) from by repeat (first | (with_reducible first | exact HK.out | apply Kept.alloc | apply Kept.drewN | apply Kept.drew | refine Kept.setCell ?_ (.inr GW342.out) _ | refine Kept.setCell ?_ (.inr GW343.out) _) | exact HK.out)).1) : w.heap.size ≤ gb344)); have n10_ := Aside0.mk ((by rw [hg]; exact (below_size (by repeat (first | (with_reducible first | exact HB.out | apply below_alloc | apply pw_below_drewN | apply below_drew1 | refine below_set ?_ GE342.out | refine below_set ?_ GE343.out) | exact HB.out))) : w0.heap.size ≤ gb344)); have n11_ := Aside0.mk ((by rw [hg]; exact Nat.ne_of_lt (blk_lt (g := gb342) (o := .cells #[.slice A0_0 l0_0.length c0_0, .int .i64 a0_1, .slice Ao4 l0_2.length co4, .int .i64 a0_3, .bool a0_4] 40 (0, 0)) (by (with_reducible repeat (first | refine blk_drewN ?_ _ | refine blk_drew ?_ | refine blk_alloc ?_ _)); exact BK342.out)) : gb342 ≠ gb344)); have n12_ := Aside0.mk ((by rw [hg]; exact Nat.ne_of_gt (blk_lt (g := gb342) (o := .cells #[.slice A0_0 l0_0.length c0_0, .int .i64 a0_1, .slice Ao4 l0_2.length co4, .int .i64 a0_3, .bool a0_4] 40 (0, 0)) (by (with_reducible repeat (first | refine blk_drewN ?_ _ | refine blk_drew ?_ | refine blk_alloc ?_ _)); exact BK342.out)) : gb344 ≠ gb342)); have n13_ := Aside0.mk ((by rw [hg]; exact Nat.ne_of_lt (blk_lt (g := gb343) (o := .cells #[.string a2_0, .slice A2_1 l2_1.length c2_1, .slice A2_2 l2_2.length c2_2] 94 (0, 0)) (by (with_reducible repeat (first | refine blk_drewN ?_ _ | refine blk_drew ?_ | refine blk_alloc ?_ _)); exact BK343.out)) : gb343 ≠ gb344)); have n14_ := Aside0.mk ((by rw [hg]; exact Nat.ne_of_gt (blk_lt (g := gb343) (o := .cells #[.string a2_0, .slice A2_1 l2_1.length c2_1, .slice A2_2 l2_2.length c2_2] 94 (0, 0)) (by (with_reducible repeat (first | refine blk_drewN ?_ _ | refine blk_drew ?_ | refine blk_alloc ?_ _)); exact BK343.out)) : gb344 ≠ gb343)); clear HO0_2; clear HO0_0; clear HO2_1; clear HO2_2; clear BK342; clear BK343; clear HK; clear HB; have HO0_2 := n0_; have HO0_0 := n1_; have HO2_1 := n2_; have HO2_2 := n3_; have BK342 := n4_; have BK343 := n5_; have HK := n6_; have HB := n7_; have BK344 := n8_; have GW344 := n9_; have GE344 := n10_; have NB342_344 := n11_; have NB344_342 := n12_; have NB343_344 := n13_; have NB344_343 := n14_; clear n0_ n1_ n2_ n3_ n4_ n5_ n6_ n7_ n8_ n9_ n10_ n11_ n12_ n13_ n14_; clear hb hbox hg) | ((with_reducible refine gate_dst (N := 9) rfl ?_); refine Kd.N_lit k94 _ 94 ?hg (N' := 9) ?hd (xs := ([] : List (S94))) (inner := []) (ok := (fun k_ => ((P0_2_ k_ ∨ P0_0_ k_ ∨ P2_1_ k_ ∨ P2_2_ k_) ∨ w.heap.size ≤ k_) ∧ some k_ ≠ (.slice Ao4 l0_2.length co4 : Value).ownBlock ∧ k_ ≠ gb342 ∧ k_ ≠ gb343 ∧ k_ ≠ gb344)) (okp := (fun k_ => ((P0_2_ k_ ∨ P0_0_ k_ ∨ P2_1_ k_ ∨ P2_2_ k_) ∨ w.heap.size ≤ k_) ∧ some k_ ≠ (.slice Ao4 l0_2.length co4 : Value).ownBlock ∧ k_ ≠ gb342 ∧ k_ ≠ gb343 ∧ k_ ≠ gb344)) ?hr ?hp (fun _ hk => hk) ((show ∀ k_, w7.heap.size ≤ k_ → (fun k_ => ((P0_2_ k_ ∨ P0_0_ k_ ∨ P2_1_ k_ ∨ P2_2_ k_) ∨ w.heap.size ≤ k_) ∧ some k_ ≠ (.slice Ao4 l0_2.length co4 : Value).ownBlock ∧ k_ ≠ gb342 ∧ k_ ≠ gb343 ∧ k_ ≠ gb344) k_ from fun k_ hk => ⟨(.inr (Nat.le_trans (by first | exact HK.out.1 | exact (show Kept w _ (fun k_ => P0_2_ k_) from by repeat (first | (with_reducible first | exact HK.out | apply Kept.alloc | apply Kept.drewN | apply Kept.drew | refine Kept.setCell ?_ (.inr GW342.out) _ | refine Kept.setCell ?_ (.inr GW343.out) _ | refine Kept.setCell ?_ (.inr GW344.out) _) | exact HK.out)).1) hk)), Kd.fresh' (Kd.R_lt (by (with_reducible repeat (first | apply Kd.R_alloc | apply Kd.R_drewN | apply Kd.R_drew)); exact HO0_2.out)) k_ hk, Kd.freshB (g := gb342) (o := .cells #[.slice A0_0 l0_0.length c0_0, .int .i64 a0_1, .slice Ao4 l0_2.length co4, .int .i64 a0_3, .bool a0_4] 40 (0, 0)) (by (with_reducible repeat (first | refine blk_drewN ?_ _ | refine blk_drew ?_ | refine blk_alloc ?_ _)); exact BK342.out) k_ hk, Kd.freshB (g := gb343) (o := .cells #[.string a2_0, .slice A2_1 l2_1.length c2_1, .slice A2_2 l2_2.length c2_2] 94 (0, 0)) (by (with_reducible repeat (first | refine blk_drewN ?_ _ | refine blk_drew ?_ | refine blk_alloc ?_ _)); exact BK343.out) k_ hk, Kd.freshB (g := gb344) (o := .cells #[.slice none 0 0, .int .i64 0, .slice none 0 0, .int .i64 0, .bool false] 40 (0, 0)) (by (with_reducible repeat (first | refine blk_drewN ?_ _ | refine blk_drew ?_ | refine blk_alloc ?_ _)); exact BK344.out) k_ hk⟩) _ (Nat.le_refl _)) (Below.refl _ _) (Nat.le_refl _) (by simp) ?_; (case hd => rfl); (case hg => rfl); (case hr => first | (go_simp; done) | (go_simp; rfl)); (case hp => exact (Reps.none _ _)); intro v346 w8 ho9 hb hg_ hnew_; clear hg_ hnew_; (first | rw [← Ny345.out] at ho9 | (simp only [Int.reduceToNat] at ho9; rw [← Ny345.out] at ho9)); have n0_ := Aside0.mk (Kd.R_below (by (with_reducible repeat (first | apply Kd.R_alloc | apply Kd.R_drewN | apply Kd.R_drew)); exact HO0_2.out) hb); have n1_ := Aside0.mk (Kd.V_elder' (by (with_reducible repeat (first | apply Kd.V_alloc | apply Kd.V_drewN | apply Kd.V_drew)); exact HO0_0.out) (Kd.N_base ho9) hb); have n2_ := Aside0.mk (Kd.V_elder' (by (with_reducible repeat (first | apply Kd.V_alloc | apply Kd.V_drewN | apply Kd.V_drew)); exact HO2_1.out) (Kd.N_base ho9) hb); have n3_ := Aside0.mk (Kd.V_elder' (by (with_reducible repeat (first | apply Kd.V_alloc | apply Kd.V_drewN | apply Kd.V_drew)); exact HO2_2.out) (Kd.N_base ho9) hb); have n4_ := Aside0.mk (Kd.N_lower ho9 (by first | exact HK.out.1 | exact (show Kept w _ (fun k_ => P0_2_ k_) from by repeat (first | (with_reducible first | exact HK.out | apply Kept.alloc | apply Kept.drewN | apply Kept.drew | refine Kept.setCell ?_ (.inr GW342.out) _ | refine Kept.setCell ?_ (.inr GW343.out) _ | refine Kept.setCell ?_ (.inr GW344.out) _) | exact HK.out)).1)); have n5_ := Aside0.mk (blk_below (g := gb342) (o := .cells #[.slice A0_0 l0_0.length c0_0, .int .i64 a0_1, .slice Ao4 l0_2.length co4, .int .i64 a0_3, .bool a0_4] 40 (0, 0)) (by (with_reducible repeat (first | refine blk_drewN ?_ _ | refine blk_drew ?_ | refine blk_alloc ?_ _)); exact BK342.out) hb); have n6_ := Aside0.mk (blk_below (g := gb343) (o := .cells #[.string a2_0, .slice A2_1 l2_1.length c2_1, .slice A2_2 l2_2.length c2_2] 94 (0, 0)) (by (with_reducible repeat (first | refine blk_drewN ?_ _ | refine blk_drew ?_ | refine blk_alloc ?_ _)); exact BK343.out) hb); have n7_ := Aside0.mk (blk_below (g := gb344) (o := .cells #[.slice none 0 0, .int .i64 0, .slice none 0 0, .int .i64 0, .bool false] 40 (0, 0)) (by (with_reducible repeat (first | refine blk_drewN ?_ _ | refine blk_drew ?_ | refine blk_alloc ?_ _)); exact BK344.out) hb); have n8_ := Aside0.mk (Kept.below (S := (fun k_ => P0_2_ k_)) (by repeat (first | (with_reducible first | exact HK.out | apply Kept.alloc | apply Kept.drewN | apply Kept.drew | refine Kept.setCell ?_ (.inr GW342.out) _ | refine Kept.setCell ?_ (.inr GW343.out) _ | refine Kept.setCell ?_ (.inr GW344.out) _) | exact HK.out)) hb); have n9_ := Aside0.mk (below_step (by repeat (first | (with_reducible first | exact HB.out | apply below_alloc | apply pw_below_drewN | apply below_drew1 | refine below_set ?_ GE342.out | refine below_set ?_ GE343.out | refine below_set ?_ GE344.out) | exact HB.out)) hb); clear HO0_2; clear HO0_0; clear HO2_1; clear HO2_2; clear BK342; clear BK343; clear BK344; clear HK; clear HB; have HO0_2 := n0_; have HO0_0 := n1_; have HO2_1 := n2_; have HO2_2 := n3_; have HO347 := n4_; have BK342 := n5_; have BK343 := n6_; have BK344 := n7_; have HK := n8_; have HB := n9_; clear n0_ n1_ n2_ n3_ n4_ n5_ n6_ n7_ n8_ n9_; clear hb ho9))
  go_loopg [7, 8] k (fun kq v7 v8 w' => ∃ (x7_1 : List (S94)) (x8_1 : Int), v8 = .int .i64 x8_1 ∧ Aside0 (leatref18_with.l0 kq a1 x7_1 x8_1 l0_0 a0_1 l0_2 a0_3 a0_4 a2_0 l2_1 l2_2 = some (r1, r2, r3, r4, r5)) ∧ Aside0 (kq ≤ k) ∧ Aside0 (Kd.N k94 94 w' w.heap.size (fun k_ => ((P0_2_ k_ ∨ P0_0_ k_ ∨ P2_1_ k_ ∨ P2_2_ k_) ∨ w.heap.size ≤ k_) ∧ some k_ ≠ ((.slice Ao4 l0_2.length co4) : Value).ownBlock ∧ k_ ≠ gb342 ∧ k_ ≠ gb343 ∧ k_ ≠ gb344) v7 x7_1) ∧ Aside0 (Kd.V k94 94 w' w0.heap.size (fun k_ => ((P0_2_ k_ ∨ P0_0_ k_ ∨ P2_1_ k_ ∨ P2_2_ k_) ∨ w.heap.size ≤ k_) ∧ some k_ ≠ (v7 : Value).ownBlock ∧ some k_ ≠ ((.slice Ao4 l0_2.length co4) : Value).ownBlock ∧ k_ ≠ gb342 ∧ k_ ≠ gb343 ∧ k_ ≠ gb344) (.slice A0_0 l0_0.length c0_0) l0_0) ∧ Aside0 (Kd.R k26 26 w' w0.heap.size (fun k_ => (P0_2_ k_ ∨ w.heap.size ≤ k_)) (.slice Ao4 l0_2.length co4) l0_2) ∧ Aside0 (Kd.V (Kd.int .u8) 5 w' w0.heap.size (fun k_ => ((P0_2_ k_ ∨ P0_0_ k_ ∨ P2_1_ k_ ∨ P2_2_ k_) ∨ w.heap.size ≤ k_) ∧ some k_ ≠ (v7 : Value).ownBlock ∧ some k_ ≠ ((.slice Ao4 l0_2.length co4) : Value).ownBlock ∧ k_ ≠ gb342 ∧ k_ ≠ gb343 ∧ k_ ≠ gb344) (.slice A2_1 l2_1.length c2_1) l2_1) ∧ Aside0 (Kd.V k109 109 w' w0.heap.size (fun k_ => ((P0_2_ k_ ∨ P0_0_ k_ ∨ P2_1_ k_ ∨ P2_2_ k_) ∨ w.heap.size ≤ k_) ∧ some k_ ≠ (v7 : Value).ownBlock ∧ some k_ ≠ ((.slice Ao4 l0_2.length co4) : Value).ownBlock ∧ k_ ≠ gb342 ∧ k_ ≠ gb343 ∧ k_ ≠ gb344) (.slice A2_2 l2_2.length c2_2) l2_2) ∧ Aside0 (w'.heap[gb342]? = some (.cells #[(.slice A0_0 l0_0.length c0_0), .int .i64 a0_1, (.slice Ao4 l0_2.length co4), .int .i64 a0_3, .bool a0_4] 40 (0, 0))) ∧ Aside0 (w'.heap[gb343]? = some (.cells #[.string a2_0, (.slice A2_1 l2_1.length c2_1), (.slice A2_2 l2_2.length c2_2)] 94 (0, 0))) ∧ Aside0 (w'.heap[gb344]? = some (.cells #[(.slice none 0 0), .int .i64 0, (.slice none 0 0), .int .i64 0, .bool false] 40 (0, 0))) ∧ Aside0 (Kept w w' (fun k_ => P0_2_ k_)) ∧ Aside0 (Below w0.heap.size w0 w'))
  case atStart => exact ⟨(y345), (0), (by first | rfl | (simp; done) | (simp [*]; done)), H', ⟨Nat.le_refl _⟩, ⟨by (with_reducible repeat (first | apply Kd.N_alloc | apply Kd.N_drewN | apply Kd.N_drew)); exact HO347.out⟩, ⟨by (with_reducible repeat (first | apply Kd.V_alloc | apply Kd.V_drewN | apply Kd.V_drew)); exact Kd.V_mono HO0_0.out (fun _ hk => ⟨hk.1.1.1.1.1, ⟨hk.2, ⟨hk.1.1.1.1.2, ⟨hk.1.1.1.2, ⟨hk.1.1.2, hk.1.2⟩⟩⟩⟩⟩)⟩, ⟨by (with_reducible repeat (first | apply Kd.R_alloc | apply Kd.R_drewN | apply Kd.R_drew)); exact HO0_2.out⟩, ⟨by (with_reducible repeat (first | apply Kd.V_alloc | apply Kd.V_drewN | apply Kd.V_drew)); exact Kd.V_mono HO2_1.out (fun _ hk => ⟨hk.1.1.1.1.1, ⟨hk.2, ⟨hk.1.1.1.1.2, ⟨hk.1.1.1.2, ⟨hk.1.1.2, hk.1.2⟩⟩⟩⟩⟩)⟩, ⟨by (with_reducible repeat (first | apply Kd.V_alloc | apply Kd.V_drewN | apply Kd.V_drew)); exact Kd.V_mono HO2_2.out (fun _ hk => ⟨hk.1.1.1.1.1, ⟨hk.2, ⟨hk.1.1.1.1.2, ⟨hk.1.1.1.2, ⟨hk.1.1.2, hk.1.2⟩⟩⟩⟩⟩)⟩, ⟨by (with_reducible repeat (first | refine blk_drewN ?_ _ | refine blk_drew ?_ | refine blk_alloc ?_ _)); exact BK342.out⟩, ⟨by (with_reducible repeat (first | refine blk_drewN ?_ _ | refine blk_drew ?_ | refine blk_alloc ?_ _)); exact BK343.out⟩, ⟨by (with_reducible repeat (first | refine blk_drewN ?_ _ | refine blk_drew ?_ | refine blk_alloc ?_ _)); exact BK344.out⟩, ⟨by repeat (first | (with_reducible first | exact HK.out | apply Kept.alloc | apply Kept.drewN | apply Kept.drew | refine Kept.setCell ?_ (.inr GW342.out) _ | refine Kept.setCell ?_ (.inr GW343.out) _ | refine Kept.setCell ?_ (.inr GW344.out) _) | exact HK.out)⟩, ⟨by repeat (first | (with_reducible first | exact HB.out | apply below_alloc | apply pw_below_drewN | apply below_drew1 | refine below_set ?_ GE342.out | refine below_set ?_ GE343.out | refine below_set ?_ GE344.out) | exact HB.out)⟩⟩
  case round =>
    clear H'
    try clear c2
    try clear p2
    try clear c7
    obtain ⟨x7_1, x8_1, rfl, HA, HK1, HO_7, HO_343000, HO_343002, HO_344001, HO_344002, BK342, BK343, BK344, HK, HB⟩ := hrel
    cases gk with
    | zero => exact absurd HA.out (by simp [leatref18_with.l0])
    | succ k1 =>
      have H := HA.out
      clear HA
      simp only [leatref18_with.l0] at H
      by_cases c10 : x8_1 < (l0_0.length : Int)
      · rw [if_pos c10] at H
        have c10b0 : decide (x8_1 < (l0_0.length : Int)) = true := decide_eq_true c10
        clear c10
        by_cases c11 : x8_1 = a1
        · rw [if_pos c11] at H
          have c11b0 : (x8_1 == a1) = true := beq_iff_eq.mpr c11
          have c11b1 : (x8_1 != a1) = false := bne_eq_false_iff_eq.mpr c11
          clear c11
          by_cases c12 : x7_1.length < 2199023255552
          · rw [if_pos c12] at H
            have LMc12 := Aside0.mk c12
            clear c12
            obtain ⟨y348, hy348⟩ : ∃ y_ : List (S94), y_ = (x7_1 ++ [(⟨a2_0, l2_1, l2_2⟩ : S94)]) := ⟨_, rfl⟩
            replace H : (leatref18_with.l0 k1 a1 y348 (wrap64 (x8_1 + 1)) l0_0 a0_1 l0_2 a0_3 a0_4 a2_0 l2_1 l2_2) = some (r1, r2, r3, r4, r5) := by first | (rw [hy348]; with_reducible exact H) | (have H2_ := (Option.bind_some _ _).symm.trans H; rw [hy348]; with_reducible exact H2_) | (have H2_ := (Option.bind_some _ _).symm.trans H; with_reducible exact H2_) | with_reducible exact H | (rw [hy348]; exact H) | exact H
            have Ny348 := Aside0.mk hy348
            clear hy348
            have H' := Aside0.mk H
            clear H
            have hnb13 := NB342_343.out
            have hnc13 := NB343_342.out
            have hnb14 := NB342_344.out
            have hnc14 := NB344_342.out
            have hcz15_0 : wr.cell? ⟨gb342, 0, none⟩ = some (.slice A0_0 l0_0.length c0_0) := (blk_cell BK342.out 0).trans rfl
            have hcz15_1 : wr.cell? ⟨gb342, 1, none⟩ = some (.int .i64 a0_1) := (blk_cell BK342.out 1).trans rfl
            have hcz15_2 : wr.cell? ⟨gb342, 2, none⟩ = some (.slice Ao4 l0_2.length co4) := (blk_cell BK342.out 2).trans rfl
            have hcz15_3 : wr.cell? ⟨gb342, 3, none⟩ = some (.int .i64 a0_3) := (blk_cell BK342.out 3).trans rfl
            have hcz15_4 : wr.cell? ⟨gb342, 4, none⟩ = some (.bool a0_4) := (blk_cell BK342.out 4).trans rfl
            have hfz15_0 := blk_frozen BK342.out 0
            have hfz15_1 := blk_frozen BK342.out 1
            have hfz15_2 := blk_frozen BK342.out 2
            have hfz15_3 := blk_frozen BK342.out 3
            have hfz15_4 := blk_frozen BK342.out 4
            have hnb16 := NB343_344.out
            have hnc16 := NB344_343.out
            have hcz17_0 : wr.cell? ⟨gb343, 0, none⟩ = some (.string a2_0) := (blk_cell BK343.out 0).trans rfl
            have hcz17_1 : wr.cell? ⟨gb343, 1, none⟩ = some (.slice A2_1 l2_1.length c2_1) := (blk_cell BK343.out 1).trans rfl
            have hcz17_2 : wr.cell? ⟨gb343, 2, none⟩ = some (.slice A2_2 l2_2.length c2_2) := (blk_cell BK343.out 2).trans rfl
            have hfz17_0 := blk_frozen BK343.out 0
            have hfz17_1 := blk_frozen BK343.out 1
            have hfz17_2 := blk_frozen BK343.out 2
            go_wp2_with (first | ((with_reducible refine gate_builtin (b := .append) (xs := #[.tmp 20, .tmp 22]) rfl ?_); at_builtin; refine Kd.N_append k94 w.heap.size rfl (.tmp 20) (.tmp 22) 38 94 (.agg #[(.string ⟨#[]⟩), (.slice none 0 0), (.slice none 0 0)]) 64 rfl Try.underlying38 info94 rfl (by decide) (by omega) u7 x7_1 (⟨a2_0, l2_1, l2_2⟩ : S94) [.string a2_0, .slice A2_1 l2_1.length c2_1, .slice A2_2 l2_2.length c2_2] (fun k_ => ((P0_2_ k_ ∨ P0_0_ k_ ∨ P2_1_ k_ ∨ P2_2_ k_) ∨ w.heap.size ≤ k_) ∧ some k_ ≠ (.slice Ao4 l0_2.length co4 : Value).ownBlock ∧ k_ ≠ gb342 ∧ k_ ≠ gb343 ∧ k_ ≠ gb344) (fun k_ => ((fun k_ => ((P0_2_ k_ ∨ P0_0_ k_ ∨ P2_1_ k_ ∨ P2_2_ k_) ∨ w.heap.size ≤ k_) ∧ some k_ ≠ (.slice Ao4 l0_2.length co4 : Value).ownBlock ∧ k_ ≠ gb342 ∧ k_ ≠ gb343 ∧ k_ ≠ gb344)) k_ ∧ some k_ ≠ (u7 : Value).ownBlock) rfl rfl ?aP (fun _ hk => hk) ?aF ?aO (Below.refl _ _) ?aS ?aL ?_; (case aP => exact (k94_mkF _ _ (⟨a2_0, l2_1, l2_2⟩ : S94) (Kd.V_reads' (Kd.V_mono (ok' := (fun k_ => ((fun k_ => ((P0_2_ k_ ∨ P0_0_ k_ ∨ P2_1_ k_ ∨ P2_2_ k_) ∨ w.heap.size ≤ k_) ∧ some k_ ≠ (.slice Ao4 l0_2.length co4 : Value).ownBlock ∧ k_ ≠ gb342 ∧ k_ ≠ gb343 ∧ k_ ≠ gb344)) k_ ∧ some k_ ≠ (u7 : Value).ownBlock)) (HO_344001.out) (fun k_ hk => ⟨⟨hk.1, ⟨hk.2.2.1, ⟨hk.2.2.2.1, ⟨hk.2.2.2.2.1, hk.2.2.2.2.2⟩⟩⟩⟩, hk.2.1⟩))).2.1 (Kd.V_F (Kd.V_mono (ok' := (fun k_ => ((fun k_ => ((P0_2_ k_ ∨ P0_0_ k_ ∨ P2_1_ k_ ∨ P2_2_ k_) ∨ w.heap.size ≤ k_) ∧ some k_ ≠ (.slice Ao4 l0_2.length co4 : Value).ownBlock ∧ k_ ≠ gb342 ∧ k_ ≠ gb343 ∧ k_ ≠ gb344)) k_ ∧ some k_ ≠ (u7 : Value).ownBlock)) (HO_344001.out) (fun k_ hk => ⟨⟨hk.1, ⟨hk.2.2.1, ⟨hk.2.2.2.1, ⟨hk.2.2.2.2.1, hk.2.2.2.2.2⟩⟩⟩⟩, hk.2.1⟩))) (Kd.V_reads' (Kd.V_mono (ok' := (fun k_ => ((fun k_ => ((P0_2_ k_ ∨ P0_0_ k_ ∨ P2_1_ k_ ∨ P2_2_ k_) ∨ w.heap.size ≤ k_) ∧ some k_ ≠ (.slice Ao4 l0_2.length co4 : Value).ownBlock ∧ k_ ≠ gb342 ∧ k_ ≠ gb343 ∧ k_ ≠ gb344)) k_ ∧ some k_ ≠ (u7 : Value).ownBlock)) (HO_344002.out) (fun k_ hk => ⟨⟨hk.1, ⟨hk.2.2.1, ⟨hk.2.2.2.1, ⟨hk.2.2.2.2.1, hk.2.2.2.2.2⟩⟩⟩⟩, hk.2.1⟩))).2.1 (Kd.V_F (Kd.V_mono (ok' := (fun k_ => ((fun k_ => ((P0_2_ k_ ∨ P0_0_ k_ ∨ P2_1_ k_ ∨ P2_2_ k_) ∨ w.heap.size ≤ k_) ∧ some k_ ≠ (.slice Ao4 l0_2.length co4 : Value).ownBlock ∧ k_ ≠ gb342 ∧ k_ ≠ gb343 ∧ k_ ≠ gb344)) k_ ∧ some k_ ≠ (u7 : Value).ownBlock)) (HO_344002.out) (fun k_ hk => ⟨⟨hk.1, ⟨hk.2.2.1, ⟨hk.2.2.2.1, ⟨hk.2.2.2.2.1, hk.2.2.2.2.2⟩⟩⟩⟩, hk.2.1⟩))))); (case aF => exact (fun k_ hk => ⟨(.inr (Nat.le_trans (by first | exact HK.out.1 | exact (show Kept w _ (fun k_ => P0_2_ k_) from by repeat (first | (with_reducible first | exact HK.out | apply Kept.alloc | apply Kept.drewN | apply Kept.drew | refine Kept.setCell ?_ (.inr GW342.out) _ | refine Kept.setCell ?_ (.inr GW343.out) _ | refine Kept.setCell ?_ (.inr GW344.out) _) | exact HK.out)).1) hk)), Kd.fresh' (Kd.R_lt (by (with_reducible repeat (first | apply Kd.R_alloc | apply Kd.R_drewN | apply Kd.R_drew)); exact HO_343002.out)) k_ hk, Kd.freshB (g := gb342) (o := .cells #[.slice A0_0 l0_0.length c0_0, .int .i64 a0_1, .slice Ao4 l0_2.length co4, .int .i64 a0_3, .bool a0_4] 40 (0, 0)) (by (with_reducible repeat (first | refine blk_drewN ?_ _ | refine blk_drew ?_ | refine blk_alloc ?_ _)); exact BK342.out) k_ hk, Kd.freshB (g := gb343) (o := .cells #[.string a2_0, .slice A2_1 l2_1.length c2_1, .slice A2_2 l2_2.length c2_2] 94 (0, 0)) (by (with_reducible repeat (first | refine blk_drewN ?_ _ | refine blk_drew ?_ | refine blk_alloc ?_ _)); exact BK343.out) k_ hk, Kd.freshB (g := gb344) (o := .cells #[.slice none 0 0, .int .i64 0, .slice none 0 0, .int .i64 0, .bool false] 40 (0, 0)) (by (with_reducible repeat (first | refine blk_drewN ?_ _ | refine blk_drew ?_ | refine blk_alloc ?_ _)); exact BK344.out) k_ hk⟩)); (case aO => exact (by (with_reducible repeat (first | apply Kd.N_alloc | apply Kd.N_drewN | apply Kd.N_drew)); exact HO_7.out)); (case aS => exact (by first | exact HK.out.1 | exact (show Kept w _ (fun k_ => P0_2_ k_) from by repeat (first | (with_reducible first | exact HK.out | apply Kept.alloc | apply Kept.drewN | apply Kept.drew | refine Kept.setCell ?_ (.inr GW342.out) _ | refine Kept.setCell ?_ (.inr GW343.out) _ | refine Kept.setCell ?_ (.inr GW344.out) _) | exact HK.out)).1)); (case aL => have := LMc12.out; omega); intro v349 w18 ho hb hg hat; rw [← Ny348.out] at ho; have n0_ := Aside0.mk (Kd.V_afterv (ok := (fun k_ => ((P0_2_ k_ ∨ P0_0_ k_ ∨ P2_1_ k_ ∨ P2_2_ k_) ∨ w.heap.size ≤ k_) ∧ some k_ ≠ (.slice Ao4 l0_2.length co4 : Value).ownBlock ∧ k_ ≠ gb342 ∧ k_ ≠ gb343 ∧ k_ ≠ gb344)) (by (with_reducible repeat (first | apply Kd.V_alloc | apply Kd.V_drewN | apply Kd.V_drew)); exact Kd.V_mono HO_343000.out (fun _ hk => ⟨⟨hk.1, ⟨hk.2.2.1, ⟨hk.2.2.2.1, ⟨hk.2.2.2.2.1, hk.2.2.2.2.2⟩⟩⟩⟩, hk.2.1⟩)) hg hat); have n1_ := Aside0.mk (Kd.R_over' (by (with_reducible repeat (first | apply Kd.R_alloc | apply Kd.R_drewN | apply Kd.R_drew)); exact HO_343002.out) (Kd.N_typed (by (with_reducible repeat (first | apply Kd.N_alloc | apply Kd.N_drewN | apply Kd.N_drew)); exact HO_7.out)) (by decide) hg); have n2_ := Aside0.mk (Kd.V_afterv (ok := (fun k_ => ((P0_2_ k_ ∨ P0_0_ k_ ∨ P2_1_ k_ ∨ P2_2_ k_) ∨ w.heap.size ≤ k_) ∧ some k_ ≠ (.slice Ao4 l0_2.length co4 : Value).ownBlock ∧ k_ ≠ gb342 ∧ k_ ≠ gb343 ∧ k_ ≠ gb344)) (by (with_reducible repeat (first | apply Kd.V_alloc | apply Kd.V_drewN | apply Kd.V_drew)); exact Kd.V_mono HO_344001.out (fun _ hk => ⟨⟨hk.1, ⟨hk.2.2.1, ⟨hk.2.2.2.1, ⟨hk.2.2.2.2.1, hk.2.2.2.2.2⟩⟩⟩⟩, hk.2.1⟩)) hg hat); have n3_ := Aside0.mk (Kd.V_afterv (ok := (fun k_ => ((P0_2_ k_ ∨ P0_0_ k_ ∨ P2_1_ k_ ∨ P2_2_ k_) ∨ w.heap.size ≤ k_) ∧ some k_ ≠ (.slice Ao4 l0_2.length co4 : Value).ownBlock ∧ k_ ≠ gb342 ∧ k_ ≠ gb343 ∧ k_ ≠ gb344)) (by (with_reducible repeat (first | apply Kd.V_alloc | apply Kd.V_drewN | apply Kd.V_drew)); exact Kd.V_mono HO_344002.out (fun _ hk => ⟨⟨hk.1, ⟨hk.2.2.1, ⟨hk.2.2.2.1, ⟨hk.2.2.2.2.1, hk.2.2.2.2.2⟩⟩⟩⟩, hk.2.1⟩)) hg hat); have n4_ := Aside0.mk (blk_grown (g := gb342) (o := .cells #[.slice A0_0 l0_0.length c0_0, .int .i64 a0_1, .slice Ao4 l0_2.length co4, .int .i64 a0_3, .bool a0_4] 40 (0, 0)) (by (with_reducible repeat (first | refine blk_drewN ?_ _ | refine blk_drew ?_ | refine blk_alloc ?_ _)); exact BK342.out) hg (Kd.N_ne HO_7.out BK342.out (by decide))); have n5_ := Aside0.mk (blk_grown (g := gb343) (o := .cells #[.string a2_0, .slice A2_1 l2_1.length c2_1, .slice A2_2 l2_2.length c2_2] 94 (0, 0)) (by (with_reducible repeat (first | refine blk_drewN ?_ _ | refine blk_drew ?_ | refine blk_alloc ?_ _)); exact BK343.out) hg (Kd.N_away HO_7.out (fun _ hk => hk.2.2.2.1))); have n6_ := Aside0.mk (blk_grown (g := gb344) (o := .cells #[.slice none 0 0, .int .i64 0, .slice none 0 0, .int .i64 0, .bool false] 40 (0, 0)) (by (with_reducible repeat (first | refine blk_drewN ?_ _ | refine blk_drew ?_ | refine blk_alloc ?_ _)); exact BK344.out) hg (Kd.N_ne HO_7.out BK344.out (by decide))); have n7_ := Aside0.mk (below_weaken (by repeat (first | (with_reducible first | exact HB.out | apply below_alloc | apply pw_below_drewN | apply below_drew1 | refine below_set ?_ GE342.out | refine below_set ?_ GE343.out | refine below_set ?_ GE344.out) | exact HB.out)) HW0.out hb); have n8_ := Aside0.mk (Kept.of_grown (S := (fun k_ => P0_2_ k_)) hg (by repeat (first | (with_reducible first | exact HK.out | apply Kept.alloc | apply Kept.drewN | apply Kept.drew | refine Kept.setCell ?_ (.inr GW342.out) _ | refine Kept.setCell ?_ (.inr GW343.out) _ | refine Kept.setCell ?_ (.inr GW344.out) _) | exact HK.out)) (fun k_ e_ => .inr (Kd.N_base HO_7.out k_ e_))); have n9_ := Aside0.mk (ho); clear HO_343000; clear HO_343002; clear HO_344001; clear HO_344002; clear BK342; clear BK343; clear BK344; clear HB; clear HK; clear HO_7; have HO_343000 := n0_; have HO_343002 := n1_; have HO_344001 := n2_; have HO_344002 := n3_; have BK342 := n4_; have BK343 := n5_; have BK344 := n6_; have HB := n7_; have HK := n8_; have HO350 := n9_; clear n0_ n1_ n2_ n3_ n4_ n5_ n6_ n7_ n8_ n9_; clear ho hb hg hat))
            go_roundg k1
            case measure => have := HK1.out; omega
            case rel => exact ⟨(y348), (wrap64 (x8_1 + 1)), (by first | rfl | (simp; done) | (simp [*]; done)), H', ⟨by have := HK1.out; omega⟩, ⟨by (with_reducible repeat (first | apply Kd.N_alloc | apply Kd.N_drewN | apply Kd.N_drew)); exact HO350.out⟩, ⟨by (with_reducible repeat (first | apply Kd.V_alloc | apply Kd.V_drewN | apply Kd.V_drew)); exact Kd.V_mono HO_343000.out (fun _ hk => ⟨hk.1.1, ⟨hk.2, ⟨hk.1.2.1, ⟨hk.1.2.2.1, ⟨hk.1.2.2.2.1, hk.1.2.2.2.2⟩⟩⟩⟩⟩)⟩, ⟨by (with_reducible repeat (first | apply Kd.R_alloc | apply Kd.R_drewN | apply Kd.R_drew)); exact HO_343002.out⟩, ⟨by (with_reducible repeat (first | apply Kd.V_alloc | apply Kd.V_drewN | apply Kd.V_drew)); exact Kd.V_mono HO_344001.out (fun _ hk => ⟨hk.1.1, ⟨hk.2, ⟨hk.1.2.1, ⟨hk.1.2.2.1, ⟨hk.1.2.2.2.1, hk.1.2.2.2.2⟩⟩⟩⟩⟩)⟩, ⟨by (with_reducible repeat (first | apply Kd.V_alloc | apply Kd.V_drewN | apply Kd.V_drew)); exact Kd.V_mono HO_344002.out (fun _ hk => ⟨hk.1.1, ⟨hk.2, ⟨hk.1.2.1, ⟨hk.1.2.2.1, ⟨hk.1.2.2.2.1, hk.1.2.2.2.2⟩⟩⟩⟩⟩)⟩, ⟨by (with_reducible repeat (first | refine blk_drewN ?_ _ | refine blk_drew ?_ | refine blk_alloc ?_ _)); exact BK342.out⟩, ⟨by (with_reducible repeat (first | refine blk_drewN ?_ _ | refine blk_drew ?_ | refine blk_alloc ?_ _)); exact BK343.out⟩, ⟨by (with_reducible repeat (first | refine blk_drewN ?_ _ | refine blk_drew ?_ | refine blk_alloc ?_ _)); exact BK344.out⟩, ⟨by repeat (first | (with_reducible first | exact HK.out | apply Kept.alloc | apply Kept.drewN | apply Kept.drew | refine Kept.setCell ?_ (.inr GW342.out) _ | refine Kept.setCell ?_ (.inr GW343.out) _ | refine Kept.setCell ?_ (.inr GW344.out) _) | exact HK.out)⟩, ⟨by repeat (first | (with_reducible first | exact HB.out | apply below_alloc | apply pw_below_drewN | apply below_drew1 | refine below_set ?_ GE342.out | refine below_set ?_ GE343.out | refine below_set ?_ GE344.out) | exact HB.out)⟩⟩
          · rw [if_neg c12] at H
            exact absurd H (by simp)
        · rw [if_neg c11] at H
          have c11b0 : (x8_1 == a1) = false := beq_eq_false_iff_ne.mpr c11
          have c11b1 : (x8_1 != a1) = true := bne_iff_ne.mpr c11
          by_cases c19 : 0 ≤ x8_1
          · rw [if_pos c19] at H
            have c19b0 : decide (0 ≤ x8_1) = true := decide_eq_true c19
            clear c19
            by_cases c20 : x7_1.length < 2199023255552
            · rw [if_pos c20] at H
              have LMc20 := Aside0.mk c20
              clear c20
              obtain ⟨y352, hy352⟩ : ∃ y_ : List (S94), y_ = (x7_1 ++ [(⟨(rd_T94 l0_0 x8_1).f0, (rd_T94 l0_0 x8_1).f1, (rd_T94 l0_0 x8_1).f2⟩ : S94)]) := ⟨_, rfl⟩
              replace H : (leatref18_with.l0 k1 a1 y352 (wrap64 (x8_1 + 1)) l0_0 a0_1 l0_2 a0_3 a0_4 a2_0 l2_1 l2_2) = some (r1, r2, r3, r4, r5) := by first | (rw [hy352]; with_reducible exact H) | (have H2_ := (Option.bind_some _ _).symm.trans H; rw [hy352]; with_reducible exact H2_) | (have H2_ := (Option.bind_some _ _).symm.trans H; with_reducible exact H2_) | with_reducible exact H | (rw [hy352]; exact H) | exact H
              have Ny352 := Aside0.mk hy352
              clear hy352
              have H' := Aside0.mk H
              clear H
              have hnb21 := NB342_343.out
              have hnc21 := NB343_342.out
              have hnb22 := NB342_344.out
              have hnc22 := NB344_342.out
              have hcz23_0 : wr.cell? ⟨gb342, 0, none⟩ = some (.slice A0_0 l0_0.length c0_0) := (blk_cell BK342.out 0).trans rfl
              have hcz23_1 : wr.cell? ⟨gb342, 1, none⟩ = some (.int .i64 a0_1) := (blk_cell BK342.out 1).trans rfl
              have hcz23_2 : wr.cell? ⟨gb342, 2, none⟩ = some (.slice Ao4 l0_2.length co4) := (blk_cell BK342.out 2).trans rfl
              have hcz23_3 : wr.cell? ⟨gb342, 3, none⟩ = some (.int .i64 a0_3) := (blk_cell BK342.out 3).trans rfl
              have hcz23_4 : wr.cell? ⟨gb342, 4, none⟩ = some (.bool a0_4) := (blk_cell BK342.out 4).trans rfl
              have hfz23_0 := blk_frozen BK342.out 0
              have hfz23_1 := blk_frozen BK342.out 1
              have hfz23_2 := blk_frozen BK342.out 2
              have hfz23_3 := blk_frozen BK342.out 3
              have hfz23_4 := blk_frozen BK342.out 4
              have p351 : 0 ≤ (x8_1 : Int) := of_decide_eq_true (by first | (with_reducible assumption) | assumption)
              have q351 : x8_1 < (l0_0.length : Int) := of_decide_eq_true (by first | (with_reducible assumption) | assumption)
              obtain ⟨ad351, A351_1, c351_1, A351_2, c351_2, e351, hx351_0, hx351_1, hx351_2, hl351_1, hi351_1, hl351_2, hi351_2⟩ := at_T94 (Kd.V_reads' HO_343000.out).2.2 x8_1 p351 q351
              cases e351
              obtain ⟨ce351, hce351, hMe351, hcc351⟩ := Kd.V_get HO_343000.out z94 x8_1 p351 (by first | exact q351 | exact of_decide_eq_true (by first | (with_reducible assumption) | assumption) | (have e_ := (Kd.V_reads' HO_343000.out).1; omega))
              obtain ⟨ua351_1, uc351_1, ua351_2, uc351_2, rfl, ul351_1, ge351_1, ul351_2, ge351_2⟩ := k94_openF hMe351
              have hv351_1 := hcc351 1 _ rfl
              rw [add_field _ _ 1 (by omega)] at hv351_1
              replace hv351_1 := Option.some.inj (hv351_1.symm.trans hx351_1)
              injection hv351_1 with hva_ hvn_ hvc_
              rw [hva_] at ge351_1
              rw [hvc_] at ul351_1
              have HL351_1 := Aside0.mk (show Kd.V (Kd.int .u8) 5 _ w0.heap.size _ _ ((rd_T94 l0_0 x8_1).f1) from Kd.V_mk ul351_1 ge351_1)
              clear hva_ hvn_ hvc_ ge351_1 ul351_1
              have hv351_2 := hcc351 2 _ rfl
              rw [add_field _ _ 2 (by omega)] at hv351_2
              replace hv351_2 := Option.some.inj (hv351_2.symm.trans hx351_2)
              injection hv351_2 with hva_ hvn_ hvc_
              rw [hva_] at ge351_2
              rw [hvc_] at ul351_2
              have HL351_2 := Aside0.mk (show Kd.V k109 109 _ w0.heap.size _ _ ((rd_T94 l0_0 x8_1).f2) from Kd.V_mk ul351_2 ge351_2)
              clear hva_ hvn_ hvc_ ge351_2 ul351_2
              clear hcc351 hce351
              have HR351_1 := Aside0.mk hi351_1
              have HC351_1 := Aside0.mk hl351_1
              clear hi351_1 hl351_1
              have HR351_2 := Aside0.mk hi351_2
              have HC351_2 := Aside0.mk hl351_2
              clear hi351_2 hl351_2
              replace p351 := eq_true p351
              replace q351 := eq_true q351
              go_wp2_with (first | ((with_reducible refine gate_builtin (b := .append) (xs := #[.tmp 24, .tmp 30]) rfl ?_); at_builtin; refine Kd.N_append k94 w.heap.size rfl (.tmp 24) (.tmp 30) 38 94 (.agg #[(.string ⟨#[]⟩), (.slice none 0 0), (.slice none 0 0)]) 64 rfl Try.underlying38 info94 rfl (by decide) (by omega) u7 x7_1 (⟨(rd_T94 l0_0 x8_1).f0, (rd_T94 l0_0 x8_1).f1, (rd_T94 l0_0 x8_1).f2⟩ : S94) [.string ((rd_T94 l0_0 x8_1).f0), .slice A351_1 ((rd_T94 l0_0 x8_1).f1).length c351_1, .slice A351_2 ((rd_T94 l0_0 x8_1).f2).length c351_2] (fun k_ => ((P0_2_ k_ ∨ P0_0_ k_ ∨ P2_1_ k_ ∨ P2_2_ k_) ∨ w.heap.size ≤ k_) ∧ some k_ ≠ (.slice Ao4 l0_2.length co4 : Value).ownBlock ∧ k_ ≠ gb342 ∧ k_ ≠ gb343 ∧ k_ ≠ gb344) (fun k_ => ((fun k_ => ((P0_2_ k_ ∨ P0_0_ k_ ∨ P2_1_ k_ ∨ P2_2_ k_) ∨ w.heap.size ≤ k_) ∧ some k_ ≠ (.slice Ao4 l0_2.length co4 : Value).ownBlock ∧ k_ ≠ gb342 ∧ k_ ≠ gb343 ∧ k_ ≠ gb344)) k_ ∧ some k_ ≠ (u7 : Value).ownBlock) rfl rfl ?aP (fun _ hk => hk) ?aF ?aO (Below.refl _ _) ?aS ?aL ?_; (case aP => exact (k94_mkF _ _ (⟨(rd_T94 l0_0 x8_1).f0, (rd_T94 l0_0 x8_1).f1, (rd_T94 l0_0 x8_1).f2⟩ : S94) (Kd.V_reads' (Kd.V_mono (ok' := (fun k_ => ((fun k_ => ((P0_2_ k_ ∨ P0_0_ k_ ∨ P2_1_ k_ ∨ P2_2_ k_) ∨ w.heap.size ≤ k_) ∧ some k_ ≠ (.slice Ao4 l0_2.length co4 : Value).ownBlock ∧ k_ ≠ gb342 ∧ k_ ≠ gb343 ∧ k_ ≠ gb344)) k_ ∧ some k_ ≠ (u7 : Value).ownBlock)) (HL351_1.out) (fun k_ hk => ⟨⟨hk.1, ⟨hk.2.2.1, ⟨hk.2.2.2.1, ⟨hk.2.2.2.2.1, hk.2.2.2.2.2⟩⟩⟩⟩, hk.2.1⟩))).2.1 (Kd.V_F (Kd.V_mono (ok' := (fun k_ => ((fun k_ => ((P0_2_ k_ ∨ P0_0_ k_ ∨ P2_1_ k_ ∨ P2_2_ k_) ∨ w.heap.size ≤ k_) ∧ some k_ ≠ (.slice Ao4 l0_2.length co4 : Value).ownBlock ∧ k_ ≠ gb342 ∧ k_ ≠ gb343 ∧ k_ ≠ gb344)) k_ ∧ some k_ ≠ (u7 : Value).ownBlock)) (HL351_1.out) (fun k_ hk => ⟨⟨hk.1, ⟨hk.2.2.1, ⟨hk.2.2.2.1, ⟨hk.2.2.2.2.1, hk.2.2.2.2.2⟩⟩⟩⟩, hk.2.1⟩))) (Kd.V_reads' (Kd.V_mono (ok' := (fun k_ => ((fun k_ => ((P0_2_ k_ ∨ P0_0_ k_ ∨ P2_1_ k_ ∨ P2_2_ k_) ∨ w.heap.size ≤ k_) ∧ some k_ ≠ (.slice Ao4 l0_2.length co4 : Value).ownBlock ∧ k_ ≠ gb342 ∧ k_ ≠ gb343 ∧ k_ ≠ gb344)) k_ ∧ some k_ ≠ (u7 : Value).ownBlock)) (HL351_2.out) (fun k_ hk => ⟨⟨hk.1, ⟨hk.2.2.1, ⟨hk.2.2.2.1, ⟨hk.2.2.2.2.1, hk.2.2.2.2.2⟩⟩⟩⟩, hk.2.1⟩))).2.1 (Kd.V_F (Kd.V_mono (ok' := (fun k_ => ((fun k_ => ((P0_2_ k_ ∨ P0_0_ k_ ∨ P2_1_ k_ ∨ P2_2_ k_) ∨ w.heap.size ≤ k_) ∧ some k_ ≠ (.slice Ao4 l0_2.length co4 : Value).ownBlock ∧ k_ ≠ gb342 ∧ k_ ≠ gb343 ∧ k_ ≠ gb344)) k_ ∧ some k_ ≠ (u7 : Value).ownBlock)) (HL351_2.out) (fun k_ hk => ⟨⟨hk.1, ⟨hk.2.2.1, ⟨hk.2.2.2.1, ⟨hk.2.2.2.2.1, hk.2.2.2.2.2⟩⟩⟩⟩, hk.2.1⟩))))); (case aF => exact (fun k_ hk => ⟨(.inr (Nat.le_trans (by first | exact HK.out.1 | exact (show Kept w _ (fun k_ => P0_2_ k_) from by repeat (first | (with_reducible first | exact HK.out | apply Kept.alloc | apply Kept.drewN | apply Kept.drew | refine Kept.setCell ?_ (.inr GW342.out) _ | refine Kept.setCell ?_ (.inr GW343.out) _ | refine Kept.setCell ?_ (.inr GW344.out) _) | exact HK.out)).1) hk)), Kd.fresh' (Kd.R_lt (by (with_reducible repeat (first | apply Kd.R_alloc | apply Kd.R_drewN | apply Kd.R_drew)); exact HO_343002.out)) k_ hk, Kd.freshB (g := gb342) (o := .cells #[.slice (some ad351) l0_0.length c0_0, .int .i64 a0_1, .slice Ao4 l0_2.length co4, .int .i64 a0_3, .bool a0_4] 40 (0, 0)) (by (with_reducible repeat (first | refine blk_drewN ?_ _ | refine blk_drew ?_ | refine blk_alloc ?_ _)); exact BK342.out) k_ hk, Kd.freshB (g := gb343) (o := .cells #[.string a2_0, .slice A2_1 l2_1.length c2_1, .slice A2_2 l2_2.length c2_2] 94 (0, 0)) (by (with_reducible repeat (first | refine blk_drewN ?_ _ | refine blk_drew ?_ | refine blk_alloc ?_ _)); exact BK343.out) k_ hk, Kd.freshB (g := gb344) (o := .cells #[.slice none 0 0, .int .i64 0, .slice none 0 0, .int .i64 0, .bool false] 40 (0, 0)) (by (with_reducible repeat (first | refine blk_drewN ?_ _ | refine blk_drew ?_ | refine blk_alloc ?_ _)); exact BK344.out) k_ hk⟩)); (case aO => exact (by (with_reducible repeat (first | apply Kd.N_alloc | apply Kd.N_drewN | apply Kd.N_drew)); exact HO_7.out)); (case aS => exact (by first | exact HK.out.1 | exact (show Kept w _ (fun k_ => P0_2_ k_) from by repeat (first | (with_reducible first | exact HK.out | apply Kept.alloc | apply Kept.drewN | apply Kept.drew | refine Kept.setCell ?_ (.inr GW342.out) _ | refine Kept.setCell ?_ (.inr GW343.out) _ | refine Kept.setCell ?_ (.inr GW344.out) _) | exact HK.out)).1)); (case aL => have := LMc20.out; omega); intro v353 w24 ho hb hg hat; rw [← Ny352.out] at ho; have n0_ := Aside0.mk (Kd.V_afterv (ok := (fun k_ => ((P0_2_ k_ ∨ P0_0_ k_ ∨ P2_1_ k_ ∨ P2_2_ k_) ∨ w.heap.size ≤ k_) ∧ some k_ ≠ (.slice Ao4 l0_2.length co4 : Value).ownBlock ∧ k_ ≠ gb342 ∧ k_ ≠ gb343 ∧ k_ ≠ gb344)) (by (with_reducible repeat (first | apply Kd.V_alloc | apply Kd.V_drewN | apply Kd.V_drew)); exact Kd.V_mono HO_343000.out (fun _ hk => ⟨⟨hk.1, ⟨hk.2.2.1, ⟨hk.2.2.2.1, ⟨hk.2.2.2.2.1, hk.2.2.2.2.2⟩⟩⟩⟩, hk.2.1⟩)) hg hat); have n1_ := Aside0.mk (Kd.R_over' (by (with_reducible repeat (first | apply Kd.R_alloc | apply Kd.R_drewN | apply Kd.R_drew)); exact HO_343002.out) (Kd.N_typed (by (with_reducible repeat (first | apply Kd.N_alloc | apply Kd.N_drewN | apply Kd.N_drew)); exact HO_7.out)) (by decide) hg); have n2_ := Aside0.mk (Kd.V_afterv (ok := (fun k_ => ((P0_2_ k_ ∨ P0_0_ k_ ∨ P2_1_ k_ ∨ P2_2_ k_) ∨ w.heap.size ≤ k_) ∧ some k_ ≠ (.slice Ao4 l0_2.length co4 : Value).ownBlock ∧ k_ ≠ gb342 ∧ k_ ≠ gb343 ∧ k_ ≠ gb344)) (by (with_reducible repeat (first | apply Kd.V_alloc | apply Kd.V_drewN | apply Kd.V_drew)); exact Kd.V_mono HO_344001.out (fun _ hk => ⟨⟨hk.1, ⟨hk.2.2.1, ⟨hk.2.2.2.1, ⟨hk.2.2.2.2.1, hk.2.2.2.2.2⟩⟩⟩⟩, hk.2.1⟩)) hg hat); have n3_ := Aside0.mk (Kd.V_afterv (ok := (fun k_ => ((P0_2_ k_ ∨ P0_0_ k_ ∨ P2_1_ k_ ∨ P2_2_ k_) ∨ w.heap.size ≤ k_) ∧ some k_ ≠ (.slice Ao4 l0_2.length co4 : Value).ownBlock ∧ k_ ≠ gb342 ∧ k_ ≠ gb343 ∧ k_ ≠ gb344)) (by (with_reducible repeat (first | apply Kd.V_alloc | apply Kd.V_drewN | apply Kd.V_drew)); exact Kd.V_mono HO_344002.out (fun _ hk => ⟨⟨hk.1, ⟨hk.2.2.1, ⟨hk.2.2.2.1, ⟨hk.2.2.2.2.1, hk.2.2.2.2.2⟩⟩⟩⟩, hk.2.1⟩)) hg hat); have n4_ := Aside0.mk (blk_grown (g := gb342) (o := .cells #[.slice (some ad351) l0_0.length c0_0, .int .i64 a0_1, .slice Ao4 l0_2.length co4, .int .i64 a0_3, .bool a0_4] 40 (0, 0)) (by (with_reducible repeat (first | refine blk_drewN ?_ _ | refine blk_drew ?_ | refine blk_alloc ?_ _)); exact BK342.out) hg (Kd.N_ne HO_7.out BK342.out (by decide))); have n5_ := Aside0.mk (blk_grown (g := gb343) (o := .cells #[.string a2_0, .slice A2_1 l2_1.length c2_1, .slice A2_2 l2_2.length c2_2] 94 (0, 0)) (by (with_reducible repeat (first | refine blk_drewN ?_ _ | refine blk_drew ?_ | refine blk_alloc ?_ _)); exact BK343.out) hg (Kd.N_away HO_7.out (fun _ hk => hk.2.2.2.1))); have n6_ := Aside0.mk (blk_grown (g := gb344) (o := .cells #[.slice none 0 0, .int .i64 0, .slice none 0 0, .int .i64 0, .bool false] 40 (0, 0)) (by (with_reducible repeat (first | refine blk_drewN ?_ _ | refine blk_drew ?_ | refine blk_alloc ?_ _)); exact BK344.out) hg (Kd.N_ne HO_7.out BK344.out (by decide))); have n7_ := Aside0.mk (Kd.V_afterv (ok := (fun k_ => ((P0_2_ k_ ∨ P0_0_ k_ ∨ P2_1_ k_ ∨ P2_2_ k_) ∨ w.heap.size ≤ k_) ∧ some k_ ≠ (.slice Ao4 l0_2.length co4 : Value).ownBlock ∧ k_ ≠ gb342 ∧ k_ ≠ gb343 ∧ k_ ≠ gb344)) (by (with_reducible repeat (first | apply Kd.V_alloc | apply Kd.V_drewN | apply Kd.V_drew)); exact Kd.V_mono HL351_1.out (fun _ hk => ⟨⟨hk.1, ⟨hk.2.2.1, ⟨hk.2.2.2.1, ⟨hk.2.2.2.2.1, hk.2.2.2.2.2⟩⟩⟩⟩, hk.2.1⟩)) hg hat); have n8_ := Aside0.mk (Kd.V_afterv (ok := (fun k_ => ((P0_2_ k_ ∨ P0_0_ k_ ∨ P2_1_ k_ ∨ P2_2_ k_) ∨ w.heap.size ≤ k_) ∧ some k_ ≠ (.slice Ao4 l0_2.length co4 : Value).ownBlock ∧ k_ ≠ gb342 ∧ k_ ≠ gb343 ∧ k_ ≠ gb344)) (by (with_reducible repeat (first | apply Kd.V_alloc | apply Kd.V_drewN | apply Kd.V_drew)); exact Kd.V_mono HL351_2.out (fun _ hk => ⟨⟨hk.1, ⟨hk.2.2.1, ⟨hk.2.2.2.1, ⟨hk.2.2.2.2.1, hk.2.2.2.2.2⟩⟩⟩⟩, hk.2.1⟩)) hg hat); have n9_ := Aside0.mk (below_weaken (by repeat (first | (with_reducible first | exact HB.out | apply below_alloc | apply pw_below_drewN | apply below_drew1 | refine below_set ?_ GE342.out | refine below_set ?_ GE343.out | refine below_set ?_ GE344.out) | exact HB.out)) HW0.out hb); have n10_ := Aside0.mk (Kept.of_grown (S := (fun k_ => P0_2_ k_)) hg (by repeat (first | (with_reducible first | exact HK.out | apply Kept.alloc | apply Kept.drewN | apply Kept.drew | refine Kept.setCell ?_ (.inr GW342.out) _ | refine Kept.setCell ?_ (.inr GW343.out) _ | refine Kept.setCell ?_ (.inr GW344.out) _) | exact HK.out)) (fun k_ e_ => .inr (Kd.N_base HO_7.out k_ e_))); have n11_ := Aside0.mk (ho); clear HO_343000; clear HO_343002; clear HO_344001; clear HO_344002; clear BK342; clear BK343; clear BK344; clear HL351_1; clear HL351_2; clear HB; clear HK; clear HO_7; have HO_343000 := n0_; have HO_343002 := n1_; have HO_344001 := n2_; have HO_344002 := n3_; have BK342 := n4_; have BK343 := n5_; have BK344 := n6_; have HL351_1 := n7_; have HL351_2 := n8_; have HB := n9_; have HK := n10_; have HO354 := n11_; clear n0_ n1_ n2_ n3_ n4_ n5_ n6_ n7_ n8_ n9_ n10_ n11_; clear ho hb hg hat))
              go_roundg k1
              case measure => have := HK1.out; omega
              case rel => exact ⟨(y352), (wrap64 (x8_1 + 1)), (by first | rfl | (simp; done) | (simp [*]; done)), H', ⟨by have := HK1.out; omega⟩, ⟨by (with_reducible repeat (first | apply Kd.N_alloc | apply Kd.N_drewN | apply Kd.N_drew)); exact HO354.out⟩, ⟨by (with_reducible repeat (first | apply Kd.V_alloc | apply Kd.V_drewN | apply Kd.V_drew)); exact Kd.V_mono HO_343000.out (fun _ hk => ⟨hk.1.1, ⟨hk.2, ⟨hk.1.2.1, ⟨hk.1.2.2.1, ⟨hk.1.2.2.2.1, hk.1.2.2.2.2⟩⟩⟩⟩⟩)⟩, ⟨by (with_reducible repeat (first | apply Kd.R_alloc | apply Kd.R_drewN | apply Kd.R_drew)); exact HO_343002.out⟩, ⟨by (with_reducible repeat (first | apply Kd.V_alloc | apply Kd.V_drewN | apply Kd.V_drew)); exact Kd.V_mono HO_344001.out (fun _ hk => ⟨hk.1.1, ⟨hk.2, ⟨hk.1.2.1, ⟨hk.1.2.2.1, ⟨hk.1.2.2.2.1, hk.1.2.2.2.2⟩⟩⟩⟩⟩)⟩, ⟨by (with_reducible repeat (first | apply Kd.V_alloc | apply Kd.V_drewN | apply Kd.V_drew)); exact Kd.V_mono HO_344002.out (fun _ hk => ⟨hk.1.1, ⟨hk.2, ⟨hk.1.2.1, ⟨hk.1.2.2.1, ⟨hk.1.2.2.2.1, hk.1.2.2.2.2⟩⟩⟩⟩⟩)⟩, ⟨by (with_reducible repeat (first | refine blk_drewN ?_ _ | refine blk_drew ?_ | refine blk_alloc ?_ _)); exact BK342.out⟩, ⟨by (with_reducible repeat (first | refine blk_drewN ?_ _ | refine blk_drew ?_ | refine blk_alloc ?_ _)); exact BK343.out⟩, ⟨by (with_reducible repeat (first | refine blk_drewN ?_ _ | refine blk_drew ?_ | refine blk_alloc ?_ _)); exact BK344.out⟩, ⟨by repeat (first | (with_reducible first | exact HK.out | apply Kept.alloc | apply Kept.drewN | apply Kept.drew | refine Kept.setCell ?_ (.inr GW342.out) _ | refine Kept.setCell ?_ (.inr GW343.out) _ | refine Kept.setCell ?_ (.inr GW344.out) _) | exact HK.out)⟩, ⟨by repeat (first | (with_reducible first | exact HB.out | apply below_alloc | apply pw_below_drewN | apply below_drew1 | refine below_set ?_ GE342.out | refine below_set ?_ GE343.out | refine below_set ?_ GE344.out) | exact HB.out)⟩⟩
            · rw [if_neg c20] at H
              exact absurd H (by simp)
          · rw [if_neg c19] at H
            exact absurd H (by simp)
      · rw [if_neg c10] at H
        have c10b0 : decide (x8_1 < (l0_0.length : Int)) = false := decide_eq_false c10
        clear c10
        simp only [Option.some.injEq, Prod.mk.injEq] at H
        obtain ⟨rfl, rfl, rfl, rfl, rfl⟩ := H
        have hnb25 := NB342_343.out
        have hnc25 := NB343_342.out
        have hnb26 := NB342_344.out
        have hnc26 := NB344_342.out
        have hcz27_0 : wr.cell? ⟨gb342, 0, none⟩ = some (.slice A0_0 l0_0.length c0_0) := (blk_cell BK342.out 0).trans rfl
        have hcz27_1 : wr.cell? ⟨gb342, 1, none⟩ = some (.int .i64 a0_1) := (blk_cell BK342.out 1).trans rfl
        have hcz27_2 : wr.cell? ⟨gb342, 2, none⟩ = some (.slice Ao4 l0_2.length co4) := (blk_cell BK342.out 2).trans rfl
        have hcz27_3 : wr.cell? ⟨gb342, 3, none⟩ = some (.int .i64 a0_3) := (blk_cell BK342.out 3).trans rfl
        have hcz27_4 : wr.cell? ⟨gb342, 4, none⟩ = some (.bool a0_4) := (blk_cell BK342.out 4).trans rfl
        have hfz27_0 := blk_frozen BK342.out 0
        have hfz27_1 := blk_frozen BK342.out 1
        have hfz27_2 := blk_frozen BK342.out 2
        have hfz27_3 := blk_frozen BK342.out 3
        have hfz27_4 := blk_frozen BK342.out 4
        obtain ⟨Ao28, co28, eo28⟩ := Kd.N_slice HO_7.out
        subst eo28
        have hnb29 := NB344_343.out
        have hnc29 := NB343_344.out
        have hcz30_0 : wr.cell? ⟨gb344, 0, none⟩ = some (.slice none 0 0) := (blk_cell BK344.out 0).trans rfl
        have hcz30_1 : wr.cell? ⟨gb344, 1, none⟩ = some (.int .i64 0) := (blk_cell BK344.out 1).trans rfl
        have hcz30_2 : wr.cell? ⟨gb344, 2, none⟩ = some (.slice none 0 0) := (blk_cell BK344.out 2).trans rfl
        have hcz30_3 : wr.cell? ⟨gb344, 3, none⟩ = some (.int .i64 0) := (blk_cell BK344.out 3).trans rfl
        have hcz30_4 : wr.cell? ⟨gb344, 4, none⟩ = some (.bool false) := (blk_cell BK344.out 4).trans rfl
        have hfz30_0 := blk_frozen BK344.out 0
        have hfz30_1 := blk_frozen BK344.out 1
        have hfz30_2 := blk_frozen BK344.out 2
        have hfz30_3 := blk_frozen BK344.out 3
        have hfz30_4 := blk_frozen BK344.out 4
        go_wp2
        refine bodyPost_ret (results_cell_row rfl _ _ gb344 40 #[.slice Ao28 x7_1.length co28, .int .i64 a0_1, .slice Ao4 l0_2.length co4, .int .i64 a0_3, .bool a0_4] (0, 0) _ rfl (by (with_reducible repeat (first | refine blk_drewN ?_ _ | refine blk_drew ?_ | refine blk_alloc ?_ _)); refine blk_put (cs := #[.slice Ao28 x7_1.length co28, .int .i64 a0_1, .slice Ao4 l0_2.length co4, .int .i64 a0_3, .bool false]) ?_ 4 _ rfl; (with_reducible repeat (first | refine blk_drewN ?_ _ | refine blk_drew ?_ | refine blk_alloc ?_ _)); refine blk_put (cs := #[.slice Ao28 x7_1.length co28, .int .i64 a0_1, .slice Ao4 l0_2.length co4, .int .i64 0, .bool false]) ?_ 3 _ rfl; (with_reducible repeat (first | refine blk_drewN ?_ _ | refine blk_drew ?_ | refine blk_alloc ?_ _)); refine blk_put (cs := #[.slice Ao28 x7_1.length co28, .int .i64 a0_1, .slice none 0 0, .int .i64 0, .bool false]) ?_ 2 _ rfl; (with_reducible repeat (first | refine blk_drewN ?_ _ | refine blk_drew ?_ | refine blk_alloc ?_ _)); refine blk_put (cs := #[.slice Ao28 x7_1.length co28, .int .i64 0, .slice none 0 0, .int .i64 0, .bool false]) ?_ 1 _ rfl; (with_reducible repeat (first | refine blk_drewN ?_ _ | refine blk_drew ?_ | refine blk_alloc ?_ _)); refine blk_put (cs := #[.slice none 0 0, .int .i64 0, .slice none 0 0, .int .i64 0, .bool false]) ?_ 0 _ rfl; (with_reducible repeat (first | refine blk_drewN ?_ _ | refine blk_drew ?_ | refine blk_alloc ?_ _)); refine blk_far ?_ NB344_342.out _; (with_reducible repeat (first | refine blk_drewN ?_ _ | refine blk_drew ?_ | refine blk_alloc ?_ _)); exact BK344.out) Try.underlying40 rfl (by kernel_rfl)) rfl ?_
        exact ⟨_, _, by first | rfl | (simp [errW_none, errW_some] <;> rfl) | (simp [*, errW_none, errW_some] <;> rfl), by (with_reducible repeat (first | apply Kd.N_alloc | apply Kd.N_drewN | apply Kd.N_drew)); exact Kd.N_mono (Kd.N_far (p := ⟨gb344, 4, none⟩) (Kd.N_far (p := ⟨gb344, 3, none⟩) (Kd.N_far (p := ⟨gb344, 2, none⟩) (Kd.N_far (p := ⟨gb344, 1, none⟩) (Kd.N_far (p := ⟨gb344, 0, none⟩) (Kd.N_far (p := ⟨gb342, 0, none⟩) (Kd.N_mono (Kd.N_mono HO_7.out (fun k_ hk => (⟨hk, hk.2.2.1⟩ : _ ∧ k_ ≠ gb342))) (fun k_ hk => (⟨hk, hk.1.2.2.2.2⟩ : _ ∧ k_ ≠ gb344))) (fun _ hk => hk.1.2) (.slice Ao28 x7_1.length co28)) (fun _ hk => hk.2) (.slice Ao28 x7_1.length co28)) (fun _ hk => hk.2) (.int .i64 a0_1)) (fun _ hk => hk.2) (.slice Ao4 l0_2.length co4)) (fun _ hk => hk.2) (.int .i64 a0_3)) (fun _ hk => hk.2) (.bool a0_4)) (fun _ hk => ⟨hk.1.1.1, hk.1.1.2.1⟩), by (with_reducible repeat (first | apply Kd.R_alloc | apply Kd.R_drewN | apply Kd.R_drew)); exact Kd.R_mono (Kd.R_far (p := ⟨gb344, 4, none⟩) (Kd.R_far (p := ⟨gb344, 3, none⟩) (Kd.R_far (p := ⟨gb344, 2, none⟩) (Kd.R_far (p := ⟨gb344, 1, none⟩) (Kd.R_far (p := ⟨gb344, 0, none⟩) (Kd.R_far (p := ⟨gb342, 0, none⟩) (Kd.R_types (Kd.R_types HO_343002.out BK342.out (by decide)) BK344.out (by decide)) (fun _ hk => hk.1.2) (.slice Ao28 x7_1.length co28)) (fun _ hk => hk.2) (.slice Ao28 x7_1.length co28)) (fun _ hk => hk.2) (.int .i64 a0_1)) (fun _ hk => hk.2) (.slice Ao4 l0_2.length co4)) (fun _ hk => hk.2) (.int .i64 a0_3)) (fun _ hk => hk.2) (.bool a0_4)) (fun _ hk => hk.1.1), by repeat (first | (with_reducible first | exact HB.out | apply below_alloc | apply pw_below_drewN | apply below_drew1 | refine below_set ?_ GE342.out | refine below_set ?_ GE343.out | refine below_set ?_ GE344.out) | exact HB.out), by repeat (first | (with_reducible first | exact HK.out | apply Kept.alloc | apply Kept.drewN | apply Kept.drew | refine Kept.setCell ?_ (.inr GW342.out) _ | refine Kept.setCell ?_ (.inr GW343.out) _ | refine Kept.setCell ?_ (.inr GW344.out) _) | exact HK.out)⟩

end Go.Proofs.Ytkhopknpadncdaa.PDiskMemory
