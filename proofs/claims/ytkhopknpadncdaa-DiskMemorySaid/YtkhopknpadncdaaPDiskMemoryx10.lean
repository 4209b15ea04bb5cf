-- PRINTED BY print.sh 35421559b90ae4d0a3588c463048766b98c2df88dd9212a6774a882060cdf62d: not written by this session
import Derived.Test.YtkhopknpadncdaaPDiskMemoryx0
import Derived.Test.YtkhopknpadncdaaPDiskMemoryx7
import Derived.Test.YtkhopknpadncdaaPDiskMemoryx9
namespace Go.Proofs.Ytkhopknpadncdaa.PDiskMemory
open Go.RowKit Go.Proofs.YtkhopknpadncdaaW.PrintWords Go.Proofs.YtkhopknpadncdaaW.PrintLast Go.Proofs.YtkhopknpadncdaaW.PrintMore
attribute [local go_sem] max2_int min2_int max_two min_two max_three min_three max_four min_four   -- for this text's walks alone
set_option linter.unusedVariables false
set_option linter.unusedSimpArgs false

def leatref18_Load.l0 : Nat → List (S45) → Int → List (S94) → Int → List (S26) → Int → Bool → Option ((List (S94)) × Int × (List (S26)) × Int × Bool × Int)
  | 0, _, _, _, _, _, _, _ => none
  | k + 1, x1, x7, x286000, x286001, x286002, x286003, x286004 => if x7 < (x1.length : Int) then (if 0 ≤ x7 then ((leatref18_made.f k x286000 x286001 x286002 x286003 x286004 ((rd_T45 x1 x7).f0) ((rd_T45 x1 x7).f1)).bind fun bt288 => (if bt288.2.2.2.2.2 = 0 then (leatref18_Load.l0 k x1 (wrap64 (x7 + 1)) bt288.1 bt288.2.1 bt288.2.2.1 bt288.2.2.2.1 bt288.2.2.2.2.1) else (some (([] : List (S94)), 0, ([] : List (S26)), 0, false, bt288.2.2.2.2.2)))) else (none)) else (some (x286000, x286001, x286002, x286003, x286004, 0))
def leatref18_Load.f (k : Nat) (a0 : Int) (l1 : List (S45)) : Option ((List (S94)) × Int × (List (S26)) × Int × Bool × Int) := (leatref18_New.f a0).bind fun bt276 => (leatref18_Load.l0 k l1 0 bt276.1 bt276.2.1 bt276.2.2.1 bt276.2.2.2.1 bt276.2.2.2.2)
theorem leatref18_Load.mono_l : ∀ k, (∀ y0 y1 y2 y3 y4 y5 y6, LeO (leatref18_Load.l0 k y0 y1 y2 y3 y4 y5 y6) (leatref18_Load.l0 (k + 1) y0 y1 y2 y3 y4 y5 y6))
  | 0 => fun _ _ _ _ _ _ _ r h => by simp [leatref18_Load.l0] at h
  | k + 1 => by
    have ih0 := leatref18_Load.mono_l k
    · intro y0 y1 y2 y3 y4 y5 y6
      unfold leatref18_Load.l0
      repeat' first
      | (with_reducible exact ih0 _ _ _ _ _ _ _)
      | (with_reducible exact leatref18_made.mono _ _ _ _ _ _ _ _)
      | (with_reducible exact LeO.refl _)
      | (with_reducible exact LeO.none _)
      | (with_reducible refine LeO.ite ?_ ?_)
      | (with_reducible refine LeO.bind ?_ (fun _ => ?_))
      | exact ih0 _ _ _ _ _ _ _
      | exact leatref18_made.mono _ _ _ _ _ _ _ _
      | exact LeO.none _
      | refine LeO.ite ?_ ?_
      | refine LeO.bind ?_ (fun _ => ?_)
theorem leatref18_Load.mono : ∀ a0 a1 k, LeO (leatref18_Load.f k a0 a1) (leatref18_Load.f (k + 1) a0 a1) := by
  intro a0 a1 k
  have ih0 := leatref18_Load.mono_l k
  unfold leatref18_Load.f
  repeat' first
      | (with_reducible exact ih0 _ _ _ _ _ _ _)
      | (with_reducible exact leatref18_made.mono _ _ _ _ _ _ _ _)
      | (with_reducible exact LeO.refl _)
      | (with_reducible exact LeO.none _)
      | (with_reducible refine LeO.ite ?_ ?_)
      | (with_reducible refine LeO.bind ?_ (fun _ => ?_))
      | exact ih0 _ _ _ _ _ _ _
      | exact leatref18_made.mono _ _ _ _ _ _ _ _
      | exact LeO.none _
      | refine LeO.ite ?_ ?_
      | refine LeO.bind ?_ (fun _ => ?_)
def leatref18_Load.T5 : Bool × List (List Nat × List Nat) := (true, [([], []), ([], []), ([], []), ([1, 2], [1, 2]), ([3], [3]), ([4], [4]), ([], []), ([], []), ([6, 7], [6, 7]), ([8], [8]), ([9], [9]), ([0, 5, 10], [0, 5, 10]), ([11], [11]), ([12], [12]), ([12], [12]), ([], []), ([15, 13, 11, 0, 1, 2, 3, 4, 5, 6, 7, 8, 9, 10, 11, 12, 13, 15], [13, 15]), ([14, 16, 0, 1, 2, 3, 4, 5, 6, 7, 8, 9, 10, 11, 12, 13, 14, 15, 16], [14])])
def leatref18_Load.B5 : List Nat := [0, 0, 0, 6, 14, 30, 0, 0, 192, 448, 960, 2047, 4095, 8191, 8191, 0, 49151, 131071]
theorem leatref18_Load.tab5 : rtab .any (opsOf Try.f14 5) = leatref18_Load.T5 := by kernel_rfl
theorem leatref18_Load.bits5 : waitsOk leatref18_Load.T5.2 leatref18_Load.B5 = true := by kernel_rfl
set_option maxHeartbeats 8000000 in
set_option maxRecDepth 100000 in
theorem leatref18_Load.calls (k : Nat) (a0 : Int) (A1 : Option Addr) (c1 : Nat) (l1 : List (S45)) (r1 : List (S94)) (r2 : Int) (r3 : List (S26)) (r4 : Int) (r5 : Bool) (r6 : Int) (w : World) (hr1 : Kd.C k45 w A1 l1.length l1) (hc1 : l1.length ≤ c1) (h : leatref18_Load.f k a0 l1 = some (r1, r2, r3, r4, r5, r6)) :
    Calls Try.prog 14 #[.int .i64 a0, .slice A1 l1.length c1] w fun e w' => ∃ v0_ v2_ : Value, e = .returned (.tuple #[.agg #[v0_, .int .i64 r2, v2_, .int .i64 r4, .bool r5], .int .i64 r6]) ∧ Kd.V k94 94 w' w.heap.size (fun k_ => (w.heap.size ≤ k_) ∧ some k_ ≠ (v2_ : Value).ownBlock) v0_ r1 ∧ Kd.R k26 26 w' w.heap.size (fun k_ => (w.heap.size ≤ k_)) v2_ r3 ∧ Below w.heap.size w w' := by
  have hu40 := Try.underlying40
  have HR1 := Aside0.mk hr1
  have HC1 := Aside0.mk hc1
  clear hr1 hc1
  have HB := Aside0.mk (Below.refl w.heap.size w)
  have H : ((leatref18_New.f a0).bind fun bt276 => (leatref18_Load.l0 k l1 0 bt276.1 bt276.2.1 bt276.2.2.1 bt276.2.2.2.1 bt276.2.2.2.2)) = some (r1, r2, r3, r4, r5, r6) := h
  clear h
  replace H := Option.bind_eq_some_iff.mp H
  obtain ⟨⟨t276, t279, t280, t283, t284⟩, A30, H⟩ := H
  replace H : (leatref18_Load.l0 k l1 0 t276 t279 t280 t283 t284) = some (r1, r2, r3, r4, r5, r6) := H
  have A3 := Aside0.mk A30
  clear A30
  have H' := Aside0.mk H
  clear H
  go_enter Try.func14, Try.ntmps14
  go_wp2_with (first | ((with_reducible refine gate_dst (N := 4) rfl ?_); refine box_event ?hg (N := 4) ?hd (cs := #[.slice none 0 0, .int .i64 0, .slice none 0 0, .int .i64 0, .bool false]) (t := 40) ?hr ?_; (case hd => rfl); (case hg => rfl); (case hr => first | (go_simp; done) | (go_simp; rfl)); intro gb275 hg w4 hbox hb; have n0_ := Aside0.mk (below_step (by repeat (first | (with_reducible first | exact HB.out | apply below_alloc | apply pw_below_drewN | apply below_drew1) | exact HB.out)) hb); have n1_ := Aside0.mk (hbox); have n2_ := Aside0.mk ((by rw [hg]; exact (below_size (by repeat (first | (with_reducible first | exact HB.out | apply below_alloc | apply pw_below_drewN | apply below_drew1) | exact HB.out))) : w.heap.size ≤ gb275)); have n3_ := Aside0.mk ((by rw [hg]; exact (below_size (by repeat (first | (with_reducible first | exact HB.out | apply below_alloc | apply pw_below_drewN | apply below_drew1) | exact HB.out))) : w.heap.size ≤ gb275)); clear HB; have HB := n0_; have BK275 := n1_; have GW275 := n2_; have GE275 := n3_; clear n0_ n1_ n2_ n3_; clear hb hbox hg) | ((with_reducible refine gate_callee (f := 48) rfl ?_); refine goesL_ (some 11) rfl rfl Try.func48 (by kernel_rfl) rfl #[.int .i64 a0] rfl (by (try simp only [List.map_toArray, List.map_cons, List.map_nil]); first | done | rfl | (simp only [List.length_drop, List.length_take]; rfl)) ?_; (with_reducible refine (leatref18_New.calls a0 t276 t279 t280 t283 t284 _ A3.out).mono ?_); rintro e w5 ⟨v277, v281, rfl, ho0, ho1, hb⟩; refine ⟨_, rfl, ?_⟩; have n0_ := Aside0.mk (Kd.S_lower (Kd.S_newM (M := fun k_ => (w.heap.size ≤ k_)) ho0 (below_size (by repeat (first | (with_reducible first | exact HB.out | apply below_alloc | apply pw_below_drewN | apply below_drew1 | refine below_set ?_ GE275.out) | exact HB.out))) (fun k_ h_ => h_)) (below_size (by repeat (first | (with_reducible first | exact HB.out | apply below_alloc | apply pw_below_drewN | apply below_drew1 | refine below_set ?_ GE275.out) | exact HB.out)))); have n1_ := Aside0.mk (Kd.R_lower (Kd.R_newM (M := fun k_ => (w.heap.size ≤ k_)) ho1 (below_size (by repeat (first | (with_reducible first | exact HB.out | apply below_alloc | apply pw_below_drewN | apply below_drew1 | refine below_set ?_ GE275.out) | exact HB.out))) (fun k_ h_ => h_)) (below_size (by repeat (first | (with_reducible first | exact HB.out | apply below_alloc | apply pw_below_drewN | apply below_drew1 | refine below_set ?_ GE275.out) | exact HB.out)))); have n2_ := Aside0.mk (blk_below (g := gb275) (o := .cells #[.slice none 0 0, .int .i64 0, .slice none 0 0, .int .i64 0, .bool false] 40 (0, 0)) (by (with_reducible repeat (first | refine blk_drewN ?_ _ | refine blk_drew ?_ | refine blk_alloc ?_ _)); exact BK275.out) hb); have n3_ := Aside0.mk (below_step (by repeat (first | (with_reducible first | exact HB.out | apply below_alloc | apply pw_below_drewN | apply below_drew1 | refine below_set ?_ GE275.out) | exact HB.out)) hb); clear BK275; clear HB; have HO278 := n0_; have HO282 := n1_; have BK275 := n2_; have HB := n3_; clear n0_ n1_ n2_ n3_; (try clear hb); (try clear hb2); (try clear hk); (try clear hi); (try clear ho0); (try clear ho1)) | ((with_reducible refine gate_dst (N := 6) rfl ?_); refine box_event ?hg (N := 6) ?hd (cs := #[.slice none 0 0, .int .i64 0, .slice none 0 0, .int .i64 0, .bool false]) (t := 40) ?hr ?_; (case hd => rfl); (case hg => rfl); (case hr => first | (go_simp; done) | (go_simp; rfl)); intro gb285 hg w6 hbox hb; have n0_ := Aside0.mk (Kd.S_below (by (with_reducible repeat (first | apply Kd.S_alloc | apply Kd.S_drewN | apply Kd.S_drew)); exact HO278.out) hb); have n1_ := Aside0.mk (Kd.R_below (by (with_reducible repeat (first | apply Kd.R_alloc | apply Kd.R_drewN | apply Kd.R_drew)); exact HO282.out) hb); have n2_ := Aside0.mk (blk_below (g := gb275) (o := .cells #[.slice none 0 0, .int .i64 0, .slice none 0 0, .int .i64 0, .bool false] 40 (0, 0)) (by (with_reducible repeat (first | refine blk_drewN ?_ _ | refine blk_drew ?_ | refine blk_alloc ?_ _)); exact BK275.out) hb); have n3_ := Aside0.mk (below_step (by repeat (first | (with_reducible first | exact HB.out | apply below_alloc | apply pw_below_drewN | apply below_drew1 | refine below_set ?_ GE275.out) | exact HB.out)) hb); have n4_ := Aside0.mk (hbox); have n5_ := Aside0.mk ((by rw [hg]; exact (below_size (by repeat (first | (with_reducible first | exact HB.out | apply below_alloc | apply pw_below_drewN | apply below_drew1 | refine below_set ?_ GE275.out) | exact HB.out))) : w.heap.size ≤ gb285)); have n6_ := Aside0.mk ((by rw [hg]; exact (below_size (by repeat (first | (with_reducible first | exact HB.out | apply below_alloc | apply pw_below_drewN | apply below_drew1 | refine below_set ?_ GE275.out) | exact HB.out))) : w.heap.size ≤ gb285)); have n7_ := Aside0.mk ((by rw [hg]; exact Nat.ne_of_lt (blk_lt (g := gb275) (o := .cells #[.slice none 0 0, .int .i64 0, .slice none 0 0, .int .i64 0, .bool false] 40 (0, 0)) (by (with_reducible repeat (first | refine blk_drewN ?_ _ | refine blk_drew ?_ | refine blk_alloc ?_ _)); exact BK275.out)) : gb275 ≠ gb285)); have n8_ := Aside0.mk ((by rw [hg]; exact Nat.ne_of_gt (blk_lt (g := gb275) (o := .cells #[.slice none 0 0, .int .i64 0, .slice none 0 0, .int .i64 0, .bool false] 40 (0, 0)) (by (with_reducible repeat (first | refine blk_drewN ?_ _ | refine blk_drew ?_ | refine blk_alloc ?_ _)); exact BK275.out)) : gb285 ≠ gb275)); clear HO278; clear HO282; clear BK275; clear HB; have HO278 := n0_; have HO282 := n1_; have BK275 := n2_; have HB := n3_; have BK285 := n4_; have GW285 := n5_; have GE285 := n6_; have NB275_285 := n7_; have NB285_275 := n8_; clear n0_ n1_ n2_ n3_ n4_ n5_ n6_ n7_ n8_; clear hb hbox hg; obtain ⟨Ao7, co7, eo7⟩ := Kd.S_slice HO278.out; subst eo7; have hnb8 := NB285_275.out; have hnc8 := NB275_285.out; have hcz9_0 : w6.cell? ⟨gb285, 0, none⟩ = some (.slice none 0 0) := (blk_cell BK285.out 0).trans rfl; have hcz9_1 : w6.cell? ⟨gb285, 1, none⟩ = some (.int .i64 0) := (blk_cell BK285.out 1).trans rfl; have hcz9_2 : w6.cell? ⟨gb285, 2, none⟩ = some (.slice none 0 0) := (blk_cell BK285.out 2).trans rfl; have hcz9_3 : w6.cell? ⟨gb285, 3, none⟩ = some (.int .i64 0) := (blk_cell BK285.out 3).trans rfl; have hcz9_4 : w6.cell? ⟨gb285, 4, none⟩ = some (.bool false) := (blk_cell BK285.out 4).trans rfl; have hfz9_0 := blk_frozen BK285.out 0; have hfz9_1 := blk_frozen BK285.out 1; have hfz9_2 := blk_frozen BK285.out 2; have hfz9_3 := blk_frozen BK285.out 3; have hfz9_4 := blk_frozen BK285.out 4; obtain ⟨Ao10, co10, eo10⟩ := Kd.R_slice HO282.out; subst eo10))
  go_loopg [7] k (fun kq v7 w' => ∃ (x7_1 : Int) (x276001_1 : Int) (x276003_1 : Int) (x276004_1 : Bool) (x286000_1 : List (S94)) (x286001_1 : Int) (x286002_1 : List (S26)) (x286003_1 : Int) (x286004_1 : Bool) (u286000 : Value) (u286002 : Value), v7 = .int .i64 x7_1 ∧ Aside0 (leatref18_Load.l0 kq l1 x7_1 x286000_1 x286001_1 x286002_1 x286003_1 x286004_1 = some (r1, r2, r3, r4, r5, r6)) ∧ Aside0 (kq ≤ k) ∧ Aside0 (Kd.V k94 94 w' w.heap.size (fun k_ => (w.heap.size ≤ k_) ∧ some k_ ≠ (u286002 : Value).ownBlock ∧ k_ ≠ gb275 ∧ k_ ≠ gb285) u286000 x286000_1) ∧ Aside0 (Kd.R k26 26 w' w.heap.size (fun k_ => (w.heap.size ≤ k_)) u286002 x286002_1) ∧ Aside0 (w'.heap[gb275]? = some (.cells #[(.slice none 0 0), .int .i64 x276001_1, (.slice none 0 0), .int .i64 x276003_1, .bool x276004_1] 40 (0, 0))) ∧ Aside0 (w'.heap[gb285]? = some (.cells #[u286000, .int .i64 x286001_1, u286002, .int .i64 x286003_1, .bool x286004_1] 40 (0, 0))) ∧ Aside0 (Below w.heap.size w w'))
  case atStart => exact ⟨(0), (0), (0), (false), (t276), (t279), (t280), (t283), (t284), (.slice Ao7 t276.length co7), (.slice Ao10 t280.length co10), (by first | rfl | (simp; done) | (simp [*]; done)), H', ⟨Nat.le_refl _⟩, ⟨Kd.S_V (by (with_reducible repeat (first | apply Kd.S_alloc | apply Kd.S_drewN | apply Kd.S_drew)); exact Kd.S_mono (Kd.S_far (p := ⟨gb285, 4, none⟩) (Kd.S_far (p := ⟨gb285, 3, none⟩) (Kd.S_far (p := ⟨gb285, 2, none⟩) (Kd.S_far (p := ⟨gb285, 1, none⟩) (Kd.S_far (p := ⟨gb285, 0, none⟩) (Kd.S_types (Kd.S_types (Kd.S_types (Kd.S_apart' HO278.out (Kd.R_typed HO282.out) (by decide)) BK275.out (by decide)) BK285.out (by decide)) BK285.out (by decide)) (fun _ hk => hk.2) (.slice Ao7 t276.length co7)) (fun _ hk => hk.2) (.int .i64 t279)) (fun _ hk => hk.2) (.slice Ao10 t280.length co10)) (fun _ hk => hk.2) (.int .i64 t283)) (fun _ hk => hk.2) (.bool t284)) (fun _ hk => ⟨hk.1.1.1.1.1, ⟨hk.1.1.1.2, ⟨hk.1.1.2, hk.1.2⟩⟩⟩))⟩, ⟨by (with_reducible repeat (first | apply Kd.R_alloc | apply Kd.R_drewN | apply Kd.R_drew)); exact Kd.R_mono (Kd.R_far (p := ⟨gb285, 4, none⟩) (Kd.R_far (p := ⟨gb285, 3, none⟩) (Kd.R_far (p := ⟨gb285, 2, none⟩) (Kd.R_far (p := ⟨gb285, 1, none⟩) (Kd.R_far (p := ⟨gb285, 0, none⟩) (Kd.R_types HO282.out BK285.out (by decide)) (fun _ hk => hk.2) (.slice Ao7 t276.length co7)) (fun _ hk => hk.2) (.int .i64 t279)) (fun _ hk => hk.2) (.slice Ao10 t280.length co10)) (fun _ hk => hk.2) (.int .i64 t283)) (fun _ hk => hk.2) (.bool t284)) (fun _ hk => hk.1.1)⟩, ⟨by (with_reducible repeat (first | refine blk_drewN ?_ _ | refine blk_drew ?_ | refine blk_alloc ?_ _)); refine blk_far ?_ NB275_285.out _; (with_reducible repeat (first | refine blk_drewN ?_ _ | refine blk_drew ?_ | refine blk_alloc ?_ _)); refine blk_far ?_ NB275_285.out _; (with_reducible repeat (first | refine blk_drewN ?_ _ | refine blk_drew ?_ | refine blk_alloc ?_ _)); refine blk_far ?_ NB275_285.out _; (with_reducible repeat (first | refine blk_drewN ?_ _ | refine blk_drew ?_ | refine blk_alloc ?_ _)); refine blk_far ?_ NB275_285.out _; (with_reducible repeat (first | refine blk_drewN ?_ _ | refine blk_drew ?_ | refine blk_alloc ?_ _)); refine blk_far ?_ NB275_285.out _; (with_reducible repeat (first | refine blk_drewN ?_ _ | refine blk_drew ?_ | refine blk_alloc ?_ _)); exact BK275.out⟩, ⟨by (with_reducible repeat (first | refine blk_drewN ?_ _ | refine blk_drew ?_ | refine blk_alloc ?_ _)); refine blk_put (cs := #[.slice Ao7 t276.length co7, .int .i64 t279, .slice Ao10 t280.length co10, .int .i64 t283, .bool false]) ?_ 4 _ rfl; (with_reducible repeat (first | refine blk_drewN ?_ _ | refine blk_drew ?_ | refine blk_alloc ?_ _)); refine blk_put (cs := #[.slice Ao7 t276.length co7, .int .i64 t279, .slice Ao10 t280.length co10, .int .i64 0, .bool false]) ?_ 3 _ rfl; (with_reducible repeat (first | refine blk_drewN ?_ _ | refine blk_drew ?_ | refine blk_alloc ?_ _)); refine blk_put (cs := #[.slice Ao7 t276.length co7, .int .i64 t279, .slice none 0 0, .int .i64 0, .bool false]) ?_ 2 _ rfl; (with_reducible repeat (first | refine blk_drewN ?_ _ | refine blk_drew ?_ | refine blk_alloc ?_ _)); refine blk_put (cs := #[.slice Ao7 t276.length co7, .int .i64 0, .slice none 0 0, .int .i64 0, .bool false]) ?_ 1 _ rfl; (with_reducible repeat (first | refine blk_drewN ?_ _ | refine blk_drew ?_ | refine blk_alloc ?_ _)); refine blk_put (cs := #[.slice none 0 0, .int .i64 0, .slice none 0 0, .int .i64 0, .bool false]) ?_ 0 _ rfl; (with_reducible repeat (first | refine blk_drewN ?_ _ | refine blk_drew ?_ | refine blk_alloc ?_ _)); exact BK285.out⟩, ⟨by repeat (first | (with_reducible first | exact HB.out | apply below_alloc | apply pw_below_drewN | apply below_drew1 | refine below_set ?_ GE275.out | refine below_set ?_ GE285.out) | exact HB.out)⟩⟩
  case round =>
    clear H'
    try clear c1
    try clear p2
    try clear c4
    try clear c8
    try clear hcz9_0
    try clear hcz9_1
    try clear hcz9_2
    try clear hcz9_3
    try clear hcz9_4
    try clear hfz9_0
    try clear hfz9_1
    try clear hfz9_2
    try clear hfz9_3
    try clear hfz9_4
    obtain ⟨x7_1, x276001_1, x276003_1, x276004_1, x286000_1, x286001_1, x286002_1, x286003_1, x286004_1, u286000, u286002, rfl, HA, HK1, HO_286000, HO_286002, BK275, BK285, HB⟩ := hrel
    cases gk with
    | zero => exact absurd HA.out (by simp [leatref18_Load.l0])
    | succ k1 =>
      have H := HA.out
      clear HA
      simp only [leatref18_Load.l0] at H
      by_cases c11 : x7_1 < (l1.length : Int)
      · rw [if_pos c11] at H
        have c11b0 : decide (x7_1 < (l1.length : Int)) = true := decide_eq_true c11
        clear c11
        by_cases c12 : 0 ≤ x7_1
        · rw [if_pos c12] at H
          have c12b0 : decide (0 ≤ x7_1) = true := decide_eq_true c12
          clear c12
          replace H := Option.bind_eq_some_iff.mp H
          obtain ⟨⟨t288, t291, t292, t295, t296, t297⟩, A130, H⟩ := H
          replace H : (if t297 = 0 then (leatref18_Load.l0 k1 l1 (wrap64 (x7_1 + 1)) t288 t291 t292 t295 t296) else (some (([] : List (S94)), 0, ([] : List (S26)), 0, false, t297))) = some (r1, r2, r3, r4, r5, r6) := H
          have A13 := Aside0.mk A130
          clear A130
          by_cases c14 : t297 = 0
          · rw [if_pos c14] at H
            have c14b0 : (t297 == 0) = true := beq_iff_eq.mpr c14
            have c14b1 : (t297 != 0) = false := bne_eq_false_iff_eq.mpr c14
            clear c14
            have H' := Aside0.mk H
            clear H
            obtain ⟨Ao15, co15, eo15⟩ := Kd.V_slice HO_286000.out
            subst eo15
            obtain ⟨Ao16, co16, eo16⟩ := Kd.R_slice HO_286002.out
            subst eo16
            try go_wp2
            have n0_ := Aside0.mk (Kd.V_drew HO_286000.out)
            have n1_ := Aside0.mk (Kd.R_drew HO_286002.out)
            have n2_ := Aside0.mk (blk_drew BK275.out)
            have n3_ := Aside0.mk (blk_drew BK285.out)
            have n4_ := Aside0.mk (below_drew1 HB.out)
            clear HO_286000
            clear HO_286002
            clear BK275
            clear BK285
            clear HB
            have HO_286000 := n0_
            have HO_286002 := n1_
            have BK275 := n2_
            have BK285 := n3_
            have HB := n4_
            clear n0_ n1_ n2_ n3_ n4_
            have p286 : 0 ≤ (x7_1 : Int) := of_decide_eq_true (by first | (with_reducible assumption) | assumption)
            have q286 : x7_1 < (l1.length : Int) := of_decide_eq_true (by first | (with_reducible assumption) | assumption)
            obtain ⟨ad286, A286_1, c286_1, e286, hx286_0, hx286_1, hl286_1, hi286_1⟩ := at_T45 HR1.out x7_1 p286 q286
            have hw286_1 := hx286_1
            have hw286_0 := hx286_0
            cases e286
            replace hx286_0 := (HB.out.cell (World.block_lt_of_cell? w _ hx286_0)).trans hx286_0
            replace hx286_1 := (HB.out.cell (World.block_lt_of_cell? w _ hx286_1)).trans hx286_1
            have HR286_1 := Aside0.mk hi286_1
            have HC286_1 := Aside0.mk hl286_1
            clear hi286_1 hl286_1
            replace p286 := eq_true p286
            replace q286 := eq_true q286
            have p287 : 0 ≤ (x7_1 : Int) := of_decide_eq_true (by first | (with_reducible assumption) | assumption)
            have q287 : x7_1 < (l1.length : Int) := of_decide_eq_true (by first | (with_reducible assumption) | assumption)
            obtain ⟨ad287, A287_1, c287_1, e287, hx287_0, hx287_1, hl287_1, hi287_1⟩ := at_T45 HR1.out x7_1 p287 q287
            have hw287_1 := hx287_1
            have hw287_0 := hx287_0
            obtain rfl : ad286 = ad287 := (by injection e287)
            replace hx287_0 := (HB.out.cell (World.block_lt_of_cell? w _ hx287_0)).trans hx287_0
            replace hx287_1 := (HB.out.cell (World.block_lt_of_cell? w _ hx287_1)).trans hx287_1
            have HR287_1 := Aside0.mk hi287_1
            have HC287_1 := Aside0.mk hl287_1
            clear hi287_1 hl287_1
            replace p287 := eq_true p287
            replace q287 := eq_true q287
            have ea_ := Option.some.inj (hx286_1.symm.trans hx287_1)
            injection ea_ with ea_ en_ ec_
            subst ea_
            subst ec_
            clear en_
            refine start_ (n := 18) (S := fun w' => w'.cell? ⟨gb285, 0, none⟩ = some (.slice Ao15 x286000_1.length co15) ∧ w'.cell? ⟨gb285, 1, none⟩ = some (.int .i64 x286001_1) ∧ w'.cell? ⟨gb285, 2, none⟩ = some (.slice Ao16 x286002_1.length co16) ∧ w'.cell? ⟨gb285, 3, none⟩ = some (.int .i64 x286003_1) ∧ w'.cell? ⟨gb285, 4, none⟩ = some (.bool x286004_1) ∧ w'.cell? (ad286.add ((x7_1).toNat * 2)) = some (.string ((rd_T45 l1 x7_1).f0)) ∧ w'.cell? ⟨(ad286.add ((x7_1).toNat * 2)).block, (ad286.add ((x7_1).toNat * 2)).off + 1, none⟩ = some (.slice A286_1 ((rd_T45 l1 x7_1).f1).length c286_1) ∧ w'.cell? (ad286.add ((x7_1).toNat * 2)) = some (.string ((rd_T45 l1 x7_1).f0)) ∧ w'.cell? ⟨(ad286.add ((x7_1).toNat * 2)).block, (ad286.add ((x7_1).toNat * 2)).off + 1, none⟩ = some (.slice A286_1 ((rd_T45 l1 x7_1).f1).length c286_1)) (ds := []) #[false, false, false, false, false, false, false, false, false, false, false, false, false, false, false, false, false, false] (by kernel_rfl) rfl rfl ⟨(blk_cell BK285.out 0).trans rfl, (blk_cell BK285.out 1).trans rfl, (blk_cell BK285.out 2).trans rfl, (blk_cell BK285.out 3).trans rfl, (blk_cell BK285.out 4).trans rfl, ((HB.out.cell (World.block_lt_of_cell? w _ hw286_0)).trans hw286_0), ((HB.out.cell (World.block_lt_of_cell? w _ hw286_1)).trans hw286_1), ((HB.out.cell (World.block_lt_of_cell? w _ hw287_0)).trans hw287_0), ((HB.out.cell (World.block_lt_of_cell? w _ hw287_1)).trans hw287_1)⟩ (fun hHeld => ?_); refine with_tabW leatref18_Load.tab5 leatref18_Load.bits5 (fun HT_ HW_ => ?_)
            generalize wr.drew = w17 at HO_286000 HO_286002 BK275 BK285 HB HR286_1 HR287_1 hx286_0 hx286_1 hx287_0 hx287_1 hHeld ⊢
            refine pure_ (i := 1) (N := some 20) (v := ?_) (a' := ?_) #[false, true, false, false, false, false, false, false, false, false, false, false, false, false, false, false, false, false] rfl rfl (any_of HT_.out (by kernel_rfl)) (fun _ _ _ h => h) (Or.inl ⟨by rfl, ?_⟩) ?_ ?_
            rotate_left
            · intro w'
              go_simp
              with_reducible rfl
            rotate_left
            · simp only [Act.put, List.setIfInBounds_toArray, List.set_cons_zero, List.set_cons_succ, i64_w, i32_w]
              rfl
            refine pure_ (i := 2) (N := some 21) (v := ?_) (a' := ?_) #[false, true, true, false, false, false, false, false, false, false, false, false, false, false, false, false, false, false] rfl rfl (any_of HT_.out (by kernel_rfl)) (fun _ _ _ h => h) (Or.inl ⟨by rfl, ?_⟩) ?_ ?_
            rotate_left
            · intro w'
              go_simp
              with_reducible rfl
            rotate_left
            · simp only [Act.put, List.setIfInBounds_toArray, List.set_cons_zero, List.set_cons_succ, i64_w, i32_w]
              rfl
            refine pure_ (i := 3) (N := some 22) (v := ?_) (a' := ?_) #[false, true, true, true, false, false, false, false, false, false, false, false, false, false, false, false, false, false] rfl rfl (any_of HT_.out (by kernel_rfl)) (fun _ _ _ h => h) (Or.inl ⟨by rfl, ?_⟩) ?_ ?_
            rotate_left
            · intro w'
              go_simp
              with_reducible rfl
            rotate_left
            · simp only [Act.put, List.setIfInBounds_toArray, List.set_cons_zero, List.set_cons_succ, i64_w, i32_w]
              rfl
            refine pure_ (i := 4) (N := some 23) (v := ?_) (a' := ?_) #[false, true, true, true, true, false, false, false, false, false, false, false, false, false, false, false, false, false] rfl rfl (any_of HT_.out (by kernel_rfl)) (fun _ _ _ h => h) (Or.inl ⟨by rfl, ?_⟩) ?_ ?_
            rotate_left
            · intro w'
              go_simp
              with_reducible rfl
            rotate_left
            · simp only [Act.put, List.setIfInBounds_toArray, List.set_cons_zero, List.set_cons_succ, i64_w, i32_w]
              rfl
            refine pure_ (i := 6) (N := some 25) (v := ?_) (a' := ?_) #[false, true, true, true, true, false, true, false, false, false, false, false, false, false, false, false, false, false] rfl rfl (any_of HT_.out (by kernel_rfl)) (fun _ _ _ h => h) (Or.inl ⟨by rfl, ?_⟩) ?_ ?_
            rotate_left
            · intro w'
              go_simp
              with_reducible rfl
            rotate_left
            · simp only [Act.put, List.setIfInBounds_toArray, List.set_cons_zero, List.set_cons_succ, i64_w, i32_w]
              rfl
            refine pure_ (i := 7) (N := some 26) (v := ?_) (a' := ?_) #[false, true, true, true, true, false, true, true, false, false, false, false, false, false, false, false, false, false] rfl rfl (any_of HT_.out (by kernel_rfl)) (fun _ _ _ h => h) (Or.inl ⟨by rfl, ?_⟩) ?_ ?_
            rotate_left
            · intro w'
              go_simp
              with_reducible rfl
            rotate_left
            · simp only [Act.put, List.setIfInBounds_toArray, List.set_cons_zero, List.set_cons_succ, i64_w, i32_w]
              rfl
            refine pure_ (i := 8) (N := some 27) (v := ?_) (a' := ?_) #[false, true, true, true, true, false, true, true, true, false, false, false, false, false, false, false, false, false] rfl rfl (any_of HT_.out (by kernel_rfl)) (fun _ _ _ h => h) (Or.inl ⟨by rfl, ?_⟩) ?_ ?_
            rotate_left
            · intro w'
              go_simp
              with_reducible rfl
            rotate_left
            · simp only [Act.put, List.setIfInBounds_toArray, List.set_cons_zero, List.set_cons_succ, i64_w, i32_w]
              rfl
            refine pure_ (i := 9) (N := some 28) (v := ?_) (a' := ?_) #[false, true, true, true, true, false, true, true, true, true, false, false, false, false, false, false, false, false] rfl rfl (any_of HT_.out (by kernel_rfl)) (fun _ _ _ h => h) (Or.inl ⟨by rfl, ?_⟩) ?_ ?_
            rotate_left
            · intro w'
              go_simp
              with_reducible rfl
            rotate_left
            · simp only [Act.put, List.setIfInBounds_toArray, List.set_cons_zero, List.set_cons_succ, i64_w, i32_w]
              rfl
            refine take_ (i := 0) (N := some 19) (v := ?_) (a' := ?_) #[true, true, true, true, true, false, true, true, true, true, false, false, false, false, false, false, false, false] rfl rfl (take_ofW HT_.out HW_.out (by kernel_rfl)) (fun _ _ _ h => h) (Or.inl ⟨by rfl, ?_⟩) hHeld ?_ ?_
            rotate_left
            · rintro w' ⟨s0, s1, s2, s3, s4, s5, s6, s7, s8⟩
              go_simp
              with_reducible rfl
            rotate_left
            · simp only [Act.put, List.setIfInBounds_toArray, List.set_cons_zero, List.set_cons_succ, i64_w, i32_w]
              rfl
            refine take_ (i := 5) (N := some 24) (v := ?_) (a' := ?_) #[true, true, true, true, true, true, true, true, true, true, false, false, false, false, false, false, false, false] rfl rfl (take_ofW HT_.out HW_.out (by kernel_rfl)) (fun _ _ _ h => h) (Or.inl ⟨by rfl, ?_⟩) hHeld ?_ ?_
            rotate_left
            · rintro w' ⟨s0, s1, s2, s3, s4, s5, s6, s7, s8⟩
              go_simp
              with_reducible rfl
            rotate_left
            · simp only [Act.put, List.setIfInBounds_toArray, List.set_cons_zero, List.set_cons_succ, i64_w, i32_w]
              rfl
            refine take_ (i := 10) (N := some 29) (v := ?_) (a' := ?_) #[true, true, true, true, true, true, true, true, true, true, true, false, false, false, false, false, false, false] rfl rfl (take_ofW HT_.out HW_.out (by kernel_rfl)) (fun _ _ _ h => h) (Or.inl ⟨by rfl, ?_⟩) hHeld ?_ ?_
            rotate_left
            · rintro w' ⟨s0, s1, s2, s3, s4, s5, s6, s7, s8⟩
              go_simp
              with_reducible rfl
            rotate_left
            · simp only [Act.put, List.setIfInBounds_toArray, List.set_cons_zero, List.set_cons_succ, i64_w, i32_w]
              rfl
            refine join_ (σ := Value × Value × Nat) 2 #[true, true, true, true, true, true, true, true, true, true, true, true, true, true, true, true, false, false] (fun s_ => [(30, .tuple #[.agg #[s_.1, .int .i64 t291, s_.2.1, .int .i64 t295, .bool t296], .int .i64 t297]), (8, .pointer (some ⟨s_.2.2, 0, none⟩)), (18, .tuple #[.agg #[s_.1, .int .i64 t291, s_.2.1, .int .i64 t295, .bool t296], .int .i64 t297]), (31, .agg #[s_.1, .int .i64 t291, s_.2.1, .int .i64 t295, .bool t296]), (32, .int .i64 t297)]) (fun s_ w' => (w'.cell? ⟨gb285, 0, none⟩ = some (.slice Ao15 x286000_1.length co15) ∧ w'.cell? ⟨gb285, 1, none⟩ = some (.int .i64 x286001_1) ∧ w'.cell? ⟨gb285, 2, none⟩ = some (.slice Ao16 x286002_1.length co16) ∧ w'.cell? ⟨gb285, 3, none⟩ = some (.int .i64 x286003_1) ∧ w'.cell? ⟨gb285, 4, none⟩ = some (.bool x286004_1) ∧ w'.cell? (ad286.add ((x7_1).toNat * 2)) = some (.string ((rd_T45 l1 x7_1).f0)) ∧ w'.cell? ⟨(ad286.add ((x7_1).toNat * 2)).block, (ad286.add ((x7_1).toNat * 2)).off + 1, none⟩ = some (.slice A286_1 ((rd_T45 l1 x7_1).f1).length c286_1) ∧ w'.cell? (ad286.add ((x7_1).toNat * 2)) = some (.string ((rd_T45 l1 x7_1).f0)) ∧ w'.cell? ⟨(ad286.add ((x7_1).toNat * 2)).block, (ad286.add ((x7_1).toNat * 2)).off + 1, none⟩ = some (.slice A286_1 ((rd_T45 l1 x7_1).f1).length c286_1)) ∧ (Kd.V k94 94 w' w.heap.size (fun k_ => (w.heap.size ≤ k_) ∧ some k_ ≠ (s_.2.1 : Value).ownBlock ∧ k_ ≠ gb275 ∧ k_ ≠ gb285 ∧ k_ ≠ s_.2.2) s_.1 t288) ∧ (Kd.R k26 26 w' w.heap.size (fun k_ => (w.heap.size ≤ k_)) s_.2.1 t292) ∧ (Kd.V k94 94 w' w.heap.size (fun k_ => (w.heap.size ≤ k_) ∧ some k_ ≠ (s_.2.1 : Value).ownBlock ∧ k_ ≠ gb275 ∧ k_ ≠ gb285 ∧ k_ ≠ s_.2.2) (.slice Ao15 x286000_1.length co15) x286000_1) ∧ (w'.heap[gb275]? = some (.cells #[.slice none 0 0, .int .i64 x276001_1, .slice none 0 0, .int .i64 x276003_1, .bool x276004_1] 40 (0, 0))) ∧ (w'.heap[gb285]? = some (.cells #[.slice Ao15 x286000_1.length co15, .int .i64 x286001_1, .slice Ao16 x286002_1.length co16, .int .i64 x286003_1, .bool x286004_1] 40 (0, 0))) ∧ (w'.heap[s_.2.2]? = some (.cells #[.slice none 0 0, .int .i64 0, .slice none 0 0, .int .i64 0, .bool false] 40 (0, 0))) ∧ (w.heap.size ≤ s_.2.2) ∧ (w.heap.size ≤ s_.2.2) ∧ (gb275 ≠ s_.2.2) ∧ (s_.2.2 ≠ gb275) ∧ (gb285 ≠ s_.2.2) ∧ (s_.2.2 ≠ gb285) ∧ (Below w.heap.size w w')) ?_ ?_
            rotate_left
            · intro hCont
              refine two_ (i := 11) (j := 15) (Ni := some 30) (Nj := some 8) #[true, true, true, true, true, true, true, true, true, true, true, true, false, false, false, false, false, false] #[true, true, true, true, true, true, true, true, true, true, true, false, false, false, false, true, false, false] rfl rfl rfl rfl (two_of HT_.out (by kernel_rfl)) (by decide) (by decide) (fun K hK => ?_) (fun K hK => ?_)
              · skip
                refine goes_ Try.func49 (by kernel_rfl) rfl #[.agg #[.slice Ao15 x286000_1.length co15, .int .i64 x286001_1, .slice Ao16 x286002_1.length co16, .int .i64 x286003_1, .bool x286004_1], .string ((rd_T45 l1 x7_1).f0), .slice A286_1 ((rd_T45 l1 x7_1).f1).length c286_1] (by rfl) rfl rfl (by (try simp only [List.map_toArray, List.map_cons, List.map_nil]); first | done | rfl | (simp only [List.length_drop, List.length_take]; rfl)) ?_
                with_reducible refine (leatref18_made.calls k1 (fun k_ => ((w.heap.size ≤ k_) ∧ (some k_ ≠ (.slice Ao16 x286002_1.length co16 : Value).ownBlock ∧ (k_ ≠ gb275 ∧ k_ ≠ gb285)))) _ _ x286000_1 x286001_1 (fun k_ => some k_ = (.slice Ao16 x286002_1.length co16 : Value).ownBlock) (.slice Ao16 x286002_1.length co16) x286002_1 x286003_1 x286004_1 ((rd_T45 l1 x7_1).f0) _ _ ((rd_T45 l1 x7_1).f1) t288 t291 t292 t295 t296 t297 w _ ?side1 ?side2 ?side3 ?side4 ?side5 A13.out).mono ?_
                (case side1 => repeat (first | (with_reducible first | exact HB.out | apply below_alloc | apply pw_below_drewN | apply below_drew1 | refine below_set ?_ GE275.out | refine below_set ?_ GE285.out) | exact HB.out))
                (case side2 => exact Kd.V_mono (HO_286000.out) (fun k_ hk_ => ⟨hk_, hk_.2.1⟩))
                (case side3 => exact Kd.R_tight rfl HO_286002.out)
                (case side4 => exact Kd.C_kept_came (Kd.heap_int .u8) HR287_1.out (by repeat (first | (with_reducible first | exact HB.out | apply below_alloc | apply pw_below_drewN | apply below_drew1 | refine below_set ?_ GE275.out | refine below_set ?_ GE285.out) | exact HB.out)) (fun k_ hs_ => (fun e_ => Kd.R_base HO_286002.out k_ e_.symm) hs_))
                (case side5 => exact HC287_1.out)
                rintro e w18 ⟨v289, v293, rfl, ho0, ho1, hb, hkp⟩
                refine ⟨_, rfl, ?_⟩
                have n0_ := Aside0.mk (Kd.V_mono (ok' := fun k_ => (w.heap.size ≤ k_) ∧ k_ ≠ gb275 ∧ k_ ≠ gb285 ∧ some k_ ≠ (v293 : Value).ownBlock) (Kd.V_keptB (HO_286000.out) hkp (fun k_ hk_ hs_ => (hk_.2.1) hs_)) (fun k_ hk_ => ⟨hk_.1.1, hk_.1.2.2.1, hk_.1.2.2.2, fun e_ => Or.elim (ho1.1 k_ e_.symm) (fun hs_ => hk_.2.1 hs_) (fun hn_ => Nat.not_le.2 hk_.2.2 hn_)⟩))
                have n1_ := Aside0.mk (blk_kept (by (with_reducible repeat (first | refine blk_drewN ?_ _ | refine blk_drew ?_ | refine blk_alloc ?_ _)); exact BK275.out) hkp (fun hs_ => (fun e_ => (Kd.R_ne HO_286002.out BK275.out (by decide)) e_) hs_))
                have n2_ := Aside0.mk (blk_kept (by (with_reducible repeat (first | refine blk_drewN ?_ _ | refine blk_drew ?_ | refine blk_alloc ?_ _)); exact BK285.out) hkp (fun hs_ => (fun e_ => (Kd.R_ne HO_286002.out BK285.out (by decide)) e_) hs_))
                have n3_ := Aside0.mk (Kd.V_mono (ok' := fun k_ => (w.heap.size ≤ k_) ∧ some k_ ≠ (v293 : Value).ownBlock ∧ k_ ≠ gb275 ∧ k_ ≠ gb285) ho0 (fun k_ hk_ => ⟨Or.elim hk_.1 (fun hs_ => Or.elim hs_ (fun hs_ => (HO_286002.out.1 k_ (hs_).symm)) (fun hs_ => hs_.1)) (fun hn_ => (Nat.le_trans (below_size (by repeat (first | (with_reducible first | exact HB.out | apply below_alloc | apply pw_below_drewN | apply below_drew1 | refine below_set ?_ GE275.out | refine below_set ?_ GE285.out) | exact HB.out))) hn_)), hk_.2, Or.elim hk_.1 (fun hs_ => Or.elim hs_ (fun hs_ => fun e_ => (Kd.R_ne HO_286002.out BK275.out (by decide)) (by rw [← e_]; exact hs_)) (fun hs_ => hs_.2.2.1)) (fun hn_ => (Kd.freshB (g := gb275) (o := .cells #[.slice none 0 0, .int .i64 x276001_1, .slice none 0 0, .int .i64 x276003_1, .bool x276004_1] 40 (0, 0)) (by (with_reducible repeat (first | refine blk_drewN ?_ _ | refine blk_drew ?_ | refine blk_alloc ?_ _)); exact BK275.out) k_ hn_)), Or.elim hk_.1 (fun hs_ => Or.elim hs_ (fun hs_ => fun e_ => (Kd.R_ne HO_286002.out BK285.out (by decide)) (by rw [← e_]; exact hs_)) (fun hs_ => hs_.2.2.2)) (fun hn_ => (Kd.freshB (g := gb285) (o := .cells #[.slice Ao15 x286000_1.length co15, .int .i64 x286001_1, .slice Ao16 x286002_1.length co16, .int .i64 x286003_1, .bool x286004_1] 40 (0, 0)) (by (with_reducible repeat (first | refine blk_drewN ?_ _ | refine blk_drew ?_ | refine blk_alloc ?_ _)); exact BK285.out) k_ hn_))⟩))
                have n4_ := Aside0.mk (Kd.R_mono (ok' := fun k_ => (w.heap.size ≤ k_)) ho1 (fun k_ hk_ => Or.elim hk_ (fun hs_ => (HO_286002.out.1 k_ (hs_).symm)) (fun hn_ => (Nat.le_trans (below_size (by repeat (first | (with_reducible first | exact HB.out | apply below_alloc | apply pw_below_drewN | apply below_drew1 | refine below_set ?_ GE275.out | refine below_set ?_ GE285.out) | exact HB.out))) hn_))))
                have n5_ := Aside0.mk (hb)
                clear HO_286000
                clear BK275
                clear BK285
                clear HB
                clear HO_286002
                have HO_286000 := n0_
                have BK275 := n1_
                have BK285 := n2_
                have HO290 := n3_
                have HO294 := n4_
                have HB := n5_
                clear n0_ n1_ n2_ n3_ n4_ n5_
                (try clear hb)
                (try clear hkp)
                (try clear ho0)
                (try clear ho1)
                refine hK.out _ _ ⟨(blk_cell BK285.out 0).trans rfl, (blk_cell BK285.out 1).trans rfl, (blk_cell BK285.out 2).trans rfl, (blk_cell BK285.out 3).trans rfl, (blk_cell BK285.out 4).trans rfl, ((HB.out.cell (World.block_lt_of_cell? w _ hw286_0)).trans hw286_0), ((HB.out.cell (World.block_lt_of_cell? w _ hw286_1)).trans hw286_1), ((HB.out.cell (World.block_lt_of_cell? w _ hw287_0)).trans hw287_0), ((HB.out.cell (World.block_lt_of_cell? w _ hw287_1)).trans hw287_1)⟩ (fun hHeld => ?_)
                clear hK K
                refine norm_ (a' := ?_) ?_ ?_
                rotate_left
                · show Act.put _ (some 30) _ = _
                  simp only [Act.put, List.setIfInBounds_toArray, List.set_cons_zero, List.set_cons_succ, i64_w, i32_w]
                  rfl
                refine pure_ (i := 12) (N := some 18) (v := ?_) (a' := ?_) #[true, true, true, true, true, true, true, true, true, true, true, true, true, false, false, false, false, false] rfl rfl (any_of HT_.out (by kernel_rfl)) (fun _ _ _ h => h) (Or.inl ⟨by rfl, ?_⟩) ?_ ?_
                rotate_left
                · intro w'
                  go_simp
                  with_reducible rfl
                rotate_left
                · simp only [Act.put, List.setIfInBounds_toArray, List.set_cons_zero, List.set_cons_succ, i64_w, i32_w]
                  rfl
                refine pure_ (i := 13) (N := some 31) (v := ?_) (a' := ?_) #[true, true, true, true, true, true, true, true, true, true, true, true, true, true, false, false, false, false] rfl rfl (any_of HT_.out (by kernel_rfl)) (fun _ _ _ h => h) (Or.inl ⟨by rfl, ?_⟩) ?_ ?_
                rotate_left
                · intro w'
                  go_simp
                  with_reducible rfl
                rotate_left
                · simp only [Act.put, List.setIfInBounds_toArray, List.set_cons_zero, List.set_cons_succ, i64_w, i32_w]
                  rfl
                refine pure_ (i := 14) (N := some 32) (v := ?_) (a' := ?_) #[true, true, true, true, true, true, true, true, true, true, true, true, true, true, true, false, false, false] rfl rfl (any_of HT_.out (by kernel_rfl)) (fun _ _ _ h => h) (Or.inl ⟨by rfl, ?_⟩) ?_ ?_
                rotate_left
                · intro w'
                  go_simp
                  with_reducible rfl
                rotate_left
                · simp only [Act.put, List.setIfInBounds_toArray, List.set_cons_zero, List.set_cons_succ, i64_w, i32_w]
                  rfl
                refine one_ (i := 15) (N := some 8) #[true, true, true, true, true, true, true, true, true, true, true, true, true, true, true, true, false, false] rfl rfl (one_of HT_.out (by kernel_rfl)) (by decide) (fun K hK => ?_)
                refine box_step ?hg (N := 8) ?hd (cs := #[.slice none 0 0, .int .i64 0, .slice none 0 0, .int .i64 0, .bool false]) (t := 40) ?hr ?_; (case hd => rfl); (case hg => rfl); (case hr => first | (go_simp; done) | (go_simp; rfl))
                intro gb298 hg w19 hbox hb
                have n0_ := Aside0.mk (Kd.V_below (Kd.V_elderB (by (with_reducible repeat (first | apply Kd.V_alloc | apply Kd.V_drewN | apply Kd.V_drew)); exact HO_286000.out) gb298 (Nat.le_of_eq hg.symm)) hb)
                have n1_ := Aside0.mk (Kd.V_below (Kd.V_elderB (by (with_reducible repeat (first | apply Kd.V_alloc | apply Kd.V_drewN | apply Kd.V_drew)); exact HO290.out) gb298 (Nat.le_of_eq hg.symm)) hb)
                have n2_ := Aside0.mk (Kd.R_below (by (with_reducible repeat (first | apply Kd.R_alloc | apply Kd.R_drewN | apply Kd.R_drew)); exact HO294.out) hb)
                have n3_ := Aside0.mk (blk_below (g := gb275) (o := .cells #[.slice none 0 0, .int .i64 x276001_1, .slice none 0 0, .int .i64 x276003_1, .bool x276004_1] 40 (0, 0)) (by (with_reducible repeat (first | refine blk_drewN ?_ _ | refine blk_drew ?_ | refine blk_alloc ?_ _)); exact BK275.out) hb)
                have n4_ := Aside0.mk (blk_below (g := gb285) (o := .cells #[.slice Ao15 x286000_1.length co15, .int .i64 x286001_1, .slice Ao16 x286002_1.length co16, .int .i64 x286003_1, .bool x286004_1] 40 (0, 0)) (by (with_reducible repeat (first | refine blk_drewN ?_ _ | refine blk_drew ?_ | refine blk_alloc ?_ _)); exact BK285.out) hb)
                have n5_ := Aside0.mk (below_step (by repeat (first | (with_reducible first | exact HB.out | apply below_alloc | apply pw_below_drewN | apply below_drew1 | refine below_set ?_ GE275.out | refine below_set ?_ GE285.out) | exact HB.out)) hb)
                have n6_ := Aside0.mk (hbox)
                have n7_ := Aside0.mk ((by rw [hg]; exact (below_size (by repeat (first | (with_reducible first | exact HB.out | apply below_alloc | apply pw_below_drewN | apply below_drew1 | refine below_set ?_ GE275.out | refine below_set ?_ GE285.out) | exact HB.out))) : w.heap.size ≤ gb298))
                have n8_ := Aside0.mk ((by rw [hg]; exact (below_size (by repeat (first | (with_reducible first | exact HB.out | apply below_alloc | apply pw_below_drewN | apply below_drew1 | refine below_set ?_ GE275.out | refine below_set ?_ GE285.out) | exact HB.out))) : w.heap.size ≤ gb298))
                have n9_ := Aside0.mk ((by rw [hg]; exact Nat.ne_of_lt (blk_lt (g := gb275) (o := .cells #[.slice none 0 0, .int .i64 x276001_1, .slice none 0 0, .int .i64 x276003_1, .bool x276004_1] 40 (0, 0)) (by (with_reducible repeat (first | refine blk_drewN ?_ _ | refine blk_drew ?_ | refine blk_alloc ?_ _)); exact BK275.out)) : gb275 ≠ gb298))
                have n10_ := Aside0.mk ((by rw [hg]; exact Nat.ne_of_gt (blk_lt (g := gb275) (o := .cells #[.slice none 0 0, .int .i64 x276001_1, .slice none 0 0, .int .i64 x276003_1, .bool x276004_1] 40 (0, 0)) (by (with_reducible repeat (first | refine blk_drewN ?_ _ | refine blk_drew ?_ | refine blk_alloc ?_ _)); exact BK275.out)) : gb298 ≠ gb275))
                have n11_ := Aside0.mk ((by rw [hg]; exact Nat.ne_of_lt (blk_lt (g := gb285) (o := .cells #[.slice Ao15 x286000_1.length co15, .int .i64 x286001_1, .slice Ao16 x286002_1.length co16, .int .i64 x286003_1, .bool x286004_1] 40 (0, 0)) (by (with_reducible repeat (first | refine blk_drewN ?_ _ | refine blk_drew ?_ | refine blk_alloc ?_ _)); exact BK285.out)) : gb285 ≠ gb298))
                have n12_ := Aside0.mk ((by rw [hg]; exact Nat.ne_of_gt (blk_lt (g := gb285) (o := .cells #[.slice Ao15 x286000_1.length co15, .int .i64 x286001_1, .slice Ao16 x286002_1.length co16, .int .i64 x286003_1, .bool x286004_1] 40 (0, 0)) (by (with_reducible repeat (first | refine blk_drewN ?_ _ | refine blk_drew ?_ | refine blk_alloc ?_ _)); exact BK285.out)) : gb298 ≠ gb285))
                clear HO_286000
                clear HO290
                clear HO294
                clear BK275
                clear BK285
                clear HB
                have HO_286000 := n0_
                have HO290 := n1_
                have HO294 := n2_
                have BK275 := n3_
                have BK285 := n4_
                have HB := n5_
                have BK298 := n6_
                have GW298 := n7_
                have GE298 := n8_
                have NB275_298 := n9_
                have NB298_275 := n10_
                have NB285_298 := n11_
                have NB298_285 := n12_
                clear n0_ n1_ n2_ n3_ n4_ n5_ n6_ n7_ n8_ n9_ n10_ n11_ n12_
                clear hb hbox hg
                refine hK.out _ _ ⟨(blk_cell BK285.out 0).trans rfl, (blk_cell BK285.out 1).trans rfl, (blk_cell BK285.out 2).trans rfl, (blk_cell BK285.out 3).trans rfl, (blk_cell BK285.out 4).trans rfl, ((HB.out.cell (World.block_lt_of_cell? w _ hw286_0)).trans hw286_0), ((HB.out.cell (World.block_lt_of_cell? w _ hw286_1)).trans hw286_1), ((HB.out.cell (World.block_lt_of_cell? w _ hw287_0)).trans hw287_0), ((HB.out.cell (World.block_lt_of_cell? w _ hw287_1)).trans hw287_1)⟩ (fun hHeld => ?_)
                clear hK K
                refine norm_ (a' := ?_) ?_ ?_
                rotate_left
                · show Act.put _ (some 8) _ = _
                  simp only [Act.put, List.setIfInBounds_toArray, List.set_cons_zero, List.set_cons_succ, i64_w, i32_w]
                  rfl
                exact norm_ (by simp only [putAll, Act.put, List.setIfInBounds_toArray, List.set_cons_zero, List.set_cons_succ]) (hCont (v289, v293, gb298) _ ⟨hHeld, (by (with_reducible repeat (first | apply Kd.V_alloc | apply Kd.V_drewN | apply Kd.V_drew)); exact Kd.V_mono HO290.out (fun _ hk => ⟨hk.1.1, ⟨hk.1.2.1, ⟨hk.1.2.2.1, ⟨hk.1.2.2.2, hk.2⟩⟩⟩⟩)), (by (with_reducible repeat (first | apply Kd.R_alloc | apply Kd.R_drewN | apply Kd.R_drew)); exact HO294.out), (by (with_reducible repeat (first | apply Kd.V_alloc | apply Kd.V_drewN | apply Kd.V_drew)); exact Kd.V_mono HO_286000.out (fun _ hk => ⟨hk.1.1, ⟨hk.1.2.2.2, ⟨hk.1.2.1, ⟨hk.1.2.2.1, hk.2⟩⟩⟩⟩)), (by (with_reducible repeat (first | refine blk_drewN ?_ _ | refine blk_drew ?_ | refine blk_alloc ?_ _)); exact BK275.out), (by (with_reducible repeat (first | refine blk_drewN ?_ _ | refine blk_drew ?_ | refine blk_alloc ?_ _)); exact BK285.out), (by (with_reducible repeat (first | refine blk_drewN ?_ _ | refine blk_drew ?_ | refine blk_alloc ?_ _)); exact BK298.out), GW298.out, GE298.out, NB275_298.out, NB298_275.out, NB285_298.out, NB298_285.out, (by repeat (first | (with_reducible first | exact HB.out | apply below_alloc | apply pw_below_drewN | apply below_drew1 | refine below_set ?_ GE275.out | refine below_set ?_ GE285.out | refine below_set ?_ GE298.out) | exact HB.out))⟩)
              · skip
                refine box_step ?hg (N := 8) ?hd (cs := #[.slice none 0 0, .int .i64 0, .slice none 0 0, .int .i64 0, .bool false]) (t := 40) ?hr ?_; (case hd => rfl); (case hg => rfl); (case hr => first | (go_simp; done) | (go_simp; rfl))
                intro gb298 hg w18 hbox hb
                have n0_ := Aside0.mk (Kd.V_below (Kd.V_elderB (by (with_reducible repeat (first | apply Kd.V_alloc | apply Kd.V_drewN | apply Kd.V_drew)); exact HO_286000.out) gb298 (Nat.le_of_eq hg.symm)) hb)
                have n1_ := Aside0.mk (Kd.R_below (by (with_reducible repeat (first | apply Kd.R_alloc | apply Kd.R_drewN | apply Kd.R_drew)); exact HO_286002.out) hb)
                have n2_ := Aside0.mk (blk_below (g := gb275) (o := .cells #[.slice none 0 0, .int .i64 x276001_1, .slice none 0 0, .int .i64 x276003_1, .bool x276004_1] 40 (0, 0)) (by (with_reducible repeat (first | refine blk_drewN ?_ _ | refine blk_drew ?_ | refine blk_alloc ?_ _)); exact BK275.out) hb)
                have n3_ := Aside0.mk (blk_below (g := gb285) (o := .cells #[.slice Ao15 x286000_1.length co15, .int .i64 x286001_1, .slice Ao16 x286002_1.length co16, .int .i64 x286003_1, .bool x286004_1] 40 (0, 0)) (by (with_reducible repeat (first | refine blk_drewN ?_ _ | refine blk_drew ?_ | refine blk_alloc ?_ _)); exact BK285.out) hb)
                have n4_ := Aside0.mk (below_step (by repeat (first | (with_reducible first | exact HB.out | apply below_alloc | apply pw_below_drewN | apply below_drew1 | refine below_set ?_ GE275.out | refine below_set ?_ GE285.out) | exact HB.out)) hb)
                have n5_ := Aside0.mk (hbox)
                have n6_ := Aside0.mk ((by rw [hg]; exact (below_size (by repeat (first | (with_reducible first | exact HB.out | apply below_alloc | apply pw_below_drewN | apply below_drew1 | refine below_set ?_ GE275.out | refine below_set ?_ GE285.out) | exact HB.out))) : w.heap.size ≤ gb298))
                have n7_ := Aside0.mk ((by rw [hg]; exact (below_size (by repeat (first | (with_reducible first | exact HB.out | apply below_alloc | apply pw_below_drewN | apply below_drew1 | refine below_set ?_ GE275.out | refine below_set ?_ GE285.out) | exact HB.out))) : w.heap.size ≤ gb298))
                have n8_ := Aside0.mk ((by rw [hg]; exact Nat.ne_of_lt (blk_lt (g := gb275) (o := .cells #[.slice none 0 0, .int .i64 x276001_1, .slice none 0 0, .int .i64 x276003_1, .bool x276004_1] 40 (0, 0)) (by (with_reducible repeat (first | refine blk_drewN ?_ _ | refine blk_drew ?_ | refine blk_alloc ?_ _)); exact BK275.out)) : gb275 ≠ gb298))
                have n9_ := Aside0.mk ((by rw [hg]; exact Nat.ne_of_gt (blk_lt (g := gb275) (o := .cells #[.slice none 0 0, .int .i64 x276001_1, .slice none 0 0, .int .i64 x276003_1, .bool x276004_1] 40 (0, 0)) (by (with_reducible repeat (first | refine blk_drewN ?_ _ | refine blk_drew ?_ | refine blk_alloc ?_ _)); exact BK275.out)) : gb298 ≠ gb275))
                have n10_ := Aside0.mk ((by rw [hg]; exact Nat.ne_of_lt (blk_lt (g := gb285) (o := .cells #[.slice Ao15 x286000_1.length co15, .int .i64 x286001_1, .slice Ao16 x286002_1.length co16, .int .i64 x286003_1, .bool x286004_1] 40 (0, 0)) (by (with_reducible repeat (first | refine blk_drewN ?_ _ | refine blk_drew ?_ | refine blk_alloc ?_ _)); exact BK285.out)) : gb285 ≠ gb298))
                have n11_ := Aside0.mk ((by rw [hg]; exact Nat.ne_of_gt (blk_lt (g := gb285) (o := .cells #[.slice Ao15 x286000_1.length co15, .int .i64 x286001_1, .slice Ao16 x286002_1.length co16, .int .i64 x286003_1, .bool x286004_1] 40 (0, 0)) (by (with_reducible repeat (first | refine blk_drewN ?_ _ | refine blk_drew ?_ | refine blk_alloc ?_ _)); exact BK285.out)) : gb298 ≠ gb285))
                clear HO_286000
                clear HO_286002
                clear BK275
                clear BK285
                clear HB
                have HO_286000 := n0_
                have HO_286002 := n1_
                have BK275 := n2_
                have BK285 := n3_
                have HB := n4_
                have BK298 := n5_
                have GW298 := n6_
                have GE298 := n7_
                have NB275_298 := n8_
                have NB298_275 := n9_
                have NB285_298 := n10_
                have NB298_285 := n11_
                clear n0_ n1_ n2_ n3_ n4_ n5_ n6_ n7_ n8_ n9_ n10_ n11_
                clear hb hbox hg
                refine hK.out _ _ ⟨(blk_cell BK285.out 0).trans rfl, (blk_cell BK285.out 1).trans rfl, (blk_cell BK285.out 2).trans rfl, (blk_cell BK285.out 3).trans rfl, (blk_cell BK285.out 4).trans rfl, ((HB.out.cell (World.block_lt_of_cell? w _ hw286_0)).trans hw286_0), ((HB.out.cell (World.block_lt_of_cell? w _ hw286_1)).trans hw286_1), ((HB.out.cell (World.block_lt_of_cell? w _ hw287_0)).trans hw287_0), ((HB.out.cell (World.block_lt_of_cell? w _ hw287_1)).trans hw287_1)⟩ (fun hHeld => ?_)
                clear hK K
                refine norm_ (a' := ?_) ?_ ?_
                rotate_left
                · show Act.put _ (some 8) _ = _
                  simp only [Act.put, List.setIfInBounds_toArray, List.set_cons_zero, List.set_cons_succ, i64_w, i32_w]
                  rfl
                refine one_ (i := 11) (N := some 30) #[true, true, true, true, true, true, true, true, true, true, true, true, false, false, false, true, false, false] rfl rfl (one_of HT_.out (by kernel_rfl)) (by decide) (fun K hK => ?_)
                refine goes_ Try.func49 (by kernel_rfl) rfl #[.agg #[.slice Ao15 x286000_1.length co15, .int .i64 x286001_1, .slice Ao16 x286002_1.length co16, .int .i64 x286003_1, .bool x286004_1], .string ((rd_T45 l1 x7_1).f0), .slice A286_1 ((rd_T45 l1 x7_1).f1).length c286_1] (by rfl) rfl rfl (by (try simp only [List.map_toArray, List.map_cons, List.map_nil]); first | done | rfl | (simp only [List.length_drop, List.length_take]; rfl)) ?_
                with_reducible refine (leatref18_made.calls k1 (fun k_ => (((w.heap.size ≤ k_) ∧ (some k_ ≠ (.slice Ao16 x286002_1.length co16 : Value).ownBlock ∧ (k_ ≠ gb275 ∧ k_ ≠ gb285))) ∧ k_ ≠ gb298)) _ _ x286000_1 x286001_1 (fun k_ => some k_ = (.slice Ao16 x286002_1.length co16 : Value).ownBlock) (.slice Ao16 x286002_1.length co16) x286002_1 x286003_1 x286004_1 ((rd_T45 l1 x7_1).f0) _ _ ((rd_T45 l1 x7_1).f1) t288 t291 t292 t295 t296 t297 w _ ?side1 ?side2 ?side3 ?side4 ?side5 A13.out).mono ?_
                (case side1 => repeat (first | (with_reducible first | exact HB.out | apply below_alloc | apply pw_below_drewN | apply below_drew1 | refine below_set ?_ GE275.out | refine below_set ?_ GE285.out | refine below_set ?_ GE298.out) | exact HB.out))
                (case side2 => exact Kd.V_mono (HO_286000.out) (fun k_ hk_ => ⟨hk_, hk_.1.2.1⟩))
                (case side3 => exact Kd.R_tight rfl HO_286002.out)
                (case side4 => exact Kd.C_kept_came (Kd.heap_int .u8) HR287_1.out (by repeat (first | (with_reducible first | exact HB.out | apply below_alloc | apply pw_below_drewN | apply below_drew1 | refine below_set ?_ GE275.out | refine below_set ?_ GE285.out | refine below_set ?_ GE298.out) | exact HB.out)) (fun k_ hs_ => (fun e_ => Kd.R_base HO_286002.out k_ e_.symm) hs_))
                (case side5 => exact HC287_1.out)
                rintro e w19 ⟨v289, v293, rfl, ho0, ho1, hb, hkp⟩
                refine ⟨_, rfl, ?_⟩
                have n0_ := Aside0.mk (Kd.V_mono (ok' := fun k_ => (w.heap.size ≤ k_) ∧ k_ ≠ gb275 ∧ k_ ≠ gb285 ∧ k_ ≠ gb298 ∧ some k_ ≠ (v293 : Value).ownBlock) (Kd.V_keptB (HO_286000.out) hkp (fun k_ hk_ hs_ => (hk_.1.2.1) hs_)) (fun k_ hk_ => ⟨hk_.1.1.1, hk_.1.1.2.2.1, hk_.1.1.2.2.2, hk_.1.2, fun e_ => Or.elim (ho1.1 k_ e_.symm) (fun hs_ => hk_.2.1 hs_) (fun hn_ => Nat.not_le.2 hk_.2.2 hn_)⟩))
                have n1_ := Aside0.mk (blk_kept (by (with_reducible repeat (first | refine blk_drewN ?_ _ | refine blk_drew ?_ | refine blk_alloc ?_ _)); exact BK275.out) hkp (fun hs_ => (fun e_ => (Kd.R_ne HO_286002.out BK275.out (by decide)) e_) hs_))
                have n2_ := Aside0.mk (blk_kept (by (with_reducible repeat (first | refine blk_drewN ?_ _ | refine blk_drew ?_ | refine blk_alloc ?_ _)); exact BK285.out) hkp (fun hs_ => (fun e_ => (Kd.R_ne HO_286002.out BK285.out (by decide)) e_) hs_))
                have n3_ := Aside0.mk (blk_kept (by (with_reducible repeat (first | refine blk_drewN ?_ _ | refine blk_drew ?_ | refine blk_alloc ?_ _)); exact BK298.out) hkp (fun hs_ => (fun e_ => (Kd.R_ne HO_286002.out BK298.out (by decide)) e_) hs_))
                have n4_ := Aside0.mk (Kd.V_mono (ok' := fun k_ => (w.heap.size ≤ k_) ∧ some k_ ≠ (v293 : Value).ownBlock ∧ k_ ≠ gb275 ∧ k_ ≠ gb285 ∧ k_ ≠ gb298) ho0 (fun k_ hk_ => ⟨Or.elim hk_.1 (fun hs_ => Or.elim hs_ (fun hs_ => (HO_286002.out.1 k_ (hs_).symm)) (fun hs_ => hs_.1.1)) (fun hn_ => (Nat.le_trans (below_size (by repeat (first | (with_reducible first | exact HB.out | apply below_alloc | apply pw_below_drewN | apply below_drew1 | refine below_set ?_ GE275.out | refine below_set ?_ GE285.out | refine below_set ?_ GE298.out) | exact HB.out))) hn_)), hk_.2, Or.elim hk_.1 (fun hs_ => Or.elim hs_ (fun hs_ => fun e_ => (Kd.R_ne HO_286002.out BK275.out (by decide)) (by rw [← e_]; exact hs_)) (fun hs_ => hs_.1.2.2.1)) (fun hn_ => (Kd.freshB (g := gb275) (o := .cells #[.slice none 0 0, .int .i64 x276001_1, .slice none 0 0, .int .i64 x276003_1, .bool x276004_1] 40 (0, 0)) (by (with_reducible repeat (first | refine blk_drewN ?_ _ | refine blk_drew ?_ | refine blk_alloc ?_ _)); exact BK275.out) k_ hn_)), Or.elim hk_.1 (fun hs_ => Or.elim hs_ (fun hs_ => fun e_ => (Kd.R_ne HO_286002.out BK285.out (by decide)) (by rw [← e_]; exact hs_)) (fun hs_ => hs_.1.2.2.2)) (fun hn_ => (Kd.freshB (g := gb285) (o := .cells #[.slice Ao15 x286000_1.length co15, .int .i64 x286001_1, .slice Ao16 x286002_1.length co16, .int .i64 x286003_1, .bool x286004_1] 40 (0, 0)) (by (with_reducible repeat (first | refine blk_drewN ?_ _ | refine blk_drew ?_ | refine blk_alloc ?_ _)); exact BK285.out) k_ hn_)), Or.elim hk_.1 (fun hs_ => Or.elim hs_ (fun hs_ => fun e_ => (Kd.R_ne HO_286002.out BK298.out (by decide)) (by rw [← e_]; exact hs_)) (fun hs_ => hs_.2)) (fun hn_ => (Kd.freshB (g := gb298) (o := .cells #[.slice none 0 0, .int .i64 0, .slice none 0 0, .int .i64 0, .bool false] 40 (0, 0)) (by (with_reducible repeat (first | refine blk_drewN ?_ _ | refine blk_drew ?_ | refine blk_alloc ?_ _)); exact BK298.out) k_ hn_))⟩))
                have n5_ := Aside0.mk (Kd.R_mono (ok' := fun k_ => (w.heap.size ≤ k_)) ho1 (fun k_ hk_ => Or.elim hk_ (fun hs_ => (HO_286002.out.1 k_ (hs_).symm)) (fun hn_ => (Nat.le_trans (below_size (by repeat (first | (with_reducible first | exact HB.out | apply below_alloc | apply pw_below_drewN | apply below_drew1 | refine below_set ?_ GE275.out | refine below_set ?_ GE285.out | refine below_set ?_ GE298.out) | exact HB.out))) hn_))))
                have n6_ := Aside0.mk (hb)
                clear HO_286000
                clear BK275
                clear BK285
                clear BK298
                clear HB
                clear HO_286002
                have HO_286000 := n0_
                have BK275 := n1_
                have BK285 := n2_
                have BK298 := n3_
                have HO290 := n4_
                have HO294 := n5_
                have HB := n6_
                clear n0_ n1_ n2_ n3_ n4_ n5_ n6_
                (try clear hb)
                (try clear hkp)
                (try clear ho0)
                (try clear ho1)
                refine hK.out _ _ ⟨(blk_cell BK285.out 0).trans rfl, (blk_cell BK285.out 1).trans rfl, (blk_cell BK285.out 2).trans rfl, (blk_cell BK285.out 3).trans rfl, (blk_cell BK285.out 4).trans rfl, ((HB.out.cell (World.block_lt_of_cell? w _ hw286_0)).trans hw286_0), ((HB.out.cell (World.block_lt_of_cell? w _ hw286_1)).trans hw286_1), ((HB.out.cell (World.block_lt_of_cell? w _ hw287_0)).trans hw287_0), ((HB.out.cell (World.block_lt_of_cell? w _ hw287_1)).trans hw287_1)⟩ (fun hHeld => ?_)
                clear hK K
                refine norm_ (a' := ?_) ?_ ?_
                rotate_left
                · show Act.put _ (some 30) _ = _
                  simp only [Act.put, List.setIfInBounds_toArray, List.set_cons_zero, List.set_cons_succ, i64_w, i32_w]
                  rfl
                refine pure_ (i := 12) (N := some 18) (v := ?_) (a' := ?_) #[true, true, true, true, true, true, true, true, true, true, true, true, true, false, false, true, false, false] rfl rfl (any_of HT_.out (by kernel_rfl)) (fun _ _ _ h => h) (Or.inl ⟨by rfl, ?_⟩) ?_ ?_
                rotate_left
                · intro w'
                  go_simp
                  with_reducible rfl
                rotate_left
                · simp only [Act.put, List.setIfInBounds_toArray, List.set_cons_zero, List.set_cons_succ, i64_w, i32_w]
                  rfl
                refine pure_ (i := 13) (N := some 31) (v := ?_) (a' := ?_) #[true, true, true, true, true, true, true, true, true, true, true, true, true, true, false, true, false, false] rfl rfl (any_of HT_.out (by kernel_rfl)) (fun _ _ _ h => h) (Or.inl ⟨by rfl, ?_⟩) ?_ ?_
                rotate_left
                · intro w'
                  go_simp
                  with_reducible rfl
                rotate_left
                · simp only [Act.put, List.setIfInBounds_toArray, List.set_cons_zero, List.set_cons_succ, i64_w, i32_w]
                  rfl
                refine pure_ (i := 14) (N := some 32) (v := ?_) (a' := ?_) #[true, true, true, true, true, true, true, true, true, true, true, true, true, true, true, true, false, false] rfl rfl (any_of HT_.out (by kernel_rfl)) (fun _ _ _ h => h) (Or.inl ⟨by rfl, ?_⟩) ?_ ?_
                rotate_left
                · intro w'
                  go_simp
                  with_reducible rfl
                rotate_left
                · simp only [Act.put, List.setIfInBounds_toArray, List.set_cons_zero, List.set_cons_succ, i64_w, i32_w]
                  rfl
                exact norm_ (by simp only [putAll, Act.put, List.setIfInBounds_toArray, List.set_cons_zero, List.set_cons_succ]) (hCont (v289, v293, gb298) _ ⟨hHeld, (by (with_reducible repeat (first | apply Kd.V_alloc | apply Kd.V_drewN | apply Kd.V_drew)); exact HO290.out), (by (with_reducible repeat (first | apply Kd.R_alloc | apply Kd.R_drewN | apply Kd.R_drew)); exact HO294.out), (by (with_reducible repeat (first | apply Kd.V_alloc | apply Kd.V_drewN | apply Kd.V_drew)); exact Kd.V_mono HO_286000.out (fun _ hk => ⟨hk.1, ⟨hk.2.2.2.2, ⟨hk.2.1, ⟨hk.2.2.1, hk.2.2.2.1⟩⟩⟩⟩)), (by (with_reducible repeat (first | refine blk_drewN ?_ _ | refine blk_drew ?_ | refine blk_alloc ?_ _)); exact BK275.out), (by (with_reducible repeat (first | refine blk_drewN ?_ _ | refine blk_drew ?_ | refine blk_alloc ?_ _)); exact BK285.out), (by (with_reducible repeat (first | refine blk_drewN ?_ _ | refine blk_drew ?_ | refine blk_alloc ?_ _)); exact BK298.out), GW298.out, GE298.out, NB275_298.out, NB298_275.out, NB285_298.out, NB298_285.out, (by repeat (first | (with_reducible first | exact HB.out | apply below_alloc | apply pw_below_drewN | apply below_drew1 | refine below_set ?_ GE275.out | refine below_set ?_ GE285.out | refine below_set ?_ GE298.out) | exact HB.out))⟩)
            rintro ⟨v289, v293, gb298⟩ w20 ⟨hS_, h0_, h1_, h2_, h3_, h4_, h5_, h6_, h7_, h8_, h9_, h10_, h11_, h12_⟩
            have n0_ : Aside0 (Kd.V k94 94 w20 w.heap.size (fun k_ => (w.heap.size ≤ k_) ∧ some k_ ≠ (v293 : Value).ownBlock ∧ k_ ≠ gb275 ∧ k_ ≠ gb285 ∧ k_ ≠ gb298) v289 t288) := ⟨h0_⟩
            have n1_ : Aside0 (Kd.R k26 26 w20 w.heap.size (fun k_ => (w.heap.size ≤ k_)) v293 t292) := ⟨h1_⟩
            have n2_ : Aside0 (Kd.V k94 94 w20 w.heap.size (fun k_ => (w.heap.size ≤ k_) ∧ some k_ ≠ (v293 : Value).ownBlock ∧ k_ ≠ gb275 ∧ k_ ≠ gb285 ∧ k_ ≠ gb298) (.slice Ao15 x286000_1.length co15) x286000_1) := ⟨h2_⟩
            have n3_ : Aside0 (w20.heap[gb275]? = some (.cells #[.slice none 0 0, .int .i64 x276001_1, .slice none 0 0, .int .i64 x276003_1, .bool x276004_1] 40 (0, 0))) := ⟨h3_⟩
            have n4_ : Aside0 (w20.heap[gb285]? = some (.cells #[.slice Ao15 x286000_1.length co15, .int .i64 x286001_1, .slice Ao16 x286002_1.length co16, .int .i64 x286003_1, .bool x286004_1] 40 (0, 0))) := ⟨h4_⟩
            have n5_ : Aside0 (w20.heap[gb298]? = some (.cells #[.slice none 0 0, .int .i64 0, .slice none 0 0, .int .i64 0, .bool false] 40 (0, 0))) := ⟨h5_⟩
            have n6_ : Aside0 (w.heap.size ≤ gb298) := ⟨h6_⟩
            have n7_ : Aside0 (w.heap.size ≤ gb298) := ⟨h7_⟩
            have n8_ : Aside0 (gb275 ≠ gb298) := ⟨h8_⟩
            have n9_ : Aside0 (gb298 ≠ gb275) := ⟨h9_⟩
            have n10_ : Aside0 (gb285 ≠ gb298) := ⟨h10_⟩
            have n11_ : Aside0 (gb298 ≠ gb285) := ⟨h11_⟩
            have n12_ : Aside0 (Below w.heap.size w w20) := ⟨h12_⟩
            clear HO_286000
            clear HO_286002
            clear BK275
            clear BK285
            clear HB
            clear h0_ h1_ h2_ h3_ h4_ h5_ h6_ h7_ h8_ h9_ h10_ h11_ h12_
            have HO290 := n0_
            have HO294 := n1_
            have HO_286000 := n2_
            have BK275 := n3_
            have BK285 := n4_
            have BK298 := n5_
            have GW298 := n6_
            have GE298 := n7_
            have NB275_298 := n8_
            have NB298_275 := n9_
            have NB285_298 := n10_
            have NB298_285 := n11_
            have HB := n12_
            clear n0_ n1_ n2_ n3_ n4_ n5_ n6_ n7_ n8_ n9_ n10_ n11_ n12_
            have hHeld : w20.cell? ⟨gb285, 0, none⟩ = some (.slice Ao15 x286000_1.length co15) ∧ w20.cell? ⟨gb285, 1, none⟩ = some (.int .i64 x286001_1) ∧ w20.cell? ⟨gb285, 2, none⟩ = some (.slice Ao16 x286002_1.length co16) ∧ w20.cell? ⟨gb285, 3, none⟩ = some (.int .i64 x286003_1) ∧ w20.cell? ⟨gb285, 4, none⟩ = some (.bool x286004_1) ∧ w20.cell? (ad286.add ((x7_1).toNat * 2)) = some (.string ((rd_T45 l1 x7_1).f0)) ∧ w20.cell? ⟨(ad286.add ((x7_1).toNat * 2)).block, (ad286.add ((x7_1).toNat * 2)).off + 1, none⟩ = some (.slice A286_1 ((rd_T45 l1 x7_1).f1).length c286_1) ∧ w20.cell? (ad286.add ((x7_1).toNat * 2)) = some (.string ((rd_T45 l1 x7_1).f0)) ∧ w20.cell? ⟨(ad286.add ((x7_1).toNat * 2)).block, (ad286.add ((x7_1).toNat * 2)).off + 1, none⟩ = some (.slice A286_1 ((rd_T45 l1 x7_1).f1).length c286_1) := hS_
            obtain ⟨Ao21, co21, eo21⟩ := Kd.V_slice HO290.out
            (first | subst eo21 | (injection eo21 with f1_ f2_ f3_; have f4_ := f1_.symm; have f5_ := f3_.symm; clear f1_ f2_ f3_; subst f4_; subst f5_))
            obtain ⟨Ao24, co24, eo24⟩ := Kd.R_slice HO294.out
            (first | subst eo24 | (injection eo24 with f1_ f2_ f3_; have f4_ := f1_.symm; have f5_ := f3_.symm; clear f1_ f2_ f3_; subst f4_; subst f5_))
            refine norm_ (a' := ?_) ?_ ?_
            rotate_left
            · simp only [putAll, Act.put, List.setIfInBounds_toArray, List.set_cons_zero, List.set_cons_succ]
              rfl
            refine one_ (i := 16) (N := none) #[true, true, true, true, true, true, true, true, true, true, true, true, true, true, true, true, true, false] rfl rfl (one_of HT_.out (by kernel_rfl)) (by decide) (fun K hK => ?_)
            have hs22 : w20.cell? ⟨gb298, 0, none⟩ = some (.slice none 0 0) := (blk_cell BK298.out 0).trans rfl
            have hfs22 := blk_frozen BK298.out 0
            have hns22_0 := NB275_298.out
            have hns22_1 := NB285_298.out
            have hms22_0 := NB298_275.out
            have hms22_1 := NB298_285.out
            have hs23 : w20.cell? ⟨gb298, 1, none⟩ = some (.int .i64 0) := (blk_cell BK298.out 1).trans rfl
            have hfs23 := blk_frozen BK298.out 1
            have hns23_0 := NB275_298.out
            have hns23_1 := NB285_298.out
            have hms23_0 := NB298_275.out
            have hms23_1 := NB298_285.out
            have hs25 : w20.cell? ⟨gb298, 2, none⟩ = some (.slice none 0 0) := (blk_cell BK298.out 2).trans rfl
            have hfs25 := blk_frozen BK298.out 2
            have hns25_0 := NB275_298.out
            have hns25_1 := NB285_298.out
            have hms25_0 := NB298_275.out
            have hms25_1 := NB298_285.out
            have hs26 : w20.cell? ⟨gb298, 3, none⟩ = some (.int .i64 0) := (blk_cell BK298.out 3).trans rfl
            have hfs26 := blk_frozen BK298.out 3
            have hns26_0 := NB275_298.out
            have hns26_1 := NB285_298.out
            have hms26_0 := NB298_275.out
            have hms26_1 := NB298_285.out
            have hs27 : w20.cell? ⟨gb298, 4, none⟩ = some (.bool false) := (blk_cell BK298.out 4).trans rfl
            have hfs27 := blk_frozen BK298.out 4
            have hns27_0 := NB275_298.out
            have hns27_1 := NB285_298.out
            have hms27_0 := NB298_275.out
            have hms27_1 := NB298_285.out
            refine skip_ (w1 := ?_) (by rfl) rfl ?_ ?_
            rotate_left
            · go_simp
              rfl
            refine hK.out _ _ ⟨((cell_far (p := ⟨gb298, _, none⟩) NB285_298.out _).trans (((cell_far (p := ⟨gb298, _, none⟩) NB285_298.out _).trans (((cell_far (p := ⟨gb298, _, none⟩) NB285_298.out _).trans (((cell_far (p := ⟨gb298, _, none⟩) NB285_298.out _).trans (((cell_far (p := ⟨gb298, _, none⟩) NB285_298.out _).trans (hHeld.1)))))))))), ((cell_far (p := ⟨gb298, _, none⟩) NB285_298.out _).trans (((cell_far (p := ⟨gb298, _, none⟩) NB285_298.out _).trans (((cell_far (p := ⟨gb298, _, none⟩) NB285_298.out _).trans (((cell_far (p := ⟨gb298, _, none⟩) NB285_298.out _).trans (((cell_far (p := ⟨gb298, _, none⟩) NB285_298.out _).trans (hHeld.2.1)))))))))), ((cell_far (p := ⟨gb298, _, none⟩) NB285_298.out _).trans (((cell_far (p := ⟨gb298, _, none⟩) NB285_298.out _).trans (((cell_far (p := ⟨gb298, _, none⟩) NB285_298.out _).trans (((cell_far (p := ⟨gb298, _, none⟩) NB285_298.out _).trans (((cell_far (p := ⟨gb298, _, none⟩) NB285_298.out _).trans (hHeld.2.2.1)))))))))), ((cell_far (p := ⟨gb298, _, none⟩) NB285_298.out _).trans (((cell_far (p := ⟨gb298, _, none⟩) NB285_298.out _).trans (((cell_far (p := ⟨gb298, _, none⟩) NB285_298.out _).trans (((cell_far (p := ⟨gb298, _, none⟩) NB285_298.out _).trans (((cell_far (p := ⟨gb298, _, none⟩) NB285_298.out _).trans (hHeld.2.2.2.1)))))))))), ((cell_far (p := ⟨gb298, _, none⟩) NB285_298.out _).trans (((cell_far (p := ⟨gb298, _, none⟩) NB285_298.out _).trans (((cell_far (p := ⟨gb298, _, none⟩) NB285_298.out _).trans (((cell_far (p := ⟨gb298, _, none⟩) NB285_298.out _).trans (((cell_far (p := ⟨gb298, _, none⟩) NB285_298.out _).trans (hHeld.2.2.2.2.1)))))))))), ((cell_far (p := ⟨gb298, _, none⟩) (by first | exact Nat.ne_of_lt (Nat.lt_of_lt_of_le (by have := World.block_lt_of_cell? _ _ hw286_0; first | rwa [add_block] at this | exact this) GW298.out) | (rw [add_block]; exact Nat.ne_of_lt (Nat.lt_of_lt_of_le (by have := World.block_lt_of_cell? _ _ hw286_0; first | rwa [add_block] at this | exact this) GW298.out)) | (show (Addr.add _ _).block ≠ _; rw [add_block]; exact Nat.ne_of_lt (Nat.lt_of_lt_of_le (by have := World.block_lt_of_cell? _ _ hw286_0; first | rwa [add_block] at this | exact this) GW298.out)) | (dsimp only; exact Nat.ne_of_lt (Nat.lt_of_lt_of_le (by have := World.block_lt_of_cell? _ _ hw286_0; first | rwa [add_block] at this | exact this) GW298.out))) _).trans (((cell_far (p := ⟨gb298, _, none⟩) (by first | exact Nat.ne_of_lt (Nat.lt_of_lt_of_le (by have := World.block_lt_of_cell? _ _ hw286_0; first | rwa [add_block] at this | exact this) GW298.out) | (rw [add_block]; exact Nat.ne_of_lt (Nat.lt_of_lt_of_le (by have := World.block_lt_of_cell? _ _ hw286_0; first | rwa [add_block] at this | exact this) GW298.out)) | (show (Addr.add _ _).block ≠ _; rw [add_block]; exact Nat.ne_of_lt (Nat.lt_of_lt_of_le (by have := World.block_lt_of_cell? _ _ hw286_0; first | rwa [add_block] at this | exact this) GW298.out)) | (dsimp only; exact Nat.ne_of_lt (Nat.lt_of_lt_of_le (by have := World.block_lt_of_cell? _ _ hw286_0; first | rwa [add_block] at this | exact this) GW298.out))) _).trans (((cell_far (p := ⟨gb298, _, none⟩) (by first | exact Nat.ne_of_lt (Nat.lt_of_lt_of_le (by have := World.block_lt_of_cell? _ _ hw286_0; first | rwa [add_block] at this | exact this) GW298.out) | (rw [add_block]; exact Nat.ne_of_lt (Nat.lt_of_lt_of_le (by have := World.block_lt_of_cell? _ _ hw286_0; first | rwa [add_block] at this | exact this) GW298.out)) | (show (Addr.add _ _).block ≠ _; rw [add_block]; exact Nat.ne_of_lt (Nat.lt_of_lt_of_le (by have := World.block_lt_of_cell? _ _ hw286_0; first | rwa [add_block] at this | exact this) GW298.out)) | (dsimp only; exact Nat.ne_of_lt (Nat.lt_of_lt_of_le (by have := World.block_lt_of_cell? _ _ hw286_0; first | rwa [add_block] at this | exact this) GW298.out))) _).trans (((cell_far (p := ⟨gb298, _, none⟩) (by first | exact Nat.ne_of_lt (Nat.lt_of_lt_of_le (by have := World.block_lt_of_cell? _ _ hw286_0; first | rwa [add_block] at this | exact this) GW298.out) | (rw [add_block]; exact Nat.ne_of_lt (Nat.lt_of_lt_of_le (by have := World.block_lt_of_cell? _ _ hw286_0; first | rwa [add_block] at this | exact this) GW298.out)) | (show (Addr.add _ _).block ≠ _; rw [add_block]; exact Nat.ne_of_lt (Nat.lt_of_lt_of_le (by have := World.block_lt_of_cell? _ _ hw286_0; first | rwa [add_block] at this | exact this) GW298.out)) | (dsimp only; exact Nat.ne_of_lt (Nat.lt_of_lt_of_le (by have := World.block_lt_of_cell? _ _ hw286_0; first | rwa [add_block] at this | exact this) GW298.out))) _).trans (((cell_far (p := ⟨gb298, _, none⟩) (by first | exact Nat.ne_of_lt (Nat.lt_of_lt_of_le (by have := World.block_lt_of_cell? _ _ hw286_0; first | rwa [add_block] at this | exact this) GW298.out) | (rw [add_block]; exact Nat.ne_of_lt (Nat.lt_of_lt_of_le (by have := World.block_lt_of_cell? _ _ hw286_0; first | rwa [add_block] at this | exact this) GW298.out)) | (show (Addr.add _ _).block ≠ _; rw [add_block]; exact Nat.ne_of_lt (Nat.lt_of_lt_of_le (by have := World.block_lt_of_cell? _ _ hw286_0; first | rwa [add_block] at this | exact this) GW298.out)) | (dsimp only; exact Nat.ne_of_lt (Nat.lt_of_lt_of_le (by have := World.block_lt_of_cell? _ _ hw286_0; first | rwa [add_block] at this | exact this) GW298.out))) _).trans (hHeld.2.2.2.2.2.1)))))))))), ((cell_far (p := ⟨gb298, _, none⟩) (by first | exact Nat.ne_of_lt (Nat.lt_of_lt_of_le (by have := World.block_lt_of_cell? _ _ hw286_1; first | rwa [add_block] at this | exact this) GW298.out) | (rw [add_block]; exact Nat.ne_of_lt (Nat.lt_of_lt_of_le (by have := World.block_lt_of_cell? _ _ hw286_1; first | rwa [add_block] at this | exact this) GW298.out)) | (show (Addr.add _ _).block ≠ _; rw [add_block]; exact Nat.ne_of_lt (Nat.lt_of_lt_of_le (by have := World.block_lt_of_cell? _ _ hw286_1; first | rwa [add_block] at this | exact this) GW298.out)) | (dsimp only; exact Nat.ne_of_lt (Nat.lt_of_lt_of_le (by have := World.block_lt_of_cell? _ _ hw286_1; first | rwa [add_block] at this | exact this) GW298.out))) _).trans (((cell_far (p := ⟨gb298, _, none⟩) (by first | exact Nat.ne_of_lt (Nat.lt_of_lt_of_le (by have := World.block_lt_of_cell? _ _ hw286_1; first | rwa [add_block] at this | exact this) GW298.out) | (rw [add_block]; exact Nat.ne_of_lt (Nat.lt_of_lt_of_le (by have := World.block_lt_of_cell? _ _ hw286_1; first | rwa [add_block] at this | exact this) GW298.out)) | (show (Addr.add _ _).block ≠ _; rw [add_block]; exact Nat.ne_of_lt (Nat.lt_of_lt_of_le (by have := World.block_lt_of_cell? _ _ hw286_1; first | rwa [add_block] at this | exact this) GW298.out)) | (dsimp only; exact Nat.ne_of_lt (Nat.lt_of_lt_of_le (by have := World.block_lt_of_cell? _ _ hw286_1; first | rwa [add_block] at this | exact this) GW298.out))) _).trans (((cell_far (p := ⟨gb298, _, none⟩) (by first | exact Nat.ne_of_lt (Nat.lt_of_lt_of_le (by have := World.block_lt_of_cell? _ _ hw286_1; first | rwa [add_block] at this | exact this) GW298.out) | (rw [add_block]; exact Nat.ne_of_lt (Nat.lt_of_lt_of_le (by have := World.block_lt_of_cell? _ _ hw286_1; first | rwa [add_block] at this | exact this) GW298.out)) | (show (Addr.add _ _).block ≠ _; rw [add_block]; exact Nat.ne_of_lt (Nat.lt_of_lt_of_le (by have := World.block_lt_of_cell? _ _ hw286_1; first | rwa [add_block] at this | exact this) GW298.out)) | (dsimp only; exact Nat.ne_of_lt (Nat.lt_of_lt_of_le (by have := World.block_lt_of_cell? _ _ hw286_1; first | rwa [add_block] at this | exact this) GW298.out))) _).trans (((cell_far (p := ⟨gb298, _, none⟩) (by first | exact Nat.ne_of_lt (Nat.lt_of_lt_of_le (by have := World.block_lt_of_cell? _ _ hw286_1; first | rwa [add_block] at this | exact this) GW298.out) | (rw [add_block]; exact Nat.ne_of_lt (Nat.lt_of_lt_of_le (by have := World.block_lt_of_cell? _ _ hw286_1; first | rwa [add_block] at this | exact this) GW298.out)) | (show (Addr.add _ _).block ≠ _; rw [add_block]; exact Nat.ne_of_lt (Nat.lt_of_lt_of_le (by have := World.block_lt_of_cell? _ _ hw286_1; first | rwa [add_block] at this | exact this) GW298.out)) | (dsimp only; exact Nat.ne_of_lt (Nat.lt_of_lt_of_le (by have := World.block_lt_of_cell? _ _ hw286_1; first | rwa [add_block] at this | exact this) GW298.out))) _).trans (((cell_far (p := ⟨gb298, _, none⟩) (by first | exact Nat.ne_of_lt (Nat.lt_of_lt_of_le (by have := World.block_lt_of_cell? _ _ hw286_1; first | rwa [add_block] at this | exact this) GW298.out) | (rw [add_block]; exact Nat.ne_of_lt (Nat.lt_of_lt_of_le (by have := World.block_lt_of_cell? _ _ hw286_1; first | rwa [add_block] at this | exact this) GW298.out)) | (show (Addr.add _ _).block ≠ _; rw [add_block]; exact Nat.ne_of_lt (Nat.lt_of_lt_of_le (by have := World.block_lt_of_cell? _ _ hw286_1; first | rwa [add_block] at this | exact this) GW298.out)) | (dsimp only; exact Nat.ne_of_lt (Nat.lt_of_lt_of_le (by have := World.block_lt_of_cell? _ _ hw286_1; first | rwa [add_block] at this | exact this) GW298.out))) _).trans (hHeld.2.2.2.2.2.2.1)))))))))), ((cell_far (p := ⟨gb298, _, none⟩) (by first | exact Nat.ne_of_lt (Nat.lt_of_lt_of_le (by have := World.block_lt_of_cell? _ _ hw287_0; first | rwa [add_block] at this | exact this) GW298.out) | (rw [add_block]; exact Nat.ne_of_lt (Nat.lt_of_lt_of_le (by have := World.block_lt_of_cell? _ _ hw287_0; first | rwa [add_block] at this | exact this) GW298.out)) | (show (Addr.add _ _).block ≠ _; rw [add_block]; exact Nat.ne_of_lt (Nat.lt_of_lt_of_le (by have := World.block_lt_of_cell? _ _ hw287_0; first | rwa [add_block] at this | exact this) GW298.out)) | (dsimp only; exact Nat.ne_of_lt (Nat.lt_of_lt_of_le (by have := World.block_lt_of_cell? _ _ hw287_0; first | rwa [add_block] at this | exact this) GW298.out))) _).trans (((cell_far (p := ⟨gb298, _, none⟩) (by first | exact Nat.ne_of_lt (Nat.lt_of_lt_of_le (by have := World.block_lt_of_cell? _ _ hw287_0; first | rwa [add_block] at this | exact this) GW298.out) | (rw [add_block]; exact Nat.ne_of_lt (Nat.lt_of_lt_of_le (by have := World.block_lt_of_cell? _ _ hw287_0; first | rwa [add_block] at this | exact this) GW298.out)) | (show (Addr.add _ _).block ≠ _; rw [add_block]; exact Nat.ne_of_lt (Nat.lt_of_lt_of_le (by have := World.block_lt_of_cell? _ _ hw287_0; first | rwa [add_block] at this | exact this) GW298.out)) | (dsimp only; exact Nat.ne_of_lt (Nat.lt_of_lt_of_le (by have := World.block_lt_of_cell? _ _ hw287_0; first | rwa [add_block] at this | exact this) GW298.out))) _).trans (((cell_far (p := ⟨gb298, _, none⟩) (by first | exact Nat.ne_of_lt (Nat.lt_of_lt_of_le (by have := World.block_lt_of_cell? _ _ hw287_0; first | rwa [add_block] at this | exact this) GW298.out) | (rw [add_block]; exact Nat.ne_of_lt (Nat.lt_of_lt_of_le (by have := World.block_lt_of_cell? _ _ hw287_0; first | rwa [add_block] at this | exact this) GW298.out)) | (show (Addr.add _ _).block ≠ _; rw [add_block]; exact Nat.ne_of_lt (Nat.lt_of_lt_of_le (by have := World.block_lt_of_cell? _ _ hw287_0; first | rwa [add_block] at this | exact this) GW298.out)) | (dsimp only; exact Nat.ne_of_lt (Nat.lt_of_lt_of_le (by have := World.block_lt_of_cell? _ _ hw287_0; first | rwa [add_block] at this | exact this) GW298.out))) _).trans (((cell_far (p := ⟨gb298, _, none⟩) (by first | exact Nat.ne_of_lt (Nat.lt_of_lt_of_le (by have := World.block_lt_of_cell? _ _ hw287_0; first | rwa [add_block] at this | exact this) GW298.out) | (rw [add_block]; exact Nat.ne_of_lt (Nat.lt_of_lt_of_le (by have := World.block_lt_of_cell? _ _ hw287_0; first | rwa [add_block] at this | exact this) GW298.out)) | (show (Addr.add _ _).block ≠ _; rw [add_block]; exact Nat.ne_of_lt (Nat.lt_of_lt_of_le (by have := World.block_lt_of_cell? _ _ hw287_0; first | rwa [add_block] at this | exact this) GW298.out)) | (dsimp only; exact Nat.ne_of_lt (Nat.lt_of_lt_of_le (by have := World.block_lt_of_cell? _ _ hw287_0; first | rwa [add_block] at this | exact this) GW298.out))) _).trans (((cell_far (p := ⟨gb298, _, none⟩) (by first | exact Nat.ne_of_lt (Nat.lt_of_lt_of_le (by have := World.block_lt_of_cell? _ _ hw287_0; first | rwa [add_block] at this | exact this) GW298.out) | (rw [add_block]; exact Nat.ne_of_lt (Nat.lt_of_lt_of_le (by have := World.block_lt_of_cell? _ _ hw287_0; first | rwa [add_block] at this | exact this) GW298.out)) | (show (Addr.add _ _).block ≠ _; rw [add_block]; exact Nat.ne_of_lt (Nat.lt_of_lt_of_le (by have := World.block_lt_of_cell? _ _ hw287_0; first | rwa [add_block] at this | exact this) GW298.out)) | (dsimp only; exact Nat.ne_of_lt (Nat.lt_of_lt_of_le (by have := World.block_lt_of_cell? _ _ hw287_0; first | rwa [add_block] at this | exact this) GW298.out))) _).trans (hHeld.2.2.2.2.2.2.2.1)))))))))), ((cell_far (p := ⟨gb298, _, none⟩) (by first | exact Nat.ne_of_lt (Nat.lt_of_lt_of_le (by have := World.block_lt_of_cell? _ _ hw287_1; first | rwa [add_block] at this | exact this) GW298.out) | (rw [add_block]; exact Nat.ne_of_lt (Nat.lt_of_lt_of_le (by have := World.block_lt_of_cell? _ _ hw287_1; first | rwa [add_block] at this | exact this) GW298.out)) | (show (Addr.add _ _).block ≠ _; rw [add_block]; exact Nat.ne_of_lt (Nat.lt_of_lt_of_le (by have := World.block_lt_of_cell? _ _ hw287_1; first | rwa [add_block] at this | exact this) GW298.out)) | (dsimp only; exact Nat.ne_of_lt (Nat.lt_of_lt_of_le (by have := World.block_lt_of_cell? _ _ hw287_1; first | rwa [add_block] at this | exact this) GW298.out))) _).trans (((cell_far (p := ⟨gb298, _, none⟩) (by first | exact Nat.ne_of_lt (Nat.lt_of_lt_of_le (by have := World.block_lt_of_cell? _ _ hw287_1; first | rwa [add_block] at this | exact this) GW298.out) | (rw [add_block]; exact Nat.ne_of_lt (Nat.lt_of_lt_of_le (by have := World.block_lt_of_cell? _ _ hw287_1; first | rwa [add_block] at this | exact this) GW298.out)) | (show (Addr.add _ _).block ≠ _; rw [add_block]; exact Nat.ne_of_lt (Nat.lt_of_lt_of_le (by have := World.block_lt_of_cell? _ _ hw287_1; first | rwa [add_block] at this | exact this) GW298.out)) | (dsimp only; exact Nat.ne_of_lt (Nat.lt_of_lt_of_le (by have := World.block_lt_of_cell? _ _ hw287_1; first | rwa [add_block] at this | exact this) GW298.out))) _).trans (((cell_far (p := ⟨gb298, _, none⟩) (by first | exact Nat.ne_of_lt (Nat.lt_of_lt_of_le (by have := World.block_lt_of_cell? _ _ hw287_1; first | rwa [add_block] at this | exact this) GW298.out) | (rw [add_block]; exact Nat.ne_of_lt (Nat.lt_of_lt_of_le (by have := World.block_lt_of_cell? _ _ hw287_1; first | rwa [add_block] at this | exact this) GW298.out)) | (show (Addr.add _ _).block ≠ _; rw [add_block]; exact Nat.ne_of_lt (Nat.lt_of_lt_of_le (by have := World.block_lt_of_cell? _ _ hw287_1; first | rwa [add_block] at this | exact this) GW298.out)) | (dsimp only; exact Nat.ne_of_lt (Nat.lt_of_lt_of_le (by have := World.block_lt_of_cell? _ _ hw287_1; first | rwa [add_block] at this | exact this) GW298.out))) _).trans (((cell_far (p := ⟨gb298, _, none⟩) (by first | exact Nat.ne_of_lt (Nat.lt_of_lt_of_le (by have := World.block_lt_of_cell? _ _ hw287_1; first | rwa [add_block] at this | exact this) GW298.out) | (rw [add_block]; exact Nat.ne_of_lt (Nat.lt_of_lt_of_le (by have := World.block_lt_of_cell? _ _ hw287_1; first | rwa [add_block] at this | exact this) GW298.out)) | (show (Addr.add _ _).block ≠ _; rw [add_block]; exact Nat.ne_of_lt (Nat.lt_of_lt_of_le (by have := World.block_lt_of_cell? _ _ hw287_1; first | rwa [add_block] at this | exact this) GW298.out)) | (dsimp only; exact Nat.ne_of_lt (Nat.lt_of_lt_of_le (by have := World.block_lt_of_cell? _ _ hw287_1; first | rwa [add_block] at this | exact this) GW298.out))) _).trans (((cell_far (p := ⟨gb298, _, none⟩) (by first | exact Nat.ne_of_lt (Nat.lt_of_lt_of_le (by have := World.block_lt_of_cell? _ _ hw287_1; first | rwa [add_block] at this | exact this) GW298.out) | (rw [add_block]; exact Nat.ne_of_lt (Nat.lt_of_lt_of_le (by have := World.block_lt_of_cell? _ _ hw287_1; first | rwa [add_block] at this | exact this) GW298.out)) | (show (Addr.add _ _).block ≠ _; rw [add_block]; exact Nat.ne_of_lt (Nat.lt_of_lt_of_le (by have := World.block_lt_of_cell? _ _ hw287_1; first | rwa [add_block] at this | exact this) GW298.out)) | (dsimp only; exact Nat.ne_of_lt (Nat.lt_of_lt_of_le (by have := World.block_lt_of_cell? _ _ hw287_1; first | rwa [add_block] at this | exact this) GW298.out))) _).trans (hHeld.2.2.2.2.2.2.2.2))))))))))⟩ (fun hHeld => ?_)
            clear hK K
            refine pure_ (i := 17) (N := some 9) (v := ?_) (a' := ?_) #[true, true, true, true, true, true, true, true, true, true, true, true, true, true, true, true, true, true] rfl rfl (any_of HT_.out (by kernel_rfl)) (fun _ _ _ h => h) (Or.inl ⟨by rfl, ?_⟩) ?_ ?_
            rotate_left
            · intro w'
              go_simp
              with_reducible rfl
            rotate_left
            · simp only [Act.put, List.setIfInBounds_toArray, List.set_cons_zero, List.set_cons_succ, i64_w, i32_w]
              rfl
            refine done_ (done_of HT_.out (by kernel_rfl)) ?_
            have hnb28 := NB298_275.out
            have hnc28 := NB275_298.out
            have hnb29 := NB298_285.out
            have hnc29 := NB285_298.out
            have hcz30_0 : w20.cell? ⟨gb298, 0, none⟩ = some (.slice none 0 0) := (blk_cell BK298.out 0).trans rfl
            have hcz30_1 : w20.cell? ⟨gb298, 1, none⟩ = some (.int .i64 0) := (blk_cell BK298.out 1).trans rfl
            have hcz30_2 : w20.cell? ⟨gb298, 2, none⟩ = some (.slice none 0 0) := (blk_cell BK298.out 2).trans rfl
            have hcz30_3 : w20.cell? ⟨gb298, 3, none⟩ = some (.int .i64 0) := (blk_cell BK298.out 3).trans rfl
            have hcz30_4 : w20.cell? ⟨gb298, 4, none⟩ = some (.bool false) := (blk_cell BK298.out 4).trans rfl
            have hfz30_0 := blk_frozen BK298.out 0
            have hfz30_1 := blk_frozen BK298.out 1
            have hfz30_2 := blk_frozen BK298.out 2
            have hfz30_3 := blk_frozen BK298.out 3
            have hfz30_4 := blk_frozen BK298.out 4
            have hnb31 := NB285_275.out
            have hnc31 := NB275_285.out
            have hcz32_0 : w20.cell? ⟨gb285, 0, none⟩ = some (.slice Ao15 x286000_1.length co15) := (blk_cell BK285.out 0).trans rfl
            have hcz32_1 : w20.cell? ⟨gb285, 1, none⟩ = some (.int .i64 x286001_1) := (blk_cell BK285.out 1).trans rfl
            have hcz32_2 : w20.cell? ⟨gb285, 2, none⟩ = some (.slice Ao16 x286002_1.length co16) := (blk_cell BK285.out 2).trans rfl
            have hcz32_3 : w20.cell? ⟨gb285, 3, none⟩ = some (.int .i64 x286003_1) := (blk_cell BK285.out 3).trans rfl
            have hcz32_4 : w20.cell? ⟨gb285, 4, none⟩ = some (.bool x286004_1) := (blk_cell BK285.out 4).trans rfl
            have hfz32_0 := blk_frozen BK285.out 0
            have hfz32_1 := blk_frozen BK285.out 1
            have hfz32_2 := blk_frozen BK285.out 2
            have hfz32_3 := blk_frozen BK285.out 3
            have hfz32_4 := blk_frozen BK285.out 4
            try go_wp2
            go_roundg k1
            case measure => have := HK1.out; omega
            case rel => exact ⟨(wrap64 (x7_1 + 1)), (x276001_1), (x276003_1), (x276004_1), (t288), (t291), (t292), (t295), (t296), (.slice Ao21 t288.length co21), (.slice Ao24 t292.length co24), (by first | rfl | (simp; done) | (simp [*]; done)), H', ⟨by have := HK1.out; omega⟩, ⟨by (with_reducible repeat (first | apply Kd.V_alloc | apply Kd.V_drewN | apply Kd.V_drew)); exact Kd.V_mono (Kd.V_far (p := ⟨gb285, 4, none⟩) (Kd.V_far (p := ⟨gb285, 3, none⟩) (Kd.V_far (p := ⟨gb285, 2, none⟩) (Kd.V_far (p := ⟨gb285, 1, none⟩) (Kd.V_far (p := ⟨gb285, 0, none⟩) (Kd.V_far (p := ⟨gb298, 4, none⟩) (Kd.V_far (p := ⟨gb298, 3, none⟩) (Kd.V_far (p := ⟨gb298, 2, none⟩) (Kd.V_far (p := ⟨gb298, 1, none⟩) (Kd.V_far (p := ⟨gb298, 0, none⟩) (Kd.V_mono (Kd.V_mono HO290.out (fun k_ hk => (⟨hk, hk.2.2.2.2⟩ : _ ∧ k_ ≠ gb298))) (fun k_ hk => (⟨hk, hk.1.2.2.2.1⟩ : _ ∧ k_ ≠ gb285))) (fun _ hk => hk.1.2) (.slice Ao21 t288.length co21)) (fun _ hk => hk.1.2) (.int .i64 t291)) (fun _ hk => hk.1.2) (.slice Ao24 t292.length co24)) (fun _ hk => hk.1.2) (.int .i64 t295)) (fun _ hk => hk.1.2) (.bool t296)) (fun _ hk => hk.2) (.slice Ao21 t288.length co21)) (fun _ hk => hk.2) (.int .i64 t291)) (fun _ hk => hk.2) (.slice Ao24 t292.length co24)) (fun _ hk => hk.2) (.int .i64 t295)) (fun _ hk => hk.2) (.bool t296)) (fun _ hk => ⟨hk.1.1.1, ⟨hk.1.1.2.1, ⟨hk.1.1.2.2.1, hk.1.1.2.2.2.1⟩⟩⟩)⟩, ⟨by (with_reducible repeat (first | apply Kd.R_alloc | apply Kd.R_drewN | apply Kd.R_drew)); exact Kd.R_mono (Kd.R_far (p := ⟨gb285, 4, none⟩) (Kd.R_far (p := ⟨gb285, 3, none⟩) (Kd.R_far (p := ⟨gb285, 2, none⟩) (Kd.R_far (p := ⟨gb285, 1, none⟩) (Kd.R_far (p := ⟨gb285, 0, none⟩) (Kd.R_far (p := ⟨gb298, 4, none⟩) (Kd.R_far (p := ⟨gb298, 3, none⟩) (Kd.R_far (p := ⟨gb298, 2, none⟩) (Kd.R_far (p := ⟨gb298, 1, none⟩) (Kd.R_far (p := ⟨gb298, 0, none⟩) (Kd.R_types (Kd.R_types HO294.out BK298.out (by decide)) BK285.out (by decide)) (fun _ hk => hk.1.2) (.slice Ao21 t288.length co21)) (fun _ hk => hk.1.2) (.int .i64 t291)) (fun _ hk => hk.1.2) (.slice Ao24 t292.length co24)) (fun _ hk => hk.1.2) (.int .i64 t295)) (fun _ hk => hk.1.2) (.bool t296)) (fun _ hk => hk.2) (.slice Ao21 t288.length co21)) (fun _ hk => hk.2) (.int .i64 t291)) (fun _ hk => hk.2) (.slice Ao24 t292.length co24)) (fun _ hk => hk.2) (.int .i64 t295)) (fun _ hk => hk.2) (.bool t296)) (fun _ hk => hk.1.1)⟩, ⟨by (with_reducible repeat (first | refine blk_drewN ?_ _ | refine blk_drew ?_ | refine blk_alloc ?_ _)); refine blk_far ?_ NB275_285.out _; (with_reducible repeat (first | refine blk_drewN ?_ _ | refine blk_drew ?_ | refine blk_alloc ?_ _)); refine blk_far ?_ NB275_285.out _; (with_reducible repeat (first | refine blk_drewN ?_ _ | refine blk_drew ?_ | refine blk_alloc ?_ _)); refine blk_far ?_ NB275_285.out _; (with_reducible repeat (first | refine blk_drewN ?_ _ | refine blk_drew ?_ | refine blk_alloc ?_ _)); refine blk_far ?_ NB275_285.out _; (with_reducible repeat (first | refine blk_drewN ?_ _ | refine blk_drew ?_ | refine blk_alloc ?_ _)); refine blk_far ?_ NB275_285.out _; (with_reducible repeat (first | refine blk_drewN ?_ _ | refine blk_drew ?_ | refine blk_alloc ?_ _)); refine blk_far ?_ NB275_298.out _; (with_reducible repeat (first | refine blk_drewN ?_ _ | refine blk_drew ?_ | refine blk_alloc ?_ _)); refine blk_far ?_ NB275_298.out _; (with_reducible repeat (first | refine blk_drewN ?_ _ | refine blk_drew ?_ | refine blk_alloc ?_ _)); refine blk_far ?_ NB275_298.out _; (with_reducible repeat (first | refine blk_drewN ?_ _ | refine blk_drew ?_ | refine blk_alloc ?_ _)); refine blk_far ?_ NB275_298.out _; (with_reducible repeat (first | refine blk_drewN ?_ _ | refine blk_drew ?_ | refine blk_alloc ?_ _)); refine blk_far ?_ NB275_298.out _; (with_reducible repeat (first | refine blk_drewN ?_ _ | refine blk_drew ?_ | refine blk_alloc ?_ _)); exact BK275.out⟩, ⟨by (with_reducible repeat (first | refine blk_drewN ?_ _ | refine blk_drew ?_ | refine blk_alloc ?_ _)); refine blk_put (cs := #[.slice Ao21 t288.length co21, .int .i64 t291, .slice Ao24 t292.length co24, .int .i64 t295, .bool x286004_1]) ?_ 4 _ rfl; (with_reducible repeat (first | refine blk_drewN ?_ _ | refine blk_drew ?_ | refine blk_alloc ?_ _)); refine blk_put (cs := #[.slice Ao21 t288.length co21, .int .i64 t291, .slice Ao24 t292.length co24, .int .i64 x286003_1, .bool x286004_1]) ?_ 3 _ rfl; (with_reducible repeat (first | refine blk_drewN ?_ _ | refine blk_drew ?_ | refine blk_alloc ?_ _)); refine blk_put (cs := #[.slice Ao21 t288.length co21, .int .i64 t291, .slice Ao16 x286002_1.length co16, .int .i64 x286003_1, .bool x286004_1]) ?_ 2 _ rfl; (with_reducible repeat (first | refine blk_drewN ?_ _ | refine blk_drew ?_ | refine blk_alloc ?_ _)); refine blk_put (cs := #[.slice Ao21 t288.length co21, .int .i64 x286001_1, .slice Ao16 x286002_1.length co16, .int .i64 x286003_1, .bool x286004_1]) ?_ 1 _ rfl; (with_reducible repeat (first | refine blk_drewN ?_ _ | refine blk_drew ?_ | refine blk_alloc ?_ _)); refine blk_put (cs := #[.slice Ao15 x286000_1.length co15, .int .i64 x286001_1, .slice Ao16 x286002_1.length co16, .int .i64 x286003_1, .bool x286004_1]) ?_ 0 _ rfl; (with_reducible repeat (first | refine blk_drewN ?_ _ | refine blk_drew ?_ | refine blk_alloc ?_ _)); refine blk_far ?_ NB285_298.out _; (with_reducible repeat (first | refine blk_drewN ?_ _ | refine blk_drew ?_ | refine blk_alloc ?_ _)); refine blk_far ?_ NB285_298.out _; (with_reducible repeat (first | refine blk_drewN ?_ _ | refine blk_drew ?_ | refine blk_alloc ?_ _)); refine blk_far ?_ NB285_298.out _; (with_reducible repeat (first | refine blk_drewN ?_ _ | refine blk_drew ?_ | refine blk_alloc ?_ _)); refine blk_far ?_ NB285_298.out _; (with_reducible repeat (first | refine blk_drewN ?_ _ | refine blk_drew ?_ | refine blk_alloc ?_ _)); refine blk_far ?_ NB285_298.out _; (with_reducible repeat (first | refine blk_drewN ?_ _ | refine blk_drew ?_ | refine blk_alloc ?_ _)); exact BK285.out⟩, ⟨by repeat (first | (with_reducible first | exact HB.out | apply below_alloc | apply pw_below_drewN | apply below_drew1 | refine below_set ?_ GE275.out | refine below_set ?_ GE285.out | refine below_set ?_ GE298.out) | exact HB.out)⟩⟩
          · rw [if_neg c14] at H
            have c14b0 : (t297 == 0) = false := beq_eq_false_iff_ne.mpr c14
            have c14b1 : (t297 != 0) = true := bne_iff_ne.mpr c14
            simp only [Option.some.injEq, Prod.mk.injEq] at H
            obtain ⟨rfl, rfl, rfl, rfl, rfl, rfl⟩ := H
            obtain ⟨Ao33, co33, eo33⟩ := Kd.V_slice HO_286000.out
            subst eo33
            obtain ⟨Ao34, co34, eo34⟩ := Kd.R_slice HO_286002.out
            subst eo34
            try go_wp2
            have n0_ := Aside0.mk (Kd.V_drew HO_286000.out)
            have n1_ := Aside0.mk (Kd.R_drew HO_286002.out)
            have n2_ := Aside0.mk (blk_drew BK275.out)
            have n3_ := Aside0.mk (blk_drew BK285.out)
            have n4_ := Aside0.mk (below_drew1 HB.out)
            clear HO_286000
            clear HO_286002
            clear BK275
            clear BK285
            clear HB
            have HO_286000 := n0_
            have HO_286002 := n1_
            have BK275 := n2_
            have BK285 := n3_
            have HB := n4_
            clear n0_ n1_ n2_ n3_ n4_
            have p286 : 0 ≤ (x7_1 : Int) := of_decide_eq_true (by first | (with_reducible assumption) | assumption)
            have q286 : x7_1 < (l1.length : Int) := of_decide_eq_true (by first | (with_reducible assumption) | assumption)
            obtain ⟨ad286, A286_1, c286_1, e286, hx286_0, hx286_1, hl286_1, hi286_1⟩ := at_T45 HR1.out x7_1 p286 q286
            have hw286_1 := hx286_1
            have hw286_0 := hx286_0
            cases e286
            replace hx286_0 := (HB.out.cell (World.block_lt_of_cell? w _ hx286_0)).trans hx286_0
            replace hx286_1 := (HB.out.cell (World.block_lt_of_cell? w _ hx286_1)).trans hx286_1
            have HR286_1 := Aside0.mk hi286_1
            have HC286_1 := Aside0.mk hl286_1
            clear hi286_1 hl286_1
            replace p286 := eq_true p286
            replace q286 := eq_true q286
            have p287 : 0 ≤ (x7_1 : Int) := of_decide_eq_true (by first | (with_reducible assumption) | assumption)
            have q287 : x7_1 < (l1.length : Int) := of_decide_eq_true (by first | (with_reducible assumption) | assumption)
            obtain ⟨ad287, A287_1, c287_1, e287, hx287_0, hx287_1, hl287_1, hi287_1⟩ := at_T45 HR1.out x7_1 p287 q287
            have hw287_1 := hx287_1
            have hw287_0 := hx287_0
            obtain rfl : ad286 = ad287 := (by injection e287)
            replace hx287_0 := (HB.out.cell (World.block_lt_of_cell? w _ hx287_0)).trans hx287_0
            replace hx287_1 := (HB.out.cell (World.block_lt_of_cell? w _ hx287_1)).trans hx287_1
            have HR287_1 := Aside0.mk hi287_1
            have HC287_1 := Aside0.mk hl287_1
            clear hi287_1 hl287_1
            replace p287 := eq_true p287
            replace q287 := eq_true q287
            have ea_ := Option.some.inj (hx286_1.symm.trans hx287_1)
            injection ea_ with ea_ en_ ec_
            subst ea_
            subst ec_
            clear en_
            refine start_ (n := 18) (S := fun w' => w'.cell? ⟨gb285, 0, none⟩ = some (.slice Ao33 x286000_1.length co33) ∧ w'.cell? ⟨gb285, 1, none⟩ = some (.int .i64 x286001_1) ∧ w'.cell? ⟨gb285, 2, none⟩ = some (.slice Ao34 x286002_1.length co34) ∧ w'.cell? ⟨gb285, 3, none⟩ = some (.int .i64 x286003_1) ∧ w'.cell? ⟨gb285, 4, none⟩ = some (.bool x286004_1) ∧ w'.cell? (ad286.add ((x7_1).toNat * 2)) = some (.string ((rd_T45 l1 x7_1).f0)) ∧ w'.cell? ⟨(ad286.add ((x7_1).toNat * 2)).block, (ad286.add ((x7_1).toNat * 2)).off + 1, none⟩ = some (.slice A286_1 ((rd_T45 l1 x7_1).f1).length c286_1) ∧ w'.cell? (ad286.add ((x7_1).toNat * 2)) = some (.string ((rd_T45 l1 x7_1).f0)) ∧ w'.cell? ⟨(ad286.add ((x7_1).toNat * 2)).block, (ad286.add ((x7_1).toNat * 2)).off + 1, none⟩ = some (.slice A286_1 ((rd_T45 l1 x7_1).f1).length c286_1)) (ds := []) #[false, false, false, false, false, false, false, false, false, false, false, false, false, false, false, false, false, false] (by kernel_rfl) rfl rfl ⟨(blk_cell BK285.out 0).trans rfl, (blk_cell BK285.out 1).trans rfl, (blk_cell BK285.out 2).trans rfl, (blk_cell BK285.out 3).trans rfl, (blk_cell BK285.out 4).trans rfl, ((HB.out.cell (World.block_lt_of_cell? w _ hw286_0)).trans hw286_0), ((HB.out.cell (World.block_lt_of_cell? w _ hw286_1)).trans hw286_1), ((HB.out.cell (World.block_lt_of_cell? w _ hw287_0)).trans hw287_0), ((HB.out.cell (World.block_lt_of_cell? w _ hw287_1)).trans hw287_1)⟩ (fun hHeld => ?_); refine with_tabW leatref18_Load.tab5 leatref18_Load.bits5 (fun HT_ HW_ => ?_)
            generalize wr.drew = w35 at HO_286000 HO_286002 BK275 BK285 HB HR286_1 HR287_1 hx286_0 hx286_1 hx287_0 hx287_1 hHeld ⊢
            refine pure_ (i := 1) (N := some 20) (v := ?_) (a' := ?_) #[false, true, false, false, false, false, false, false, false, false, false, false, false, false, false, false, false, false] rfl rfl (any_of HT_.out (by kernel_rfl)) (fun _ _ _ h => h) (Or.inl ⟨by rfl, ?_⟩) ?_ ?_
            rotate_left
            · intro w'
              go_simp
              with_reducible rfl
            rotate_left
            · simp only [Act.put, List.setIfInBounds_toArray, List.set_cons_zero, List.set_cons_succ, i64_w, i32_w]
              rfl
            refine pure_ (i := 2) (N := some 21) (v := ?_) (a' := ?_) #[false, true, true, false, false, false, false, false, false, false, false, false, false, false, false, false, false, false] rfl rfl (any_of HT_.out (by kernel_rfl)) (fun _ _ _ h => h) (Or.inl ⟨by rfl, ?_⟩) ?_ ?_
            rotate_left
            · intro w'
              go_simp
              with_reducible rfl
            rotate_left
            · simp only [Act.put, List.setIfInBounds_toArray, List.set_cons_zero, List.set_cons_succ, i64_w, i32_w]
              rfl
            refine pure_ (i := 3) (N := some 22) (v := ?_) (a' := ?_) #[false, true, true, true, false, false, false, false, false, false, false, false, false, false, false, false, false, false] rfl rfl (any_of HT_.out (by kernel_rfl)) (fun _ _ _ h => h) (Or.inl ⟨by rfl, ?_⟩) ?_ ?_
            rotate_left
            · intro w'
              go_simp
              with_reducible rfl
            rotate_left
            · simp only [Act.put, List.setIfInBounds_toArray, List.set_cons_zero, List.set_cons_succ, i64_w, i32_w]
              rfl
            refine pure_ (i := 4) (N := some 23) (v := ?_) (a' := ?_) #[false, true, true, true, true, false, false, false, false, false, false, false, false, false, false, false, false, false] rfl rfl (any_of HT_.out (by kernel_rfl)) (fun _ _ _ h => h) (Or.inl ⟨by rfl, ?_⟩) ?_ ?_
            rotate_left
            · intro w'
              go_simp
              with_reducible rfl
            rotate_left
            · simp only [Act.put, List.setIfInBounds_toArray, List.set_cons_zero, List.set_cons_succ, i64_w, i32_w]
              rfl
            refine pure_ (i := 6) (N := some 25) (v := ?_) (a' := ?_) #[false, true, true, true, true, false, true, false, false, false, false, false, false, false, false, false, false, false] rfl rfl (any_of HT_.out (by kernel_rfl)) (fun _ _ _ h => h) (Or.inl ⟨by rfl, ?_⟩) ?_ ?_
            rotate_left
            · intro w'
              go_simp
              with_reducible rfl
            rotate_left
            · simp only [Act.put, List.setIfInBounds_toArray, List.set_cons_zero, List.set_cons_succ, i64_w, i32_w]
              rfl
            refine pure_ (i := 7) (N := some 26) (v := ?_) (a' := ?_) #[false, true, true, true, true, false, true, true, false, false, false, false, false, false, false, false, false, false] rfl rfl (any_of HT_.out (by kernel_rfl)) (fun _ _ _ h => h) (Or.inl ⟨by rfl, ?_⟩) ?_ ?_
            rotate_left
            · intro w'
              go_simp
              with_reducible rfl
            rotate_left
            · simp only [Act.put, List.setIfInBounds_toArray, List.set_cons_zero, List.set_cons_succ, i64_w, i32_w]
              rfl
            refine pure_ (i := 8) (N := some 27) (v := ?_) (a' := ?_) #[false, true, true, true, true, false, true, true, true, false, false, false, false, false, false, false, false, false] rfl rfl (any_of HT_.out (by kernel_rfl)) (fun _ _ _ h => h) (Or.inl ⟨by rfl, ?_⟩) ?_ ?_
            rotate_left
            · intro w'
              go_simp
              with_reducible rfl
            rotate_left
            · simp only [Act.put, List.setIfInBounds_toArray, List.set_cons_zero, List.set_cons_succ, i64_w, i32_w]
              rfl
            refine pure_ (i := 9) (N := some 28) (v := ?_) (a' := ?_) #[false, true, true, true, true, false, true, true, true, true, false, false, false, false, false, false, false, false] rfl rfl (any_of HT_.out (by kernel_rfl)) (fun _ _ _ h => h) (Or.inl ⟨by rfl, ?_⟩) ?_ ?_
            rotate_left
            · intro w'
              go_simp
              with_reducible rfl
            rotate_left
            · simp only [Act.put, List.setIfInBounds_toArray, List.set_cons_zero, List.set_cons_succ, i64_w, i32_w]
              rfl
            refine take_ (i := 0) (N := some 19) (v := ?_) (a' := ?_) #[true, true, true, true, true, false, true, true, true, true, false, false, false, false, false, false, false, false] rfl rfl (take_ofW HT_.out HW_.out (by kernel_rfl)) (fun _ _ _ h => h) (Or.inl ⟨by rfl, ?_⟩) hHeld ?_ ?_
            rotate_left
            · rintro w' ⟨s0, s1, s2, s3, s4, s5, s6, s7, s8⟩
              go_simp
              with_reducible rfl
            rotate_left
            · simp only [Act.put, List.setIfInBounds_toArray, List.set_cons_zero, List.set_cons_succ, i64_w, i32_w]
              rfl
            refine take_ (i := 5) (N := some 24) (v := ?_) (a' := ?_) #[true, true, true, true, true, true, true, true, true, true, false, false, false, false, false, false, false, false] rfl rfl (take_ofW HT_.out HW_.out (by kernel_rfl)) (fun _ _ _ h => h) (Or.inl ⟨by rfl, ?_⟩) hHeld ?_ ?_
            rotate_left
            · rintro w' ⟨s0, s1, s2, s3, s4, s5, s6, s7, s8⟩
              go_simp
              with_reducible rfl
            rotate_left
            · simp only [Act.put, List.setIfInBounds_toArray, List.set_cons_zero, List.set_cons_succ, i64_w, i32_w]
              rfl
            refine take_ (i := 10) (N := some 29) (v := ?_) (a' := ?_) #[true, true, true, true, true, true, true, true, true, true, true, false, false, false, false, false, false, false] rfl rfl (take_ofW HT_.out HW_.out (by kernel_rfl)) (fun _ _ _ h => h) (Or.inl ⟨by rfl, ?_⟩) hHeld ?_ ?_
            rotate_left
            · rintro w' ⟨s0, s1, s2, s3, s4, s5, s6, s7, s8⟩
              go_simp
              with_reducible rfl
            rotate_left
            · simp only [Act.put, List.setIfInBounds_toArray, List.set_cons_zero, List.set_cons_succ, i64_w, i32_w]
              rfl
            refine join_ (σ := Value × Value × Nat) 2 #[true, true, true, true, true, true, true, true, true, true, true, true, true, true, true, true, false, false] (fun s_ => [(30, .tuple #[.agg #[s_.1, .int .i64 t291, s_.2.1, .int .i64 t295, .bool t296], .int .i64 t297]), (8, .pointer (some ⟨s_.2.2, 0, none⟩)), (18, .tuple #[.agg #[s_.1, .int .i64 t291, s_.2.1, .int .i64 t295, .bool t296], .int .i64 t297]), (31, .agg #[s_.1, .int .i64 t291, s_.2.1, .int .i64 t295, .bool t296]), (32, .int .i64 t297)]) (fun s_ w' => (w'.cell? ⟨gb285, 0, none⟩ = some (.slice Ao33 x286000_1.length co33) ∧ w'.cell? ⟨gb285, 1, none⟩ = some (.int .i64 x286001_1) ∧ w'.cell? ⟨gb285, 2, none⟩ = some (.slice Ao34 x286002_1.length co34) ∧ w'.cell? ⟨gb285, 3, none⟩ = some (.int .i64 x286003_1) ∧ w'.cell? ⟨gb285, 4, none⟩ = some (.bool x286004_1) ∧ w'.cell? (ad286.add ((x7_1).toNat * 2)) = some (.string ((rd_T45 l1 x7_1).f0)) ∧ w'.cell? ⟨(ad286.add ((x7_1).toNat * 2)).block, (ad286.add ((x7_1).toNat * 2)).off + 1, none⟩ = some (.slice A286_1 ((rd_T45 l1 x7_1).f1).length c286_1) ∧ w'.cell? (ad286.add ((x7_1).toNat * 2)) = some (.string ((rd_T45 l1 x7_1).f0)) ∧ w'.cell? ⟨(ad286.add ((x7_1).toNat * 2)).block, (ad286.add ((x7_1).toNat * 2)).off + 1, none⟩ = some (.slice A286_1 ((rd_T45 l1 x7_1).f1).length c286_1)) ∧ (Kd.V k94 94 w' w.heap.size (fun k_ => (w.heap.size ≤ k_) ∧ some k_ ≠ (s_.2.1 : Value).ownBlock ∧ k_ ≠ gb275 ∧ k_ ≠ gb285 ∧ k_ ≠ s_.2.2) s_.1 t288) ∧ (Kd.R k26 26 w' w.heap.size (fun k_ => (w.heap.size ≤ k_)) s_.2.1 t292) ∧ (Kd.V k94 94 w' w.heap.size (fun k_ => (w.heap.size ≤ k_) ∧ some k_ ≠ (s_.2.1 : Value).ownBlock ∧ k_ ≠ gb275 ∧ k_ ≠ gb285 ∧ k_ ≠ s_.2.2) (.slice Ao33 x286000_1.length co33) x286000_1) ∧ (w'.heap[gb275]? = some (.cells #[.slice none 0 0, .int .i64 x276001_1, .slice none 0 0, .int .i64 x276003_1, .bool x276004_1] 40 (0, 0))) ∧ (w'.heap[gb285]? = some (.cells #[.slice Ao33 x286000_1.length co33, .int .i64 x286001_1, .slice Ao34 x286002_1.length co34, .int .i64 x286003_1, .bool x286004_1] 40 (0, 0))) ∧ (w'.heap[s_.2.2]? = some (.cells #[.slice none 0 0, .int .i64 0, .slice none 0 0, .int .i64 0, .bool false] 40 (0, 0))) ∧ (w.heap.size ≤ s_.2.2) ∧ (w.heap.size ≤ s_.2.2) ∧ (gb275 ≠ s_.2.2) ∧ (s_.2.2 ≠ gb275) ∧ (gb285 ≠ s_.2.2) ∧ (s_.2.2 ≠ gb285) ∧ (Below w.heap.size w w')) ?_ ?_
            rotate_left
            · intro hCont
              refine two_ (i := 11) (j := 15) (Ni := some 30) (Nj := some 8) #[true, true, true, true, true, true, true, true, true, true, true, true, false, false, false, false, false, false] #[true, true, true, true, true, true, true, true, true, true, true, false, false, false, false, true, false, false] rfl rfl rfl rfl (two_of HT_.out (by kernel_rfl)) (by decide) (by decide) (fun K hK => ?_) (fun K hK => ?_)
              · skip
                refine goes_ Try.func49 (by kernel_rfl) rfl #[.agg #[.slice Ao33 x286000_1.length co33, .int .i64 x286001_1, .slice Ao34 x286002_1.length co34, .int .i64 x286003_1, .bool x286004_1], .string ((rd_T45 l1 x7_1).f0), .slice A286_1 ((rd_T45 l1 x7_1).f1).length c286_1] (by rfl) rfl rfl (by (try simp only [List.map_toArray, List.map_cons, List.map_nil]); first | done | rfl | (simp only [List.length_drop, List.length_take]; rfl)) ?_
                with_reducible refine (leatref18_made.calls k1 (fun k_ => ((w.heap.size ≤ k_) ∧ (some k_ ≠ (.slice Ao34 x286002_1.length co34 : Value).ownBlock ∧ (k_ ≠ gb275 ∧ k_ ≠ gb285)))) _ _ x286000_1 x286001_1 (fun k_ => some k_ = (.slice Ao34 x286002_1.length co34 : Value).ownBlock) (.slice Ao34 x286002_1.length co34) x286002_1 x286003_1 x286004_1 ((rd_T45 l1 x7_1).f0) _ _ ((rd_T45 l1 x7_1).f1) t288 t291 t292 t295 t296 t297 w _ ?side1 ?side2 ?side3 ?side4 ?side5 A13.out).mono ?_
                (case side1 => repeat (first | (with_reducible first | exact HB.out | apply below_alloc | apply pw_below_drewN | apply below_drew1 | refine below_set ?_ GE275.out | refine below_set ?_ GE285.out) | exact HB.out))
                (case side2 => exact Kd.V_mono (HO_286000.out) (fun k_ hk_ => ⟨hk_, hk_.2.1⟩))
                (case side3 => exact Kd.R_tight rfl HO_286002.out)
                (case side4 => exact Kd.C_kept_came (Kd.heap_int .u8) HR287_1.out (by repeat (first | (with_reducible first | exact HB.out | apply below_alloc | apply pw_below_drewN | apply below_drew1 | refine below_set ?_ GE275.out | refine below_set ?_ GE285.out) | exact HB.out)) (fun k_ hs_ => (fun e_ => Kd.R_base HO_286002.out k_ e_.symm) hs_))
                (case side5 => exact HC287_1.out)
                rintro e w36 ⟨v289, v293, rfl, ho0, ho1, hb, hkp⟩
                refine ⟨_, rfl, ?_⟩
                have n0_ := Aside0.mk (Kd.V_mono (ok' := fun k_ => (w.heap.size ≤ k_) ∧ k_ ≠ gb275 ∧ k_ ≠ gb285 ∧ some k_ ≠ (v293 : Value).ownBlock) (Kd.V_keptB (HO_286000.out) hkp (fun k_ hk_ hs_ => (hk_.2.1) hs_)) (fun k_ hk_ => ⟨hk_.1.1, hk_.1.2.2.1, hk_.1.2.2.2, fun e_ => Or.elim (ho1.1 k_ e_.symm) (fun hs_ => hk_.2.1 hs_) (fun hn_ => Nat.not_le.2 hk_.2.2 hn_)⟩))
                have n1_ := Aside0.mk (blk_kept (by (with_reducible repeat (first | refine blk_drewN ?_ _ | refine blk_drew ?_ | refine blk_alloc ?_ _)); exact BK275.out) hkp (fun hs_ => (fun e_ => (Kd.R_ne HO_286002.out BK275.out (by decide)) e_) hs_))
                have n2_ := Aside0.mk (blk_kept (by (with_reducible repeat (first | refine blk_drewN ?_ _ | refine blk_drew ?_ | refine blk_alloc ?_ _)); exact BK285.out) hkp (fun hs_ => (fun e_ => (Kd.R_ne HO_286002.out BK285.out (by decide)) e_) hs_))
                have n3_ := Aside0.mk (Kd.V_mono (ok' := fun k_ => (w.heap.size ≤ k_) ∧ some k_ ≠ (v293 : Value).ownBlock ∧ k_ ≠ gb275 ∧ k_ ≠ gb285) ho0 (fun k_ hk_ => ⟨Or.elim hk_.1 (fun hs_ => Or.elim hs_ (fun hs_ => (HO_286002.out.1 k_ (hs_).symm)) (fun hs_ => hs_.1)) (fun hn_ => (Nat.le_trans (below_size (by repeat (first | (with_reducible first | exact HB.out | apply below_alloc | apply pw_below_drewN | apply below_drew1 | refine below_set ?_ GE275.out | refine below_set ?_ GE285.out) | exact HB.out))) hn_)), hk_.2, Or.elim hk_.1 (fun hs_ => Or.elim hs_ (fun hs_ => fun e_ => (Kd.R_ne HO_286002.out BK275.out (by decide)) (by rw [← e_]; exact hs_)) (fun hs_ => hs_.2.2.1)) (fun hn_ => (Kd.freshB (g := gb275) (o := .cells #[.slice none 0 0, .int .i64 x276001_1, .slice none 0 0, .int .i64 x276003_1, .bool x276004_1] 40 (0, 0)) (by (with_reducible repeat (first | refine blk_drewN ?_ _ | refine blk_drew ?_ | refine blk_alloc ?_ _)); exact BK275.out) k_ hn_)), Or.elim hk_.1 (fun hs_ => Or.elim hs_ (fun hs_ => fun e_ => (Kd.R_ne HO_286002.out BK285.out (by decide)) (by rw [← e_]; exact hs_)) (fun hs_ => hs_.2.2.2)) (fun hn_ => (Kd.freshB (g := gb285) (o := .cells #[.slice Ao33 x286000_1.length co33, .int .i64 x286001_1, .slice Ao34 x286002_1.length co34, .int .i64 x286003_1, .bool x286004_1] 40 (0, 0)) (by (with_reducible repeat (first | refine blk_drewN ?_ _ | refine blk_drew ?_ | refine blk_alloc ?_ _)); exact BK285.out) k_ hn_))⟩))
                have n4_ := Aside0.mk (Kd.R_mono (ok' := fun k_ => (w.heap.size ≤ k_)) ho1 (fun k_ hk_ => Or.elim hk_ (fun hs_ => (HO_286002.out.1 k_ (hs_).symm)) (fun hn_ => (Nat.le_trans (below_size (by repeat (first | (with_reducible first | exact HB.out | apply below_alloc | apply pw_below_drewN | apply below_drew1 | refine below_set ?_ GE275.out | refine below_set ?_ GE285.out) | exact HB.out))) hn_))))
                have n5_ := Aside0.mk (hb)
                clear HO_286000
                clear BK275
                clear BK285
                clear HB
                clear HO_286002
                have HO_286000 := n0_
                have BK275 := n1_
                have BK285 := n2_
                have HO290 := n3_
                have HO294 := n4_
                have HB := n5_
                clear n0_ n1_ n2_ n3_ n4_ n5_
                (try clear hb)
                (try clear hkp)
                (try clear ho0)
                (try clear ho1)
                refine hK.out _ _ ⟨(blk_cell BK285.out 0).trans rfl, (blk_cell BK285.out 1).trans rfl, (blk_cell BK285.out 2).trans rfl, (blk_cell BK285.out 3).trans rfl, (blk_cell BK285.out 4).trans rfl, ((HB.out.cell (World.block_lt_of_cell? w _ hw286_0)).trans hw286_0), ((HB.out.cell (World.block_lt_of_cell? w _ hw286_1)).trans hw286_1), ((HB.out.cell (World.block_lt_of_cell? w _ hw287_0)).trans hw287_0), ((HB.out.cell (World.block_lt_of_cell? w _ hw287_1)).trans hw287_1)⟩ (fun hHeld => ?_)
                clear hK K
                refine norm_ (a' := ?_) ?_ ?_
                rotate_left
                · show Act.put _ (some 30) _ = _
                  simp only [Act.put, List.setIfInBounds_toArray, List.set_cons_zero, List.set_cons_succ, i64_w, i32_w]
                  rfl
                refine pure_ (i := 12) (N := some 18) (v := ?_) (a' := ?_) #[true, true, true, true, true, true, true, true, true, true, true, true, true, false, false, false, false, false] rfl rfl (any_of HT_.out (by kernel_rfl)) (fun _ _ _ h => h) (Or.inl ⟨by rfl, ?_⟩) ?_ ?_
                rotate_left
                · intro w'
                  go_simp
                  with_reducible rfl
                rotate_left
                · simp only [Act.put, List.setIfInBounds_toArray, List.set_cons_zero, List.set_cons_succ, i64_w, i32_w]
                  rfl
                refine pure_ (i := 13) (N := some 31) (v := ?_) (a' := ?_) #[true, true, true, true, true, true, true, true, true, true, true, true, true, true, false, false, false, false] rfl rfl (any_of HT_.out (by kernel_rfl)) (fun _ _ _ h => h) (Or.inl ⟨by rfl, ?_⟩) ?_ ?_
                rotate_left
                · intro w'
                  go_simp
                  with_reducible rfl
                rotate_left
                · simp only [Act.put, List.setIfInBounds_toArray, List.set_cons_zero, List.set_cons_succ, i64_w, i32_w]
                  rfl
                refine pure_ (i := 14) (N := some 32) (v := ?_) (a' := ?_) #[true, true, true, true, true, true, true, true, true, true, true, true, true, true, true, false, false, false] rfl rfl (any_of HT_.out (by kernel_rfl)) (fun _ _ _ h => h) (Or.inl ⟨by rfl, ?_⟩) ?_ ?_
                rotate_left
                · intro w'
                  go_simp
                  with_reducible rfl
                rotate_left
                · simp only [Act.put, List.setIfInBounds_toArray, List.set_cons_zero, List.set_cons_succ, i64_w, i32_w]
                  rfl
                refine one_ (i := 15) (N := some 8) #[true, true, true, true, true, true, true, true, true, true, true, true, true, true, true, true, false, false] rfl rfl (one_of HT_.out (by kernel_rfl)) (by decide) (fun K hK => ?_)
                refine box_step ?hg (N := 8) ?hd (cs := #[.slice none 0 0, .int .i64 0, .slice none 0 0, .int .i64 0, .bool false]) (t := 40) ?hr ?_; (case hd => rfl); (case hg => rfl); (case hr => first | (go_simp; done) | (go_simp; rfl))
                intro gb298 hg w37 hbox hb
                have n0_ := Aside0.mk (Kd.V_below (Kd.V_elderB (by (with_reducible repeat (first | apply Kd.V_alloc | apply Kd.V_drewN | apply Kd.V_drew)); exact HO_286000.out) gb298 (Nat.le_of_eq hg.symm)) hb)
                have n1_ := Aside0.mk (Kd.V_below (Kd.V_elderB (by (with_reducible repeat (first | apply Kd.V_alloc | apply Kd.V_drewN | apply Kd.V_drew)); exact HO290.out) gb298 (Nat.le_of_eq hg.symm)) hb)
                have n2_ := Aside0.mk (Kd.R_below (by (with_reducible repeat (first | apply Kd.R_alloc | apply Kd.R_drewN | apply Kd.R_drew)); exact HO294.out) hb)
                have n3_ := Aside0.mk (blk_below (g := gb275) (o := .cells #[.slice none 0 0, .int .i64 x276001_1, .slice none 0 0, .int .i64 x276003_1, .bool x276004_1] 40 (0, 0)) (by (with_reducible repeat (first | refine blk_drewN ?_ _ | refine blk_drew ?_ | refine blk_alloc ?_ _)); exact BK275.out) hb)
                have n4_ := Aside0.mk (blk_below (g := gb285) (o := .cells #[.slice Ao33 x286000_1.length co33, .int .i64 x286001_1, .slice Ao34 x286002_1.length co34, .int .i64 x286003_1, .bool x286004_1] 40 (0, 0)) (by (with_reducible repeat (first | refine blk_drewN ?_ _ | refine blk_drew ?_ | refine blk_alloc ?_ _)); exact BK285.out) hb)
                have n5_ := Aside0.mk (below_step (by repeat (first | (with_reducible first | exact HB.out | apply below_alloc | apply pw_below_drewN | apply below_drew1 | refine below_set ?_ GE275.out | refine below_set ?_ GE285.out) | exact HB.out)) hb)
                have n6_ := Aside0.mk (hbox)
                have n7_ := Aside0.mk ((by rw [hg]; exact (below_size (by repeat (first | (with_reducible first | exact HB.out | apply below_alloc | apply pw_below_drewN | apply below_drew1 | refine below_set ?_ GE275.out | refine below_set ?_ GE285.out) | exact HB.out))) : w.heap.size ≤ gb298))
                have n8_ := Aside0.mk ((by rw [hg]; exact (below_size (by repeat (first | (with_reducible first | exact HB.out | apply below_alloc | apply pw_below_drewN | apply below_drew1 | refine below_set ?_ GE275.out | refine below_set ?_ GE285.out) | exact HB.out))) : w.heap.size ≤ gb298))
                have n9_ := Aside0.mk ((by rw [hg]; exact Nat.ne_of_lt (blk_lt (g := gb275) (o := .cells #[.slice none 0 0, .int .i64 x276001_1, .slice none 0 0, .int .i64 x276003_1, .bool x276004_1] 40 (0, 0)) (by (with_reducible repeat (first | refine blk_drewN ?_ _ | refine blk_drew ?_ | refine blk_alloc ?_ _)); exact BK275.out)) : gb275 ≠ gb298))
                have n10_ := Aside0.mk ((by rw [hg]; exact Nat.ne_of_gt (blk_lt (g := gb275) (o := .cells #[.slice none 0 0, .int .i64 x276001_1, .slice none 0 0, .int .i64 x276003_1, .bool x276004_1] 40 (0, 0)) (by (with_reducible repeat (first | refine blk_drewN ?_ _ | refine blk_drew ?_ | refine blk_alloc ?_ _)); exact BK275.out)) : gb298 ≠ gb275))
                have n11_ := Aside0.mk ((by rw [hg]; exact Nat.ne_of_lt (blk_lt (g := gb285) (o := .cells #[.slice Ao33 x286000_1.length co33, .int .i64 x286001_1, .slice Ao34 x286002_1.length co34, .int .i64 x286003_1, .bool x286004_1] 40 (0, 0)) (by (with_reducible repeat (first | refine blk_drewN ?_ _ | refine blk_drew ?_ | refine blk_alloc ?_ _)); exact BK285.out)) : gb285 ≠ gb298))
                have n12_ := Aside0.mk ((by rw [hg]; exact Nat.ne_of_gt (blk_lt (g := gb285) (o := .cells #[.slice Ao33 x286000_1.length co33, .int .i64 x286001_1, .slice Ao34 x286002_1.length co34, .int .i64 x286003_1, .bool x286004_1] 40 (0, 0)) (by (with_reducible repeat (first | refine blk_drewN ?_ _ | refine blk_drew ?_ | refine blk_alloc ?_ _)); exact BK285.out)) : gb298 ≠ gb285))
                clear HO_286000
                clear HO290
                clear HO294
                clear BK275
                clear BK285
                clear HB
                have HO_286000 := n0_
                have HO290 := n1_
                have HO294 := n2_
                have BK275 := n3_
                have BK285 := n4_
                have HB := n5_
                have BK298 := n6_
                have GW298 := n7_
                have GE298 := n8_
                have NB275_298 := n9_
                have NB298_275 := n10_
                have NB285_298 := n11_
                have NB298_285 := n12_
                clear n0_ n1_ n2_ n3_ n4_ n5_ n6_ n7_ n8_ n9_ n10_ n11_ n12_
                clear hb hbox hg
                refine hK.out _ _ ⟨(blk_cell BK285.out 0).trans rfl, (blk_cell BK285.out 1).trans rfl, (blk_cell BK285.out 2).trans rfl, (blk_cell BK285.out 3).trans rfl, (blk_cell BK285.out 4).trans rfl, ((HB.out.cell (World.block_lt_of_cell? w _ hw286_0)).trans hw286_0), ((HB.out.cell (World.block_lt_of_cell? w _ hw286_1)).trans hw286_1), ((HB.out.cell (World.block_lt_of_cell? w _ hw287_0)).trans hw287_0), ((HB.out.cell (World.block_lt_of_cell? w _ hw287_1)).trans hw287_1)⟩ (fun hHeld => ?_)
                clear hK K
                refine norm_ (a' := ?_) ?_ ?_
                rotate_left
                · show Act.put _ (some 8) _ = _
                  simp only [Act.put, List.setIfInBounds_toArray, List.set_cons_zero, List.set_cons_succ, i64_w, i32_w]
                  rfl
                exact norm_ (by simp only [putAll, Act.put, List.setIfInBounds_toArray, List.set_cons_zero, List.set_cons_succ]) (hCont (v289, v293, gb298) _ ⟨hHeld, (by (with_reducible repeat (first | apply Kd.V_alloc | apply Kd.V_drewN | apply Kd.V_drew)); exact Kd.V_mono HO290.out (fun _ hk => ⟨hk.1.1, ⟨hk.1.2.1, ⟨hk.1.2.2.1, ⟨hk.1.2.2.2, hk.2⟩⟩⟩⟩)), (by (with_reducible repeat (first | apply Kd.R_alloc | apply Kd.R_drewN | apply Kd.R_drew)); exact HO294.out), (by (with_reducible repeat (first | apply Kd.V_alloc | apply Kd.V_drewN | apply Kd.V_drew)); exact Kd.V_mono HO_286000.out (fun _ hk => ⟨hk.1.1, ⟨hk.1.2.2.2, ⟨hk.1.2.1, ⟨hk.1.2.2.1, hk.2⟩⟩⟩⟩)), (by (with_reducible repeat (first | refine blk_drewN ?_ _ | refine blk_drew ?_ | refine blk_alloc ?_ _)); exact BK275.out), (by (with_reducible repeat (first | refine blk_drewN ?_ _ | refine blk_drew ?_ | refine blk_alloc ?_ _)); exact BK285.out), (by (with_reducible repeat (first | refine blk_drewN ?_ _ | refine blk_drew ?_ | refine blk_alloc ?_ _)); exact BK298.out), GW298.out, GE298.out, NB275_298.out, NB298_275.out, NB285_298.out, NB298_285.out, (by repeat (first | (with_reducible first | exact HB.out | apply below_alloc | apply pw_below_drewN | apply below_drew1 | refine below_set ?_ GE275.out | refine below_set ?_ GE285.out | refine below_set ?_ GE298.out) | exact HB.out))⟩)
              · skip
                refine box_step ?hg (N := 8) ?hd (cs := #[.slice none 0 0, .int .i64 0, .slice none 0 0, .int .i64 0, .bool false]) (t := 40) ?hr ?_; (case hd => rfl); (case hg => rfl); (case hr => first | (go_simp; done) | (go_simp; rfl))
                intro gb298 hg w36 hbox hb
                have n0_ := Aside0.mk (Kd.V_below (Kd.V_elderB (by (with_reducible repeat (first | apply Kd.V_alloc | apply Kd.V_drewN | apply Kd.V_drew)); exact HO_286000.out) gb298 (Nat.le_of_eq hg.symm)) hb)
                have n1_ := Aside0.mk (Kd.R_below (by (with_reducible repeat (first | apply Kd.R_alloc | apply Kd.R_drewN | apply Kd.R_drew)); exact HO_286002.out) hb)
                have n2_ := Aside0.mk (blk_below (g := gb275) (o := .cells #[.slice none 0 0, .int .i64 x276001_1, .slice none 0 0, .int .i64 x276003_1, .bool x276004_1] 40 (0, 0)) (by (with_reducible repeat (first | refine blk_drewN ?_ _ | refine blk_drew ?_ | refine blk_alloc ?_ _)); exact BK275.out) hb)
                have n3_ := Aside0.mk (blk_below (g := gb285) (o := .cells #[.slice Ao33 x286000_1.length co33, .int .i64 x286001_1, .slice Ao34 x286002_1.length co34, .int .i64 x286003_1, .bool x286004_1] 40 (0, 0)) (by (with_reducible repeat (first | refine blk_drewN ?_ _ | refine blk_drew ?_ | refine blk_alloc ?_ _)); exact BK285.out) hb)
                have n4_ := Aside0.mk (below_step (by repeat (first | (with_reducible first | exact HB.out | apply below_alloc | apply pw_below_drewN | apply below_drew1 | refine below_set ?_ GE275.out | refine below_set ?_ GE285.out) | exact HB.out)) hb)
                have n5_ := Aside0.mk (hbox)
                have n6_ := Aside0.mk ((by rw [hg]; exact (below_size (by repeat (first | (with_reducible first | exact HB.out | apply below_alloc | apply pw_below_drewN | apply below_drew1 | refine below_set ?_ GE275.out | refine below_set ?_ GE285.out) | exact HB.out))) : w.heap.size ≤ gb298))
                have n7_ := Aside0.mk ((by rw [hg]; exact (below_size (by repeat (first | (with_reducible first | exact HB.out | apply below_alloc | apply pw_below_drewN | apply below_drew1 | refine below_set ?_ GE275.out | refine below_set ?_ GE285.out) | exact HB.out))) : w.heap.size ≤ gb298))
                have n8_ := Aside0.mk ((by rw [hg]; exact Nat.ne_of_lt (blk_lt (g := gb275) (o := .cells #[.slice none 0 0, .int .i64 x276001_1, .slice none 0 0, .int .i64 x276003_1, .bool x276004_1] 40 (0, 0)) (by (with_reducible repeat (first | refine blk_drewN ?_ _ | refine blk_drew ?_ | refine blk_alloc ?_ _)); exact BK275.out)) : gb275 ≠ gb298))
                have n9_ := Aside0.mk ((by rw [hg]; exact Nat.ne_of_gt (blk_lt (g := gb275) (o := .cells #[.slice none 0 0, .int .i64 x276001_1, .slice none 0 0, .int .i64 x276003_1, .bool x276004_1] 40 (0, 0)) (by (with_reducible repeat (first | refine blk_drewN ?_ _ | refine blk_drew ?_ | refine blk_alloc ?_ _)); exact BK275.out)) : gb298 ≠ gb275))
                have n10_ := Aside0.mk ((by rw [hg]; exact Nat.ne_of_lt (blk_lt (g := gb285) (o := .cells #[.slice Ao33 x286000_1.length co33, .int .i64 x286001_1, .slice Ao34 x286002_1.length co34, .int .i64 x286003_1, .bool x286004_1] 40 (0, 0)) (by (with_reducible repeat (first | refine blk_drewN ?_ _ | refine blk_drew ?_ | refine blk_alloc ?_ _)); exact BK285.out)) : gb285 ≠ gb298))
                have n11_ := Aside0.mk ((by rw [hg]; exact Nat.ne_of_gt (blk_lt (g := gb285) (o := .cells #[.slice Ao33 x286000_1.length co33, .int .i64 x286001_1, .slice Ao34 x286002_1.length co34, .int .i64 x286003_1, .bool x286004_1] 40 (0, 0)) (by (with_reducible repeat (first | refine blk_drewN ?_ _ | refine blk_drew ?_ | refine blk_alloc ?_ _)); exact BK285.out)) : gb298 ≠ gb285))
                clear HO_286000
                clear HO_286002
                clear BK275
                clear BK285
                clear HB
                have HO_286000 := n0_
                have HO_286002 := n1_
                have BK275 := n2_
                have BK285 := n3_
                have HB := n4_
                have BK298 := n5_
                have GW298 := n6_
                have GE298 := n7_
                have NB275_298 := n8_
                have NB298_275 := n9_
                have NB285_298 := n10_
                have NB298_285 := n11_
                clear n0_ n1_ n2_ n3_ n4_ n5_ n6_ n7_ n8_ n9_ n10_ n11_
                clear hb hbox hg
                refine hK.out _ _ ⟨(blk_cell BK285.out 0).trans rfl, (blk_cell BK285.out 1).trans rfl, (blk_cell BK285.out 2).trans rfl, (blk_cell BK285.out 3).trans rfl, (blk_cell BK285.out 4).trans rfl, ((HB.out.cell (World.block_lt_of_cell? w _ hw286_0)).trans hw286_0), ((HB.out.cell (World.block_lt_of_cell? w _ hw286_1)).trans hw286_1), ((HB.out.cell (World.block_lt_of_cell? w _ hw287_0)).trans hw287_0), ((HB.out.cell (World.block_lt_of_cell? w _ hw287_1)).trans hw287_1)⟩ (fun hHeld => ?_)
                clear hK K
                refine norm_ (a' := ?_) ?_ ?_
                rotate_left
                · show Act.put _ (some 8) _ = _
                  simp only [Act.put, List.setIfInBounds_toArray, List.set_cons_zero, List.set_cons_succ, i64_w, i32_w]
                  rfl
                refine one_ (i := 11) (N := some 30) #[true, true, true, true, true, true, true, true, true, true, true, true, false, false, false, true, false, false] rfl rfl (one_of HT_.out (by kernel_rfl)) (by decide) (fun K hK => ?_)
                refine goes_ Try.func49 (by kernel_rfl) rfl #[.agg #[.slice Ao33 x286000_1.length co33, .int .i64 x286001_1, .slice Ao34 x286002_1.length co34, .int .i64 x286003_1, .bool x286004_1], .string ((rd_T45 l1 x7_1).f0), .slice A286_1 ((rd_T45 l1 x7_1).f1).length c286_1] (by rfl) rfl rfl (by (try simp only [List.map_toArray, List.map_cons, List.map_nil]); first | done | rfl | (simp only [List.length_drop, List.length_take]; rfl)) ?_
                with_reducible refine (leatref18_made.calls k1 (fun k_ => (((w.heap.size ≤ k_) ∧ (some k_ ≠ (.slice Ao34 x286002_1.length co34 : Value).ownBlock ∧ (k_ ≠ gb275 ∧ k_ ≠ gb285))) ∧ k_ ≠ gb298)) _ _ x286000_1 x286001_1 (fun k_ => some k_ = (.slice Ao34 x286002_1.length co34 : Value).ownBlock) (.slice Ao34 x286002_1.length co34) x286002_1 x286003_1 x286004_1 ((rd_T45 l1 x7_1).f0) _ _ ((rd_T45 l1 x7_1).f1) t288 t291 t292 t295 t296 t297 w _ ?side1 ?side2 ?side3 ?side4 ?side5 A13.out).mono ?_
                (case side1 => repeat (first | (with_reducible first | exact HB.out | apply below_alloc | apply pw_below_drewN | apply below_drew1 | refine below_set ?_ GE275.out | refine below_set ?_ GE285.out | refine below_set ?_ GE298.out) | exact HB.out))
                (case side2 => exact Kd.V_mono (HO_286000.out) (fun k_ hk_ => ⟨hk_, hk_.1.2.1⟩))
                (case side3 => exact Kd.R_tight rfl HO_286002.out)
                (case side4 => exact Kd.C_kept_came (Kd.heap_int .u8) HR287_1.out (by repeat (first | (with_reducible first | exact HB.out | apply below_alloc | apply pw_below_drewN | apply below_drew1 | refine below_set ?_ GE275.out | refine below_set ?_ GE285.out | refine below_set ?_ GE298.out) | exact HB.out)) (fun k_ hs_ => (fun e_ => Kd.R_base HO_286002.out k_ e_.symm) hs_))
                (case side5 => exact HC287_1.out)
                rintro e w37 ⟨v289, v293, rfl, ho0, ho1, hb, hkp⟩
                refine ⟨_, rfl, ?_⟩
                have n0_ := Aside0.mk (Kd.V_mono (ok' := fun k_ => (w.heap.size ≤ k_) ∧ k_ ≠ gb275 ∧ k_ ≠ gb285 ∧ k_ ≠ gb298 ∧ some k_ ≠ (v293 : Value).ownBlock) (Kd.V_keptB (HO_286000.out) hkp (fun k_ hk_ hs_ => (hk_.1.2.1) hs_)) (fun k_ hk_ => ⟨hk_.1.1.1, hk_.1.1.2.2.1, hk_.1.1.2.2.2, hk_.1.2, fun e_ => Or.elim (ho1.1 k_ e_.symm) (fun hs_ => hk_.2.1 hs_) (fun hn_ => Nat.not_le.2 hk_.2.2 hn_)⟩))
                have n1_ := Aside0.mk (blk_kept (by (with_reducible repeat (first | refine blk_drewN ?_ _ | refine blk_drew ?_ | refine blk_alloc ?_ _)); exact BK275.out) hkp (fun hs_ => (fun e_ => (Kd.R_ne HO_286002.out BK275.out (by decide)) e_) hs_))
                have n2_ := Aside0.mk (blk_kept (by (with_reducible repeat (first | refine blk_drewN ?_ _ | refine blk_drew ?_ | refine blk_alloc ?_ _)); exact BK285.out) hkp (fun hs_ => (fun e_ => (Kd.R_ne HO_286002.out BK285.out (by decide)) e_) hs_))
                have n3_ := Aside0.mk (blk_kept (by (with_reducible repeat (first | refine blk_drewN ?_ _ | refine blk_drew ?_ | refine blk_alloc ?_ _)); exact BK298.out) hkp (fun hs_ => (fun e_ => (Kd.R_ne HO_286002.out BK298.out (by decide)) e_) hs_))
                have n4_ := Aside0.mk (Kd.V_mono (ok' := fun k_ => (w.heap.size ≤ k_) ∧ some k_ ≠ (v293 : Value).ownBlock ∧ k_ ≠ gb275 ∧ k_ ≠ gb285 ∧ k_ ≠ gb298) ho0 (fun k_ hk_ => ⟨Or.elim hk_.1 (fun hs_ => Or.elim hs_ (fun hs_ => (HO_286002.out.1 k_ (hs_).symm)) (fun hs_ => hs_.1.1)) (fun hn_ => (Nat.le_trans (below_size (by repeat (first | (with_reducible first | exact HB.out | apply below_alloc | apply pw_below_drewN | apply below_drew1 | refine below_set ?_ GE275.out | refine below_set ?_ GE285.out | refine below_set ?_ GE298.out) | exact HB.out))) hn_)), hk_.2, Or.elim hk_.1 (fun hs_ => Or.elim hs_ (fun hs_ => fun e_ => (Kd.R_ne HO_286002.out BK275.out (by decide)) (by rw [← e_]; exact hs_)) (fun hs_ => hs_.1.2.2.1)) (fun hn_ => (Kd.freshB (g := gb275) (o := .cells #[.slice none 0 0, .int .i64 x276001_1, .slice none 0 0, .int .i64 x276003_1, .bool x276004_1] 40 (0, 0)) (by (with_reducible repeat (first | refine blk_drewN ?_ _ | refine blk_drew ?_ | refine blk_alloc ?_ _)); exact BK275.out) k_ hn_)), Or.elim hk_.1 (fun hs_ => Or.elim hs_ (fun hs_ => fun e_ => (Kd.R_ne HO_286002.out BK285.out (by decide)) (by rw [← e_]; exact hs_)) (fun hs_ => hs_.1.2.2.2)) (fun hn_ => (Kd.freshB (g := gb285) (o := .cells #[.slice Ao33 x286000_1.length co33, .int .i64 x286001_1, .slice Ao34 x286002_1.length co34, .int .i64 x286003_1, .bool x286004_1] 40 (0, 0)) (by (with_reducible repeat (first | refine blk_drewN ?_ _ | refine blk_drew ?_ | refine blk_alloc ?_ _)); exact BK285.out) k_ hn_)), Or.elim hk_.1 (fun hs_ => Or.elim hs_ (fun hs_ => fun e_ => (Kd.R_ne HO_286002.out BK298.out (by decide)) (by rw [← e_]; exact hs_)) (fun hs_ => hs_.2)) (fun hn_ => (Kd.freshB (g := gb298) (o := .cells #[.slice none 0 0, .int .i64 0, .slice none 0 0, .int .i64 0, .bool false] 40 (0, 0)) (by (with_reducible repeat (first | refine blk_drewN ?_ _ | refine blk_drew ?_ | refine blk_alloc ?_ _)); exact BK298.out) k_ hn_))⟩))
                have n5_ := Aside0.mk (Kd.R_mono (ok' := fun k_ => (w.heap.size ≤ k_)) ho1 (fun k_ hk_ => Or.elim hk_ (fun hs_ => (HO_286002.out.1 k_ (hs_).symm)) (fun hn_ => (Nat.le_trans (below_size (by repeat (first | (with_reducible first | exact HB.out | apply below_alloc | apply pw_below_drewN | apply below_drew1 | refine below_set ?_ GE275.out | refine below_set ?_ GE285.out | refine below_set ?_ GE298.out) | exact HB.out))) hn_))))
                have n6_ := Aside0.mk (hb)
                clear HO_286000
                clear BK275
                clear BK285
                clear BK298
                clear HB
                clear HO_286002
                have HO_286000 := n0_
                have BK275 := n1_
                have BK285 := n2_
                have BK298 := n3_
                have HO290 := n4_
                have HO294 := n5_
                have HB := n6_
                clear n0_ n1_ n2_ n3_ n4_ n5_ n6_
                (try clear hb)
                (try clear hkp)
                (try clear ho0)
                (try clear ho1)
                refine hK.out _ _ ⟨(blk_cell BK285.out 0).trans rfl, (blk_cell BK285.out 1).trans rfl, (blk_cell BK285.out 2).trans rfl, (blk_cell BK285.out 3).trans rfl, (blk_cell BK285.out 4).trans rfl, ((HB.out.cell (World.block_lt_of_cell? w _ hw286_0)).trans hw286_0), ((HB.out.cell (World.block_lt_of_cell? w _ hw286_1)).trans hw286_1), ((HB.out.cell (World.block_lt_of_cell? w _ hw287_0)).trans hw287_0), ((HB.out.cell (World.block_lt_of_cell? w _ hw287_1)).trans hw287_1)⟩ (fun hHeld => ?_)
                clear hK K
                refine norm_ (a' := ?_) ?_ ?_
                rotate_left
                · show Act.put _ (some 30) _ = _
                  simp only [Act.put, List.setIfInBounds_toArray, List.set_cons_zero, List.set_cons_succ, i64_w, i32_w]
                  rfl
                refine pure_ (i := 12) (N := some 18) (v := ?_) (a' := ?_) #[true, true, true, true, true, true, true, true, true, true, true, true, true, false, false, true, false, false] rfl rfl (any_of HT_.out (by kernel_rfl)) (fun _ _ _ h => h) (Or.inl ⟨by rfl, ?_⟩) ?_ ?_
                rotate_left
                · intro w'
                  go_simp
                  with_reducible rfl
                rotate_left
                · simp only [Act.put, List.setIfInBounds_toArray, List.set_cons_zero, List.set_cons_succ, i64_w, i32_w]
                  rfl
                refine pure_ (i := 13) (N := some 31) (v := ?_) (a' := ?_) #[true, true, true, true, true, true, true, true, true, true, true, true, true, true, false, true, false, false] rfl rfl (any_of HT_.out (by kernel_rfl)) (fun _ _ _ h => h) (Or.inl ⟨by rfl, ?_⟩) ?_ ?_
                rotate_left
                · intro w'
                  go_simp
                  with_reducible rfl
                rotate_left
                · simp only [Act.put, List.setIfInBounds_toArray, List.set_cons_zero, List.set_cons_succ, i64_w, i32_w]
                  rfl
                refine pure_ (i := 14) (N := some 32) (v := ?_) (a' := ?_) #[true, true, true, true, true, true, true, true, true, true, true, true, true, true, true, true, false, false] rfl rfl (any_of HT_.out (by kernel_rfl)) (fun _ _ _ h => h) (Or.inl ⟨by rfl, ?_⟩) ?_ ?_
                rotate_left
                · intro w'
                  go_simp
                  with_reducible rfl
                rotate_left
                · simp only [Act.put, List.setIfInBounds_toArray, List.set_cons_zero, List.set_cons_succ, i64_w, i32_w]
                  rfl
                exact norm_ (by simp only [putAll, Act.put, List.setIfInBounds_toArray, List.set_cons_zero, List.set_cons_succ]) (hCont (v289, v293, gb298) _ ⟨hHeld, (by (with_reducible repeat (first | apply Kd.V_alloc | apply Kd.V_drewN | apply Kd.V_drew)); exact HO290.out), (by (with_reducible repeat (first | apply Kd.R_alloc | apply Kd.R_drewN | apply Kd.R_drew)); exact HO294.out), (by (with_reducible repeat (first | apply Kd.V_alloc | apply Kd.V_drewN | apply Kd.V_drew)); exact Kd.V_mono HO_286000.out (fun _ hk => ⟨hk.1, ⟨hk.2.2.2.2, ⟨hk.2.1, ⟨hk.2.2.1, hk.2.2.2.1⟩⟩⟩⟩)), (by (with_reducible repeat (first | refine blk_drewN ?_ _ | refine blk_drew ?_ | refine blk_alloc ?_ _)); exact BK275.out), (by (with_reducible repeat (first | refine blk_drewN ?_ _ | refine blk_drew ?_ | refine blk_alloc ?_ _)); exact BK285.out), (by (with_reducible repeat (first | refine blk_drewN ?_ _ | refine blk_drew ?_ | refine blk_alloc ?_ _)); exact BK298.out), GW298.out, GE298.out, NB275_298.out, NB298_275.out, NB285_298.out, NB298_285.out, (by repeat (first | (with_reducible first | exact HB.out | apply below_alloc | apply pw_below_drewN | apply below_drew1 | refine below_set ?_ GE275.out | refine below_set ?_ GE285.out | refine below_set ?_ GE298.out) | exact HB.out))⟩)
            rintro ⟨v289, v293, gb298⟩ w38 ⟨hS_, h0_, h1_, h2_, h3_, h4_, h5_, h6_, h7_, h8_, h9_, h10_, h11_, h12_⟩
            have n0_ : Aside0 (Kd.V k94 94 w38 w.heap.size (fun k_ => (w.heap.size ≤ k_) ∧ some k_ ≠ (v293 : Value).ownBlock ∧ k_ ≠ gb275 ∧ k_ ≠ gb285 ∧ k_ ≠ gb298) v289 t288) := ⟨h0_⟩
            have n1_ : Aside0 (Kd.R k26 26 w38 w.heap.size (fun k_ => (w.heap.size ≤ k_)) v293 t292) := ⟨h1_⟩
            have n2_ : Aside0 (Kd.V k94 94 w38 w.heap.size (fun k_ => (w.heap.size ≤ k_) ∧ some k_ ≠ (v293 : Value).ownBlock ∧ k_ ≠ gb275 ∧ k_ ≠ gb285 ∧ k_ ≠ gb298) (.slice Ao33 x286000_1.length co33) x286000_1) := ⟨h2_⟩
            have n3_ : Aside0 (w38.heap[gb275]? = some (.cells #[.slice none 0 0, .int .i64 x276001_1, .slice none 0 0, .int .i64 x276003_1, .bool x276004_1] 40 (0, 0))) := ⟨h3_⟩
            have n4_ : Aside0 (w38.heap[gb285]? = some (.cells #[.slice Ao33 x286000_1.length co33, .int .i64 x286001_1, .slice Ao34 x286002_1.length co34, .int .i64 x286003_1, .bool x286004_1] 40 (0, 0))) := ⟨h4_⟩
            have n5_ : Aside0 (w38.heap[gb298]? = some (.cells #[.slice none 0 0, .int .i64 0, .slice none 0 0, .int .i64 0, .bool false] 40 (0, 0))) := ⟨h5_⟩
            have n6_ : Aside0 (w.heap.size ≤ gb298) := ⟨h6_⟩
            have n7_ : Aside0 (w.heap.size ≤ gb298) := ⟨h7_⟩
            have n8_ : Aside0 (gb275 ≠ gb298) := ⟨h8_⟩
            have n9_ : Aside0 (gb298 ≠ gb275) := ⟨h9_⟩
            have n10_ : Aside0 (gb285 ≠ gb298) := ⟨h10_⟩
            have n11_ : Aside0 (gb298 ≠ gb285) := ⟨h11_⟩
            have n12_ : Aside0 (Below w.heap.size w w38) := ⟨h12_⟩
            clear HO_286000
            clear HO_286002
            clear BK275
            clear BK285
            clear HB
            clear h0_ h1_ h2_ h3_ h4_ h5_ h6_ h7_ h8_ h9_ h10_ h11_ h12_
            have HO290 := n0_
            have HO294 := n1_
            have HO_286000 := n2_
            have BK275 := n3_
            have BK285 := n4_
            have BK298 := n5_
            have GW298 := n6_
            have GE298 := n7_
            have NB275_298 := n8_
            have NB298_275 := n9_
            have NB285_298 := n10_
            have NB298_285 := n11_
            have HB := n12_
            clear n0_ n1_ n2_ n3_ n4_ n5_ n6_ n7_ n8_ n9_ n10_ n11_ n12_
            have hHeld : w38.cell? ⟨gb285, 0, none⟩ = some (.slice Ao33 x286000_1.length co33) ∧ w38.cell? ⟨gb285, 1, none⟩ = some (.int .i64 x286001_1) ∧ w38.cell? ⟨gb285, 2, none⟩ = some (.slice Ao34 x286002_1.length co34) ∧ w38.cell? ⟨gb285, 3, none⟩ = some (.int .i64 x286003_1) ∧ w38.cell? ⟨gb285, 4, none⟩ = some (.bool x286004_1) ∧ w38.cell? (ad286.add ((x7_1).toNat * 2)) = some (.string ((rd_T45 l1 x7_1).f0)) ∧ w38.cell? ⟨(ad286.add ((x7_1).toNat * 2)).block, (ad286.add ((x7_1).toNat * 2)).off + 1, none⟩ = some (.slice A286_1 ((rd_T45 l1 x7_1).f1).length c286_1) ∧ w38.cell? (ad286.add ((x7_1).toNat * 2)) = some (.string ((rd_T45 l1 x7_1).f0)) ∧ w38.cell? ⟨(ad286.add ((x7_1).toNat * 2)).block, (ad286.add ((x7_1).toNat * 2)).off + 1, none⟩ = some (.slice A286_1 ((rd_T45 l1 x7_1).f1).length c286_1) := hS_
            obtain ⟨Ao39, co39, eo39⟩ := Kd.V_slice HO290.out
            (first | subst eo39 | (injection eo39 with f1_ f2_ f3_; have f4_ := f1_.symm; have f5_ := f3_.symm; clear f1_ f2_ f3_; subst f4_; subst f5_))
            obtain ⟨Ao42, co42, eo42⟩ := Kd.R_slice HO294.out
            (first | subst eo42 | (injection eo42 with f1_ f2_ f3_; have f4_ := f1_.symm; have f5_ := f3_.symm; clear f1_ f2_ f3_; subst f4_; subst f5_))
            refine norm_ (a' := ?_) ?_ ?_
            rotate_left
            · simp only [putAll, Act.put, List.setIfInBounds_toArray, List.set_cons_zero, List.set_cons_succ]
              rfl
            refine one_ (i := 16) (N := none) #[true, true, true, true, true, true, true, true, true, true, true, true, true, true, true, true, true, false] rfl rfl (one_of HT_.out (by kernel_rfl)) (by decide) (fun K hK => ?_)
            have hs40 : w38.cell? ⟨gb298, 0, none⟩ = some (.slice none 0 0) := (blk_cell BK298.out 0).trans rfl
            have hfs40 := blk_frozen BK298.out 0
            have hns40_0 := NB275_298.out
            have hns40_1 := NB285_298.out
            have hms40_0 := NB298_275.out
            have hms40_1 := NB298_285.out
            have hs41 : w38.cell? ⟨gb298, 1, none⟩ = some (.int .i64 0) := (blk_cell BK298.out 1).trans rfl
            have hfs41 := blk_frozen BK298.out 1
            have hns41_0 := NB275_298.out
            have hns41_1 := NB285_298.out
            have hms41_0 := NB298_275.out
            have hms41_1 := NB298_285.out
            have hs43 : w38.cell? ⟨gb298, 2, none⟩ = some (.slice none 0 0) := (blk_cell BK298.out 2).trans rfl
            have hfs43 := blk_frozen BK298.out 2
            have hns43_0 := NB275_298.out
            have hns43_1 := NB285_298.out
            have hms43_0 := NB298_275.out
            have hms43_1 := NB298_285.out
            have hs44 : w38.cell? ⟨gb298, 3, none⟩ = some (.int .i64 0) := (blk_cell BK298.out 3).trans rfl
            have hfs44 := blk_frozen BK298.out 3
            have hns44_0 := NB275_298.out
            have hns44_1 := NB285_298.out
            have hms44_0 := NB298_275.out
            have hms44_1 := NB298_285.out
            have hs45 : w38.cell? ⟨gb298, 4, none⟩ = some (.bool false) := (blk_cell BK298.out 4).trans rfl
            have hfs45 := blk_frozen BK298.out 4
            have hns45_0 := NB275_298.out
            have hns45_1 := NB285_298.out
            have hms45_0 := NB298_275.out
            have hms45_1 := NB298_285.out
            refine skip_ (w1 := ?_) (by rfl) rfl ?_ ?_
            rotate_left
            · go_simp
              rfl
            refine hK.out _ _ ⟨((cell_far (p := ⟨gb298, _, none⟩) NB285_298.out _).trans (((cell_far (p := ⟨gb298, _, none⟩) NB285_298.out _).trans (((cell_far (p := ⟨gb298, _, none⟩) NB285_298.out _).trans (((cell_far (p := ⟨gb298, _, none⟩) NB285_298.out _).trans (((cell_far (p := ⟨gb298, _, none⟩) NB285_298.out _).trans (hHeld.1)))))))))), ((cell_far (p := ⟨gb298, _, none⟩) NB285_298.out _).trans (((cell_far (p := ⟨gb298, _, none⟩) NB285_298.out _).trans (((cell_far (p := ⟨gb298, _, none⟩) NB285_298.out _).trans (((cell_far (p := ⟨gb298, _, none⟩) NB285_298.out _).trans (((cell_far (p := ⟨gb298, _, none⟩) NB285_298.out _).trans (hHeld.2.1)))))))))), ((cell_far (p := ⟨gb298, _, none⟩) NB285_298.out _).trans (((cell_far (p := ⟨gb298, _, none⟩) NB285_298.out _).trans (((cell_far (p := ⟨gb298, _, none⟩) NB285_298.out _).trans (((cell_far (p := ⟨gb298, _, none⟩) NB285_298.out _).trans (((cell_far (p := ⟨gb298, _, none⟩) NB285_298.out _).trans (hHeld.2.2.1)))))))))), ((cell_far (p := ⟨gb298, _, none⟩) NB285_298.out _).trans (((cell_far (p := ⟨gb298, _, none⟩) NB285_298.out _).trans (((cell_far (p := ⟨gb298, _, none⟩) NB285_298.out _).trans (((cell_far (p := ⟨gb298, _, none⟩) NB285_298.out _).trans (((cell_far (p := ⟨gb298, _, none⟩) NB285_298.out _).trans (hHeld.2.2.2.1)))))))))), ((cell_far (p := ⟨gb298, _, none⟩) NB285_298.out _).trans (((cell_far (p := ⟨gb298, _, none⟩) NB285_298.out _).trans (((cell_far (p := ⟨gb298, _, none⟩) NB285_298.out _).trans (((cell_far (p := ⟨gb298, _, none⟩) NB285_298.out _).trans (((cell_far (p := ⟨gb298, _, none⟩) NB285_298.out _).trans (hHeld.2.2.2.2.1)))))))))), ((cell_far (p := ⟨gb298, _, none⟩) (by first | exact Nat.ne_of_lt (Nat.lt_of_lt_of_le (by have := World.block_lt_of_cell? _ _ hw286_0; first | rwa [add_block] at this | exact this) GW298.out) | (rw [add_block]; exact Nat.ne_of_lt (Nat.lt_of_lt_of_le (by have := World.block_lt_of_cell? _ _ hw286_0; first | rwa [add_block] at this | exact this) GW298.out)) | (show (Addr.add _ _).block ≠ _; rw [add_block]; exact Nat.ne_of_lt (Nat.lt_of_lt_of_le (by have := World.block_lt_of_cell? _ _ hw286_0; first | rwa [add_block] at this | exact this) GW298.out)) | (dsimp only; exact Nat.ne_of_lt (Nat.lt_of_lt_of_le (by have := World.block_lt_of_cell? _ _ hw286_0; first | rwa [add_block] at this | exact this) GW298.out))) _).trans (((cell_far (p := ⟨gb298, _, none⟩) (by first | exact Nat.ne_of_lt (Nat.lt_of_lt_of_le (by have := World.block_lt_of_cell? _ _ hw286_0; first | rwa [add_block] at this | exact this) GW298.out) | (rw [add_block]; exact Nat.ne_of_lt (Nat.lt_of_lt_of_le (by have := World.block_lt_of_cell? _ _ hw286_0; first | rwa [add_block] at this | exact this) GW298.out)) | (show (Addr.add _ _).block ≠ _; rw [add_block]; exact Nat.ne_of_lt (Nat.lt_of_lt_of_le (by have := World.block_lt_of_cell? _ _ hw286_0; first | rwa [add_block] at this | exact this) GW298.out)) | (dsimp only; exact Nat.ne_of_lt (Nat.lt_of_lt_of_le (by have := World.block_lt_of_cell? _ _ hw286_0; first | rwa [add_block] at this | exact this) GW298.out))) _).trans (((cell_far (p := ⟨gb298, _, none⟩) (by first | exact Nat.ne_of_lt (Nat.lt_of_lt_of_le (by have := World.block_lt_of_cell? _ _ hw286_0; first | rwa [add_block] at this | exact this) GW298.out) | (rw [add_block]; exact Nat.ne_of_lt (Nat.lt_of_lt_of_le (by have := World.block_lt_of_cell? _ _ hw286_0; first | rwa [add_block] at this | exact this) GW298.out)) | (show (Addr.add _ _).block ≠ _; rw [add_block]; exact Nat.ne_of_lt (Nat.lt_of_lt_of_le (by have := World.block_lt_of_cell? _ _ hw286_0; first | rwa [add_block] at this | exact this) GW298.out)) | (dsimp only; exact Nat.ne_of_lt (Nat.lt_of_lt_of_le (by have := World.block_lt_of_cell? _ _ hw286_0; first | rwa [add_block] at this | exact this) GW298.out))) _).trans (((cell_far (p := ⟨gb298, _, none⟩) (by first | exact Nat.ne_of_lt (Nat.lt_of_lt_of_le (by have := World.block_lt_of_cell? _ _ hw286_0; first | rwa [add_block] at this | exact this) GW298.out) | (rw [add_block]; exact Nat.ne_of_lt (Nat.lt_of_lt_of_le (by have := World.block_lt_of_cell? _ _ hw286_0; first | rwa [add_block] at this | exact this) GW298.out)) | (show (Addr.add _ _).block ≠ _; rw [add_block]; exact Nat.ne_of_lt (Nat.lt_of_lt_of_le (by have := World.block_lt_of_cell? _ _ hw286_0; first | rwa [add_block] at this | exact this) GW298.out)) | (dsimp only; exact Nat.ne_of_lt (Nat.lt_of_lt_of_le (by have := World.block_lt_of_cell? _ _ hw286_0; first | rwa [add_block] at this | exact this) GW298.out))) _).trans (((cell_far (p := ⟨gb298, _, none⟩) (by first | exact Nat.ne_of_lt (Nat.lt_of_lt_of_le (by have := World.block_lt_of_cell? _ _ hw286_0; first | rwa [add_block] at this | exact this) GW298.out) | (rw [add_block]; exact Nat.ne_of_lt (Nat.lt_of_lt_of_le (by have := World.block_lt_of_cell? _ _ hw286_0; first | rwa [add_block] at this | exact this) GW298.out)) | (show (Addr.add _ _).block ≠ _; rw [add_block]; exact Nat.ne_of_lt (Nat.lt_of_lt_of_le (by have := World.block_lt_of_cell? _ _ hw286_0; first | rwa [add_block] at this | exact this) GW298.out)) | (dsimp only; exact Nat.ne_of_lt (Nat.lt_of_lt_of_le (by have := World.block_lt_of_cell? _ _ hw286_0; first | rwa [add_block] at this | exact this) GW298.out))) _).trans (hHeld.2.2.2.2.2.1)))))))))), ((cell_far (p := ⟨gb298, _, none⟩) (by first | exact Nat.ne_of_lt (Nat.lt_of_lt_of_le (by have := World.block_lt_of_cell? _ _ hw286_1; first | rwa [add_block] at this | exact this) GW298.out) | (rw [add_block]; exact Nat.ne_of_lt (Nat.lt_of_lt_of_le (by have := World.block_lt_of_cell? _ _ hw286_1; first | rwa [add_block] at this | exact this) GW298.out)) | (show (Addr.add _ _).block ≠ _; rw [add_block]; exact Nat.ne_of_lt (Nat.lt_of_lt_of_le (by have := World.block_lt_of_cell? _ _ hw286_1; first | rwa [add_block] at this | exact this) GW298.out)) | (dsimp only; exact Nat.ne_of_lt (Nat.lt_of_lt_of_le (by have := World.block_lt_of_cell? _ _ hw286_1; first | rwa [add_block] at this | exact this) GW298.out))) _).trans (((cell_far (p := ⟨gb298, _, none⟩) (by first | exact Nat.ne_of_lt (Nat.lt_of_lt_of_le (by have := World.block_lt_of_cell? _ _ hw286_1; first | rwa [add_block] at this | exact this) GW298.out) | (rw [add_block]; exact Nat.ne_of_lt (Nat.lt_of_lt_of_le (by have := World.block_lt_of_cell? _ _ hw286_1; first | rwa [add_block] at this | exact this) GW298.out)) | (show (Addr.add _ _).block ≠ _; rw [add_block]; exact Nat.ne_of_lt (Nat.lt_of_lt_of_le (by have := World.block_lt_of_cell? _ _ hw286_1; first | rwa [add_block] at this | exact this) GW298.out)) | (dsimp only; exact Nat.ne_of_lt (Nat.lt_of_lt_of_le (by have := World.block_lt_of_cell? _ _ hw286_1; first | rwa [add_block] at this | exact this) GW298.out))) _).trans (((cell_far (p := ⟨gb298, _, none⟩) (by first | exact Nat.ne_of_lt (Nat.lt_of_lt_of_le (by have := World.block_lt_of_cell? _ _ hw286_1; first | rwa [add_block] at this | exact this) GW298.out) | (rw [add_block]; exact Nat.ne_of_lt (Nat.lt_of_lt_of_le (by have := World.block_lt_of_cell? _ _ hw286_1; first | rwa [add_block] at this | exact this) GW298.out)) | (show (Addr.add _ _).block ≠ _; rw [add_block]; exact Nat.ne_of_lt (Nat.lt_of_lt_of_le (by have := World.block_lt_of_cell? _ _ hw286_1; first | rwa [add_block] at this | exact this) GW298.out)) | (dsimp only; exact Nat.ne_of_lt (Nat.lt_of_lt_of_le (by have := World.block_lt_of_cell? _ _ hw286_1; first | rwa [add_block] at this | exact this) GW298.out))) _).trans (((cell_far (p := ⟨gb298, _, none⟩) (by first | exact Nat.ne_of_lt (Nat.lt_of_lt_of_le (by have := World.block_lt_of_cell? _ _ hw286_1; first | rwa [add_block] at this | exact this) GW298.out) | (rw [add_block]; exact Nat.ne_of_lt (Nat.lt_of_lt_of_le (by have := World.block_lt_of_cell? _ _ hw286_1; first | rwa [add_block] at this | exact this) GW298.out)) | (show (Addr.add _ _).block ≠ _; rw [add_block]; exact Nat.ne_of_lt (Nat.lt_of_lt_of_le (by have := World.block_lt_of_cell? _ _ hw286_1; first | rwa [add_block] at this | exact this) GW298.out)) | (dsimp only; exact Nat.ne_of_lt (Nat.lt_of_lt_of_le (by have := World.block_lt_of_cell? _ _ hw286_1; first | rwa [add_block] at this | exact this) GW298.out))) _).trans (((cell_far (p := ⟨gb298, _, none⟩) (by first | exact Nat.ne_of_lt (Nat.lt_of_lt_of_le (by have := World.block_lt_of_cell? _ _ hw286_1; first | rwa [add_block] at this | exact this) GW298.out) | (rw [add_block]; exact Nat.ne_of_lt (Nat.lt_of_lt_of_le (by have := World.block_lt_of_cell? _ _ hw286_1; first | rwa [add_block] at this | exact this) GW298.out)) | (show (Addr.add _ _).block ≠ _; rw [add_block]; exact Nat.ne_of_lt (Nat.lt_of_lt_of_le (by have := World.block_lt_of_cell? _ _ hw286_1; first | rwa [add_block] at this | exact this) GW298.out)) | (dsimp only; exact Nat.ne_of_lt (Nat.lt_of_lt_of_le (by have := World.block_lt_of_cell? _ _ hw286_1; first | rwa [add_block] at this | exact this) GW298.out))) _).trans (hHeld.2.2.2.2.2.2.1)))))))))), ((cell_far (p := ⟨gb298, _, none⟩) (by first | exact Nat.ne_of_lt (Nat.lt_of_lt_of_le (by have := World.block_lt_of_cell? _ _ hw287_0; first | rwa [add_block] at this | exact this) GW298.out) | (rw [add_block]; exact Nat.ne_of_lt (Nat.lt_of_lt_of_le (by have := World.block_lt_of_cell? _ _ hw287_0; first | rwa [add_block] at this | exact this) GW298.out)) | (show (Addr.add _ _).block ≠ _; rw [add_block]; exact Nat.ne_of_lt (Nat.lt_of_lt_of_le (by have := World.block_lt_of_cell? _ _ hw287_0; first | rwa [add_block] at this | exact this) GW298.out)) | (dsimp only; exact Nat.ne_of_lt (Nat.lt_of_lt_of_le (by have := World.block_lt_of_cell? _ _ hw287_0; first | rwa [add_block] at this | exact this) GW298.out))) _).trans (((cell_far (p := ⟨gb298, _, none⟩) (by first | exact Nat.ne_of_lt (Nat.lt_of_lt_of_le (by have := World.block_lt_of_cell? _ _ hw287_0; first | rwa [add_block] at this | exact this) GW298.out) | (rw [add_block]; exact Nat.ne_of_lt (Nat.lt_of_lt_of_le (by have := World.block_lt_of_cell? _ _ hw287_0; first | rwa [add_block] at this | exact this) GW298.out)) | (show (Addr.add _ _).block ≠ _; rw [add_block]; exact Nat.ne_of_lt (Nat.lt_of_lt_of_le (by have := World.block_lt_of_cell? _ _ hw287_0; first | rwa [add_block] at this | exact this) GW298.out)) | (dsimp only; exact Nat.ne_of_lt (Nat.lt_of_lt_of_le (by have := World.block_lt_of_cell? _ _ hw287_0; first | rwa [add_block] at this | exact this) GW298.out))) _).trans (((cell_far (p := ⟨gb298, _, none⟩) (by first | exact Nat.ne_of_lt (Nat.lt_of_lt_of_le (by have := World.block_lt_of_cell? _ _ hw287_0; first | rwa [add_block] at this | exact this) GW298.out) | (rw [add_block]; exact Nat.ne_of_lt (Nat.lt_of_lt_of_le (by have := World.block_lt_of_cell? _ _ hw287_0; first | rwa [add_block] at this | exact this) GW298.out)) | (show (Addr.add _ _).block ≠ _; rw [add_block]; exact Nat.ne_of_lt (Nat.lt_of_lt_of_le (by have := World.block_lt_of_cell? _ _ hw287_0; first | rwa [add_block] at this | exact this) GW298.out)) | (dsimp only; exact Nat.ne_of_lt (Nat.lt_of_lt_of_le (by have := World.block_lt_of_cell? _ _ hw287_0; first | rwa [add_block] at this | exact this) GW298.out))) _).trans (((cell_far (p := ⟨gb298, _, none⟩) (by first | exact Nat.ne_of_lt (Nat.lt_of_lt_of_le (by have := World.block_lt_of_cell? _ _ hw287_0; first | rwa [add_block] at this | exact this) GW298.out) | (rw [add_block]; exact Nat.ne_of_lt (Nat.lt_of_lt_of_le (by have := World.block_lt_of_cell? _ _ hw287_0; first | rwa [add_block] at this | exact this) GW298.out)) | (show (Addr.add _ _).block ≠ _; rw [add_block]; exact Nat.ne_of_lt (Nat.lt_of_lt_of_le (by have := World.block_lt_of_cell? _ _ hw287_0; first | rwa [add_block] at this | exact this) GW298.out)) | (dsimp only; exact Nat.ne_of_lt (Nat.lt_of_lt_of_le (by have := World.block_lt_of_cell? _ _ hw287_0; first | rwa [add_block] at this | exact this) GW298.out))) _).trans (((cell_far (p := ⟨gb298, _, none⟩) (by first | exact Nat.ne_of_lt (Nat.lt_of_lt_of_le (by have := World.block_lt_of_cell? _ _ hw287_0; first | rwa [add_block] at this | exact this) GW298.out) | (rw [add_block]; exact Nat.ne_of_lt (Nat.lt_of_lt_of_le (by have := World.block_lt_of_cell? _ _ hw287_0; first | rwa [add_block] at this | exact this) GW298.out)) | (show (Addr.add _ _).block ≠ _; rw [add_block]; exact Nat.ne_of_lt (Nat.lt_of_lt_of_le (by have := World.block_lt_of_cell? _ _ hw287_0; first | rwa [add_block] at this | exact this) GW298.out)) | (dsimp only; exact Nat.ne_of_lt (Nat.lt_of_lt_of_le (by have := World.block_lt_of_cell? _ _ hw287_0; first | rwa [add_block] at this | exact this) GW298.out))) _).trans (hHeld.2.2.2.2.2.2.2.1)))))))))), ((cell_far (p := ⟨gb298, _, none⟩) (by first | exact Nat.ne_of_lt (Nat.lt_of_lt_of_le (by have := World.block_lt_of_cell? _ _ hw287_1; first | rwa [add_block] at this | exact this) GW298.out) | (rw [add_block]; exact Nat.ne_of_lt (Nat.lt_of_lt_of_le (by have := World.block_lt_of_cell? _ _ hw287_1; first | rwa [add_block] at this | exact this) GW298.out)) | (show (Addr.add _ _).block ≠ _; rw [add_block]; exact Nat.ne_of_lt (Nat.lt_of_lt_of_le (by have := World.block_lt_of_cell? _ _ hw287_1; first | rwa [add_block] at this | exact this) GW298.out)) | (dsimp only; exact Nat.ne_of_lt (Nat.lt_of_lt_of_le (by have := World.block_lt_of_cell? _ _ hw287_1; first | rwa [add_block] at this | exact this) GW298.out))) _).trans (((cell_far (p := ⟨gb298, _, none⟩) (by first | exact Nat.ne_of_lt (Nat.lt_of_lt_of_le (by have := World.block_lt_of_cell? _ _ hw287_1; first | rwa [add_block] at this | exact this) GW298.out) | (rw [add_block]; exact Nat.ne_of_lt (Nat.lt_of_lt_of_le (by have := World.block_lt_of_cell? _ _ hw287_1; first | rwa [add_block] at this | exact this) GW298.out)) | (show (Addr.add _ _).block ≠ _; rw [add_block]; exact Nat.ne_of_lt (Nat.lt_of_lt_of_le (by have := World.block_lt_of_cell? _ _ hw287_1; first | rwa [add_block] at this | exact this) GW298.out)) | (dsimp only; exact Nat.ne_of_lt (Nat.lt_of_lt_of_le (by have := World.block_lt_of_cell? _ _ hw287_1; first | rwa [add_block] at this | exact this) GW298.out))) _).trans (((cell_far (p := ⟨gb298, _, none⟩) (by first | exact Nat.ne_of_lt (Nat.lt_of_lt_of_le (by have := World.block_lt_of_cell? _ _ hw287_1; first | rwa [add_block] at this | exact this) GW298.out) | (rw [add_block]; exact Nat.ne_of_lt (Nat.lt_of_lt_of_le (by have := World.block_lt_of_cell? _ _ hw287_1; first | rwa [add_block] at this | exact this) GW298.out)) | (show (Addr.add _ _).block ≠ _; rw [add_block]; exact Nat.ne_of_lt (Nat.lt_of_lt_of_le (by have := World.block_lt_of_cell? _ _ hw287_1; first | rwa [add_block] at this | exact this) GW298.out)) | (dsimp only; exact Nat.ne_of_lt (Nat.lt_of_lt_of_le (by have := World.block_lt_of_cell? _ _ hw287_1; first | rwa [add_block] at this | exact this) GW298.out))) _).trans (((cell_far (p := ⟨gb298, _, none⟩) (by first | exact Nat.ne_of_lt (Nat.lt_of_lt_of_le (by have := World.block_lt_of_cell? _ _ hw287_1; first | rwa [add_block] at this | exact this) GW298.out) | (rw [add_block]; exact Nat.ne_of_lt (Nat.lt_of_lt_of_le (by have := World.block_lt_of_cell? _ _ hw287_1; first | rwa [add_block] at this | exact this) GW298.out)) | (show (Addr.add _ _).block ≠ _; rw [add_block]; exact Nat.ne_of_lt (Nat.lt_of_lt_of_le (by have := World.block_lt_of_cell? _ _ hw287_1; first | rwa [add_block] at this | exact this) GW298.out)) | (dsimp only; exact Nat.ne_of_lt (Nat.lt_of_lt_of_le (by have := World.block_lt_of_cell? _ _ hw287_1; first | rwa [add_block] at this | exact this) GW298.out))) _).trans (((cell_far (p := ⟨gb298, _, none⟩) (by first | exact Nat.ne_of_lt (Nat.lt_of_lt_of_le (by have := World.block_lt_of_cell? _ _ hw287_1; first | rwa [add_block] at this | exact this) GW298.out) | (rw [add_block]; exact Nat.ne_of_lt (Nat.lt_of_lt_of_le (by have := World.block_lt_of_cell? _ _ hw287_1; first | rwa [add_block] at this | exact this) GW298.out)) | (show (Addr.add _ _).block ≠ _; rw [add_block]; exact Nat.ne_of_lt (Nat.lt_of_lt_of_le (by have := World.block_lt_of_cell? _ _ hw287_1; first | rwa [add_block] at this | exact this) GW298.out)) | (dsimp only; exact Nat.ne_of_lt (Nat.lt_of_lt_of_le (by have := World.block_lt_of_cell? _ _ hw287_1; first | rwa [add_block] at this | exact this) GW298.out))) _).trans (hHeld.2.2.2.2.2.2.2.2))))))))))⟩ (fun hHeld => ?_)
            clear hK K
            refine pure_ (i := 17) (N := some 9) (v := ?_) (a' := ?_) #[true, true, true, true, true, true, true, true, true, true, true, true, true, true, true, true, true, true] rfl rfl (any_of HT_.out (by kernel_rfl)) (fun _ _ _ h => h) (Or.inl ⟨by rfl, ?_⟩) ?_ ?_
            rotate_left
            · intro w'
              go_simp
              with_reducible rfl
            rotate_left
            · simp only [Act.put, List.setIfInBounds_toArray, List.set_cons_zero, List.set_cons_succ, i64_w, i32_w]
              rfl
            refine done_ (done_of HT_.out (by kernel_rfl)) ?_
            have hnb46 := NB275_285.out
            have hnc46 := NB285_275.out
            have hnb47 := NB275_298.out
            have hnc47 := NB298_275.out
            have hcz48_0 : w38.cell? ⟨gb275, 0, none⟩ = some (.slice none 0 0) := (blk_cell BK275.out 0).trans rfl
            have hcz48_1 : w38.cell? ⟨gb275, 1, none⟩ = some (.int .i64 x276001_1) := (blk_cell BK275.out 1).trans rfl
            have hcz48_2 : w38.cell? ⟨gb275, 2, none⟩ = some (.slice none 0 0) := (blk_cell BK275.out 2).trans rfl
            have hcz48_3 : w38.cell? ⟨gb275, 3, none⟩ = some (.int .i64 x276003_1) := (blk_cell BK275.out 3).trans rfl
            have hcz48_4 : w38.cell? ⟨gb275, 4, none⟩ = some (.bool x276004_1) := (blk_cell BK275.out 4).trans rfl
            have hfz48_0 := blk_frozen BK275.out 0
            have hfz48_1 := blk_frozen BK275.out 1
            have hfz48_2 := blk_frozen BK275.out 2
            have hfz48_3 := blk_frozen BK275.out 3
            have hfz48_4 := blk_frozen BK275.out 4
            try go_wp2
            refine bodyPost_ret (results_ct rfl _ _ gb275 40 #[.slice none 0 0, .int .i64 0, .slice none 0 0, .int .i64 0, .bool false] (0, 0) _ rfl (by (with_reducible repeat (first | refine blk_drewN ?_ _ | refine blk_drew ?_ | refine blk_alloc ?_ _)); refine blk_put (cs := #[.slice none 0 0, .int .i64 0, .slice none 0 0, .int .i64 0, .bool x276004_1]) ?_ 4 _ rfl; (with_reducible repeat (first | refine blk_drewN ?_ _ | refine blk_drew ?_ | refine blk_alloc ?_ _)); refine blk_put (cs := #[.slice none 0 0, .int .i64 0, .slice none 0 0, .int .i64 x276003_1, .bool x276004_1]) ?_ 3 _ rfl; (with_reducible repeat (first | refine blk_drewN ?_ _ | refine blk_drew ?_ | refine blk_alloc ?_ _)); refine blk_put (cs := #[.slice none 0 0, .int .i64 0, .slice none 0 0, .int .i64 x276003_1, .bool x276004_1]) ?_ 2 _ rfl; (with_reducible repeat (first | refine blk_drewN ?_ _ | refine blk_drew ?_ | refine blk_alloc ?_ _)); refine blk_put (cs := #[.slice none 0 0, .int .i64 x276001_1, .slice none 0 0, .int .i64 x276003_1, .bool x276004_1]) ?_ 1 _ rfl; (with_reducible repeat (first | refine blk_drewN ?_ _ | refine blk_drew ?_ | refine blk_alloc ?_ _)); refine blk_put (cs := #[.slice none 0 0, .int .i64 x276001_1, .slice none 0 0, .int .i64 x276003_1, .bool x276004_1]) ?_ 0 _ rfl; (with_reducible repeat (first | refine blk_drewN ?_ _ | refine blk_drew ?_ | refine blk_alloc ?_ _)); refine blk_far ?_ NB275_298.out _; (with_reducible repeat (first | refine blk_drewN ?_ _ | refine blk_drew ?_ | refine blk_alloc ?_ _)); refine blk_far ?_ NB275_298.out _; (with_reducible repeat (first | refine blk_drewN ?_ _ | refine blk_drew ?_ | refine blk_alloc ?_ _)); refine blk_far ?_ NB275_298.out _; (with_reducible repeat (first | refine blk_drewN ?_ _ | refine blk_drew ?_ | refine blk_alloc ?_ _)); refine blk_far ?_ NB275_298.out _; (with_reducible repeat (first | refine blk_drewN ?_ _ | refine blk_drew ?_ | refine blk_alloc ?_ _)); refine blk_far ?_ NB275_298.out _; (with_reducible repeat (first | refine blk_drewN ?_ _ | refine blk_drew ?_ | refine blk_alloc ?_ _)); exact BK275.out) Try.underlying40 rfl (by kernel_rfl)) rfl ?_
            exact ⟨_, _, by first | rfl | (simp [errW_none, errW_some] <;> rfl) | (simp [*, errW_none, errW_some] <;> rfl), Kd.S_V (base := w.heap.size) (Kd.S_nil _ _ _ _ _), by first | exact Kd.R_nil _ _ _ _ _ | exact Kd.N_nil _ _ _ _ _ | exact Kd.V_nil _ _ _ _ _ | exact Kd.Q_nil _ _ _ _ _ | exact Kd.S_nil _ _ _ _ _, by repeat (first | (with_reducible first | exact HB.out | apply below_alloc | apply pw_below_drewN | apply below_drew1 | refine below_set ?_ GE275.out | refine below_set ?_ GE285.out | refine below_set ?_ GE298.out) | exact HB.out)⟩
        · rw [if_neg c12] at H
          exact absurd H (by simp)
      · rw [if_neg c11] at H
        have c11b0 : decide (x7_1 < (l1.length : Int)) = false := decide_eq_false c11
        clear c11
        simp only [Option.some.injEq, Prod.mk.injEq] at H
        obtain ⟨rfl, rfl, rfl, rfl, rfl, rfl⟩ := H
        have hnb49 := NB285_275.out
        have hnc49 := NB275_285.out
        have hcz50_0 : wr.cell? ⟨gb285, 0, none⟩ = some (u286000) := (blk_cell BK285.out 0).trans rfl
        have hcz50_1 : wr.cell? ⟨gb285, 1, none⟩ = some (.int .i64 x286001_1) := (blk_cell BK285.out 1).trans rfl
        have hcz50_2 : wr.cell? ⟨gb285, 2, none⟩ = some (u286002) := (blk_cell BK285.out 2).trans rfl
        have hcz50_3 : wr.cell? ⟨gb285, 3, none⟩ = some (.int .i64 x286003_1) := (blk_cell BK285.out 3).trans rfl
        have hcz50_4 : wr.cell? ⟨gb285, 4, none⟩ = some (.bool x286004_1) := (blk_cell BK285.out 4).trans rfl
        have hfz50_0 := blk_frozen BK285.out 0
        have hfz50_1 := blk_frozen BK285.out 1
        have hfz50_2 := blk_frozen BK285.out 2
        have hfz50_3 := blk_frozen BK285.out 3
        have hfz50_4 := blk_frozen BK285.out 4
        obtain ⟨Ao51, co51, eo51⟩ := Kd.V_slice HO_286000.out
        subst eo51
        have hcz52_0 : wr.cell? ⟨gb275, 0, none⟩ = some (.slice none 0 0) := (blk_cell BK275.out 0).trans rfl
        have hcz52_1 : wr.cell? ⟨gb275, 1, none⟩ = some (.int .i64 x276001_1) := (blk_cell BK275.out 1).trans rfl
        have hcz52_2 : wr.cell? ⟨gb275, 2, none⟩ = some (.slice none 0 0) := (blk_cell BK275.out 2).trans rfl
        have hcz52_3 : wr.cell? ⟨gb275, 3, none⟩ = some (.int .i64 x276003_1) := (blk_cell BK275.out 3).trans rfl
        have hcz52_4 : wr.cell? ⟨gb275, 4, none⟩ = some (.bool x276004_1) := (blk_cell BK275.out 4).trans rfl
        have hfz52_0 := blk_frozen BK275.out 0
        have hfz52_1 := blk_frozen BK275.out 1
        have hfz52_2 := blk_frozen BK275.out 2
        have hfz52_3 := blk_frozen BK275.out 3
        have hfz52_4 := blk_frozen BK275.out 4
        obtain ⟨Ao53, co53, eo53⟩ := Kd.R_slice HO_286002.out
        subst eo53
        go_wp2
        refine bodyPost_ret (results_ct rfl _ _ gb275 40 #[.slice Ao51 x286000_1.length co51, .int .i64 x286001_1, .slice Ao53 x286002_1.length co53, .int .i64 x286003_1, .bool x286004_1] (0, 0) _ rfl (by (with_reducible repeat (first | refine blk_drewN ?_ _ | refine blk_drew ?_ | refine blk_alloc ?_ _)); refine blk_put (cs := #[.slice Ao51 x286000_1.length co51, .int .i64 x286001_1, .slice Ao53 x286002_1.length co53, .int .i64 x286003_1, .bool x276004_1]) ?_ 4 _ rfl; (with_reducible repeat (first | refine blk_drewN ?_ _ | refine blk_drew ?_ | refine blk_alloc ?_ _)); refine blk_put (cs := #[.slice Ao51 x286000_1.length co51, .int .i64 x286001_1, .slice Ao53 x286002_1.length co53, .int .i64 x276003_1, .bool x276004_1]) ?_ 3 _ rfl; (with_reducible repeat (first | refine blk_drewN ?_ _ | refine blk_drew ?_ | refine blk_alloc ?_ _)); refine blk_put (cs := #[.slice Ao51 x286000_1.length co51, .int .i64 x286001_1, .slice none 0 0, .int .i64 x276003_1, .bool x276004_1]) ?_ 2 _ rfl; (with_reducible repeat (first | refine blk_drewN ?_ _ | refine blk_drew ?_ | refine blk_alloc ?_ _)); refine blk_put (cs := #[.slice Ao51 x286000_1.length co51, .int .i64 x276001_1, .slice none 0 0, .int .i64 x276003_1, .bool x276004_1]) ?_ 1 _ rfl; (with_reducible repeat (first | refine blk_drewN ?_ _ | refine blk_drew ?_ | refine blk_alloc ?_ _)); refine blk_put (cs := #[.slice none 0 0, .int .i64 x276001_1, .slice none 0 0, .int .i64 x276003_1, .bool x276004_1]) ?_ 0 _ rfl; (with_reducible repeat (first | refine blk_drewN ?_ _ | refine blk_drew ?_ | refine blk_alloc ?_ _)); exact BK275.out) Try.underlying40 rfl (by kernel_rfl)) rfl ?_
        exact ⟨_, _, by first | rfl | (simp [errW_none, errW_some] <;> rfl) | (simp [*, errW_none, errW_some] <;> rfl), by (with_reducible repeat (first | apply Kd.V_alloc | apply Kd.V_drewN | apply Kd.V_drew)); exact Kd.V_mono (Kd.V_far (p := ⟨gb275, 4, none⟩) (Kd.V_far (p := ⟨gb275, 3, none⟩) (Kd.V_far (p := ⟨gb275, 2, none⟩) (Kd.V_far (p := ⟨gb275, 1, none⟩) (Kd.V_far (p := ⟨gb275, 0, none⟩) (Kd.V_mono HO_286000.out (fun k_ hk => (⟨hk, hk.2.2.1⟩ : _ ∧ k_ ≠ gb275))) (fun _ hk => hk.2) (.slice Ao51 x286000_1.length co51)) (fun _ hk => hk.2) (.int .i64 x286001_1)) (fun _ hk => hk.2) (.slice Ao53 x286002_1.length co53)) (fun _ hk => hk.2) (.int .i64 x286003_1)) (fun _ hk => hk.2) (.bool x286004_1)) (fun _ hk => ⟨hk.1.1, hk.1.2.1⟩), by (with_reducible repeat (first | apply Kd.R_alloc | apply Kd.R_drewN | apply Kd.R_drew)); exact Kd.R_mono (Kd.R_far (p := ⟨gb275, 4, none⟩) (Kd.R_far (p := ⟨gb275, 3, none⟩) (Kd.R_far (p := ⟨gb275, 2, none⟩) (Kd.R_far (p := ⟨gb275, 1, none⟩) (Kd.R_far (p := ⟨gb275, 0, none⟩) (Kd.R_types HO_286002.out BK275.out (by decide)) (fun _ hk => hk.2) (.slice Ao51 x286000_1.length co51)) (fun _ hk => hk.2) (.int .i64 x286001_1)) (fun _ hk => hk.2) (.slice Ao53 x286002_1.length co53)) (fun _ hk => hk.2) (.int .i64 x286003_1)) (fun _ hk => hk.2) (.bool x286004_1)) (fun _ hk => hk.1), by repeat (first | (with_reducible first | exact HB.out | apply below_alloc | apply pw_below_drewN | apply below_drew1 | refine below_set ?_ GE275.out | refine below_set ?_ GE285.out) | exact HB.out)⟩

end Go.Proofs.Ytkhopknpadncdaa.PDiskMemory
