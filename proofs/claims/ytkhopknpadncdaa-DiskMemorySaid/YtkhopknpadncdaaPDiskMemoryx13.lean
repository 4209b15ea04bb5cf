-- PRINTED BY print.sh 35421559b90ae4d0a3588c463048766b98c2df88dd9212a6774a882060cdf62d: not written by this session
import Derived.Test.YtkhopknpadncdaaPDiskMemoryx0
import Derived.Test.YtkhopknpadncdaaPDiskMemoryx7
import Derived.Test.YtkhopknpadncdaaPDiskMemoryx11
import Derived.Test.YtkhopknpadncdaaPDiskMemoryx12
namespace Go.Proofs.Ytkhopknpadncdaa.PDiskMemory
open Go.RowKit Go.Proofs.YtkhopknpadncdaaW.PrintWords Go.Proofs.YtkhopknpadncdaaW.PrintLast Go.Proofs.YtkhopknpadncdaaW.PrintMore
attribute [local go_sem] max2_int min2_int max_two min_two max_three min_three max_four min_four   -- for this text's walks alone
set_option linter.unusedVariables false
set_option linter.unusedSimpArgs false

mutual
def leatref18_units.l0 : Nat → List (S109) → List (S109) → Int → ByteArray → List Int → List (S109) → Option (ByteArray × List Int × (List (S109)))
  | 0, _, _, _, _, _, _ => none
  | k + 1, x1, x5, x6, x356000, x356001, x356002 => if x6 < (x356002.length : Int) then (if 0 ≤ x6 then (if x5.length < 5864062014805 then (leatref18_units.l0 k x1 (x5 ++ [(⟨(rd_T109 x356002 x6).f0, (rd_T109 x356002 x6).f1, (rd_T109 x356002 x6).f2⟩ : S109)]) (wrap64 (x6 + 1)) x356000 x356001 x356002) else (none)) else (none)) else (leatref18_units.l1 k x1 x5 0 x356000 x356001 x356002)
def leatref18_units.l1 : Nat → List (S109) → List (S109) → Int → ByteArray → List Int → List (S109) → Option (ByteArray × List Int × (List (S109)))
  | 0, _, _, _, _, _, _ => none
  | k + 1, x1, x5, x7, x356000, x356001, x356002 => if x7 < (x1.length : Int) then (if 0 ≤ x7 then (if x5.length < 5864062014805 then (leatref18_units.l1 k x1 (x5 ++ [(⟨(rd_T109 x1 x7).f0, (rd_T109 x1 x7).f1, (rd_T109 x1 x7).f2⟩ : S109)]) (wrap64 (x7 + 1)) x356000 x356001 x356002) else (none)) else (none)) else (some (x356000, x356001, x5))
end
def leatref18_units.f (k : Nat) (a0_0 : ByteArray) (l0_1 : List Int) (l0_2 : List (S109)) (l1 : List (S109)) : Option (ByteArray × List Int × (List (S109))) := leatref18_units.l0 k l1 (([] : List (S109))) 0 a0_0 l0_1 l0_2
theorem leatref18_units.mono_l : ∀ k, (∀ y0 y1 y2 y3 y4 y5, LeO (leatref18_units.l0 k y0 y1 y2 y3 y4 y5) (leatref18_units.l0 (k + 1) y0 y1 y2 y3 y4 y5)) ∧ (∀ y0 y1 y2 y3 y4 y5, LeO (leatref18_units.l1 k y0 y1 y2 y3 y4 y5) (leatref18_units.l1 (k + 1) y0 y1 y2 y3 y4 y5))
  | 0 => ⟨fun _ _ _ _ _ _ r h => by simp [leatref18_units.l0] at h, fun _ _ _ _ _ _ r h => by simp [leatref18_units.l1] at h⟩
  | k + 1 => by
    obtain ⟨ih0, ih1⟩ := leatref18_units.mono_l k
    refine ⟨?_, ?_⟩
    · intro y0 y1 y2 y3 y4 y5
      unfold leatref18_units.l0
      repeat' first
      | (with_reducible exact ih0 _ _ _ _ _ _)
      | (with_reducible exact ih1 _ _ _ _ _ _)
      | (with_reducible exact LeO.refl _)
      | (with_reducible exact LeO.none _)
      | (with_reducible refine LeO.ite ?_ ?_)
      | (with_reducible refine LeO.bind ?_ (fun _ => ?_))
      | exact ih0 _ _ _ _ _ _
      | exact ih1 _ _ _ _ _ _
      | exact LeO.none _
      | refine LeO.ite ?_ ?_
      | refine LeO.bind ?_ (fun _ => ?_)
    · intro y0 y1 y2 y3 y4 y5
      unfold leatref18_units.l1
      repeat' first
      | (with_reducible exact ih0 _ _ _ _ _ _)
      | (with_reducible exact ih1 _ _ _ _ _ _)
      | (with_reducible exact LeO.refl _)
      | (with_reducible exact LeO.none _)
      | (with_reducible refine LeO.ite ?_ ?_)
      | (with_reducible refine LeO.bind ?_ (fun _ => ?_))
      | exact ih0 _ _ _ _ _ _
      | exact ih1 _ _ _ _ _ _
      | exact LeO.none _
      | refine LeO.ite ?_ ?_
      | refine LeO.bind ?_ (fun _ => ?_)
theorem leatref18_units.mono : ∀ a0 a1 a2 a3 k, LeO (leatref18_units.f k a0 a1 a2 a3) (leatref18_units.f (k + 1) a0 a1 a2 a3) := by
  intro a0 a1 a2 a3 k
  obtain ⟨ih0, ih1⟩ := leatref18_units.mono_l k
  unfold leatref18_units.f
  repeat' first
      | (with_reducible exact ih0 _ _ _ _ _ _)
      | (with_reducible exact ih1 _ _ _ _ _ _)
      | (with_reducible exact LeO.refl _)
      | (with_reducible exact LeO.none _)
      | (with_reducible refine LeO.ite ?_ ?_)
      | (with_reducible refine LeO.bind ?_ (fun _ => ?_))
      | exact ih0 _ _ _ _ _ _
      | exact ih1 _ _ _ _ _ _
      | exact LeO.none _
      | refine LeO.ite ?_ ?_
      | refine LeO.bind ?_ (fun _ => ?_)
def leatref18_adds.l0 : Nat → List Int → List (S109) → Int → Option ((List (S109)))
  | 0, _, _, _ => none
  | k + 1, x0, x3, x4 => if x4 < (x0.length : Int) then (if 0 ≤ x4 then (if x3.length < 5864062014805 then (leatref18_adds.l0 k x0 (x3 ++ [(⟨false, 0, rd x0 x4⟩ : S109)]) (wrap64 (x4 + 1))) else (none)) else (none)) else (some x3)
def leatref18_adds.f (k : Nat) (l0 : List Int) : Option ((List (S109))) := leatref18_adds.l0 k l0 (([] : List (S109))) 0
theorem leatref18_adds.mono_l : ∀ k, (∀ y0 y1 y2, LeO (leatref18_adds.l0 k y0 y1 y2) (leatref18_adds.l0 (k + 1) y0 y1 y2))
  | 0 => fun _ _ _ r h => by simp [leatref18_adds.l0] at h
  | k + 1 => by
    have ih0 := leatref18_adds.mono_l k
    · intro y0 y1 y2
      unfold leatref18_adds.l0
      repeat' first
      | (with_reducible exact ih0 _ _ _)
      | (with_reducible exact LeO.refl _)
      | (with_reducible exact LeO.none _)
      | (with_reducible refine LeO.ite ?_ ?_)
      | (with_reducible refine LeO.bind ?_ (fun _ => ?_))
      | exact ih0 _ _ _
      | exact LeO.none _
      | refine LeO.ite ?_ ?_
      | refine LeO.bind ?_ (fun _ => ?_)
theorem leatref18_adds.mono : ∀ a0 k, LeO (leatref18_adds.f k a0) (leatref18_adds.f (k + 1) a0) := by
  intro a0 k
  have ih0 := leatref18_adds.mono_l k
  unfold leatref18_adds.f
  repeat' first
      | (with_reducible exact ih0 _ _ _)
      | (with_reducible exact LeO.refl _)
      | (with_reducible exact LeO.none _)
      | (with_reducible refine LeO.ite ?_ ?_)
      | (with_reducible refine LeO.bind ?_ (fun _ => ?_))
      | exact ih0 _ _ _
      | exact LeO.none _
      | refine LeO.ite ?_ ?_
      | refine LeO.bind ?_ (fun _ => ?_)
set_option maxHeartbeats 8000000 in
set_option maxRecDepth 100000 in
theorem leatref18_adds.calls (k : Nat) (A0 : Option Addr) (c0 : Nat) (l0 : List Int) (r : List (S109)) (w : World) (hr0 : Kd.C (Kd.int .u8) w A0 l0.length l0) (hc0 : l0.length ≤ c0) (h : leatref18_adds.f k l0 = some r) :
    Calls Try.prog 73 #[.slice A0 l0.length c0] w fun e w' => ∃ v0_ : Value, e = .returned (v0_) ∧ Kd.R k109 109 w' w.heap.size (fun _ => True) v0_ r ∧ Below w.heap.size w w' := by
  have hu109 := Try.underlying109
  have HR0 := Aside0.mk hr0
  have HC0 := Aside0.mk hc0
  clear hr0 hc0
  have HB := Aside0.mk (Below.refl w.heap.size w)
  have H : (leatref18_adds.l0 k l0 (([] : List (S109))) 0) = some r := h
  clear h
  obtain ⟨y368, hy368⟩ : ∃ y_ : List (S109), y_ = (([] : List (S109))) := ⟨_, rfl⟩
  replace H : (leatref18_adds.l0 k l0 y368 0) = some r := by first | (rw [hy368]; with_reducible exact H) | (have H2_ := (Option.bind_some _ _).symm.trans H; rw [hy368]; with_reducible exact H2_) | (have H2_ := (Option.bind_some _ _).symm.trans H; with_reducible exact H2_) | with_reducible exact H | (rw [hy368]; exact H) | exact H
  have Ny368 := Aside0.mk hy368
  clear hy368
  have H' := Aside0.mk H
  clear H
  go_enter Try.func73, Try.ntmps73
  go_wp2_with (first | ((with_reducible refine gate_dst (N := 5) rfl ?_); refine Kd.R_lit k109 _ 109 ?hg (N := 5) ?hd (xs := ([] : List (S109))) (inner := []) (ok := fun _ => True) (okp := fun _ => True) ?hr ?hp (fun _ hk => hk) trivial (Below.refl _ _) (Nat.le_refl _) (by simp) ?_; (case hd => rfl); (case hg => rfl); (case hr => first | (go_simp; done) | (go_simp; rfl)); (case hp => exact (Reps.none _ _)); intro v369 w2 ho3 hb hg_ hnew_; clear hg_ hnew_; (first | rw [← Ny368.out] at ho3 | (simp only [Int.reduceToNat] at ho3; rw [← Ny368.out] at ho3)); have n0_ := Aside0.mk (Kd.R_lower ho3 (below_size (by repeat (first | (with_reducible first | exact HB.out | apply below_alloc | apply pw_below_drewN | apply below_drew1) | exact HB.out)))); have n1_ := Aside0.mk (below_step (by repeat (first | (with_reducible first | exact HB.out | apply below_alloc | apply pw_below_drewN | apply below_drew1) | exact HB.out)) hb); clear HB; have HO370 := n0_; have HB := n1_; clear n0_ n1_; clear hb ho3))
  go_loopg [3, 4] k (fun kq v3 v4 w' => ∃ (x3_1 : List (S109)) (x4_1 : Int), v4 = .int .i64 x4_1 ∧ Aside0 (leatref18_adds.l0 kq l0 x3_1 x4_1 = some r) ∧ Aside0 (kq ≤ k) ∧ Aside0 (Kd.R k109 109 w' w.heap.size (fun _ => True) v3 x3_1) ∧ Aside0 (Below w.heap.size w w'))
  case atStart => exact ⟨(y368), (0), (by first | rfl | (simp; done) | (simp [*]; done)), H', ⟨Nat.le_refl _⟩, ⟨by (with_reducible repeat (first | apply Kd.R_alloc | apply Kd.R_drewN | apply Kd.R_drew)); exact HO370.out⟩, ⟨by repeat (first | (with_reducible first | exact HB.out | apply below_alloc | apply pw_below_drewN | apply below_drew1) | exact HB.out)⟩⟩
  case round =>
    clear H'
    try clear p2
    obtain ⟨x3_1, x4_1, rfl, HA, HK1, HO_3, HB⟩ := hrel
    cases gk with
    | zero => exact absurd HA.out (by simp [leatref18_adds.l0])
    | succ k1 =>
      have H := HA.out
      clear HA
      simp only [leatref18_adds.l0] at H
      by_cases c4 : x4_1 < (l0.length : Int)
      · rw [if_pos c4] at H
        have c4b0 : decide (x4_1 < (l0.length : Int)) = true := decide_eq_true c4
        clear c4
        by_cases c5 : 0 ≤ x4_1
        · rw [if_pos c5] at H
          have c5b0 : decide (0 ≤ x4_1) = true := decide_eq_true c5
          clear c5
          by_cases c6 : x3_1.length < 5864062014805
          · rw [if_pos c6] at H
            have LMc6 := Aside0.mk c6
            clear c6
            obtain ⟨y372, hy372⟩ : ∃ y_ : List (S109), y_ = (x3_1 ++ [(⟨false, 0, rd l0 x4_1⟩ : S109)]) := ⟨_, rfl⟩
            replace H : (leatref18_adds.l0 k1 l0 y372 (wrap64 (x4_1 + 1))) = some r := by first | (rw [hy372]; with_reducible exact H) | (have H2_ := (Option.bind_some _ _).symm.trans H; rw [hy372]; with_reducible exact H2_) | (have H2_ := (Option.bind_some _ _).symm.trans H; with_reducible exact H2_) | with_reducible exact H | (rw [hy372]; exact H) | exact H
            have Ny372 := Aside0.mk hy372
            clear hy372
            have H' := Aside0.mk H
            clear H
            have p371 : 0 ≤ (x4_1 : Int) := of_decide_eq_true (by first | (with_reducible assumption) | assumption)
            have q371 : x4_1 < (l0.length : Int) := of_decide_eq_true (by first | (with_reducible assumption) | assumption)
            obtain ⟨ad371, e371, hx371_0⟩ := Kd.at_int HR0.out x4_1 p371 q371
            cases e371
            replace hx371_0 := (HB.out.cell (World.block_lt_of_cell? w _ hx371_0)).trans hx371_0
            replace p371 := eq_true p371
            replace q371 := eq_true q371
            go_wp2_with (first | ((with_reducible refine gate_builtin (b := .append) (xs := #[.tmp 12, .tmp 18]) rfl ?_); at_builtin; refine Kd.R_append k109 (w0 := w) w.heap.size rfl (.tmp 12) (.tmp 18) 92 109 (.agg #[(.bool false), (.int .i64 0), (.int .u8 0)]) 24 rfl Try.underlying92 info109 rfl (by decide) (by omega) u3 x3_1 (⟨false, 0, rd l0 x4_1⟩ : S109) [.bool false, .int .i64 0, .int .u8 (rd l0 x4_1)] (fun _ => True) (fun _ => False) rfl rfl ?aP (fun _ hk => hk.elim) ?aF ?aO ?aB ?aS ?aL ?_; (case aP => exact k109_mkM _ _ _ (⟨false, 0, rd l0 x4_1⟩ : S109)); (case aB => exact (by repeat (first | (with_reducible first | exact HB.out | apply below_alloc | apply pw_below_drewN | apply below_drew1) | exact HB.out))); (case aF => exact (fun _ _ => trivial)); (case aO => exact (by (with_reducible repeat (first | apply Kd.R_alloc | apply Kd.R_drewN | apply Kd.R_drew)); exact HO_3.out)); (case aS => exact (below_size (by repeat (first | (with_reducible first | exact HB.out | apply below_alloc | apply pw_below_drewN | apply below_drew1) | exact HB.out)))); (case aL => have := LMc6.out; omega); intro v373 w7 ho hb hg hat; rw [← Ny372.out] at ho; have n0_ := Aside0.mk (hb); have n1_ := Aside0.mk (ho); clear HB; clear HO_3; have HB := n0_; have HO374 := n1_; clear n0_ n1_; clear ho hb hg hat))
            go_roundg k1
            case measure => have := HK1.out; omega
            case rel => exact ⟨(y372), (wrap64 (x4_1 + 1)), (by first | rfl | (simp; done) | (simp [*]; done)), H', ⟨by have := HK1.out; omega⟩, ⟨by (with_reducible repeat (first | apply Kd.R_alloc | apply Kd.R_drewN | apply Kd.R_drew)); exact HO374.out⟩, ⟨by repeat (first | (with_reducible first | exact HB.out | apply below_alloc | apply pw_below_drewN | apply below_drew1) | exact HB.out)⟩⟩
          · rw [if_neg c6] at H
            exact absurd H (by simp)
        · rw [if_neg c5] at H
          exact absurd H (by simp)
      · rw [if_neg c4] at H
        have c4b0 : decide (x4_1 < (l0.length : Int)) = false := decide_eq_false c4
        clear c4
        obtain rfl := Option.some.inj H
        go_wp2
        go_ret
        exact ⟨_, by first | rfl | (simp [errW_none, errW_some] <;> rfl) | (simp [*, errW_none, errW_some] <;> rfl), by (with_reducible repeat (first | apply Kd.R_alloc | apply Kd.R_drewN | apply Kd.R_drew)); exact HO_3.out, by repeat (first | (with_reducible first | exact HB.out | apply below_alloc | apply pw_below_drewN | apply below_drew1) | exact HB.out)⟩

-- NOT PRINTED: function 50 (leatref18_partly)

-- NOT PRINTED: function 51 (leatref18_do)

-- NOT PRINTED: function 18 (leatref18_Do)

-- NOT PRINTED: function 52 (disk_Disk_all)

-- NOT PRINTED: function 19 (disk_Disk_Files)

-- NOT PRINTED: function 20 (disk_Disk_Safe)

def leatref18_All.l0 : Nat → Bool → List (S45) → Int → List (S94) → Int → List (S26) → Int → Bool → Option ((List (S45)))
  | 0, _, _, _, _, _, _, _, _ => none
  | k + 1, x1, x5, x6, x415000, x415001, x415002, x415003, x415004 => if x6 < (x415000.length : Int) then (if 0 ≤ x6 then ((leatref18_Seen.f k ((rd_T94 x415000 x6).f0) ((rd_T94 x415000 x6).f1) ((rd_T94 x415000 x6).f2)).bind fun t419 => (if x1 = true then ((leatref01_Copy.f k ((rd_T94 x415000 x6).f1)).bind fun t423 => (if x5.length < 3518437208883 then (leatref18_All.l0 k x1 (x5 ++ [(⟨(rd_T94 x415000 x6).f0, t423⟩ : S45)]) (wrap64 (x6 + 1)) x415000 x415001 x415002 x415003 x415004) else (none))) else (if x5.length < 3518437208883 then (leatref18_All.l0 k x1 (x5 ++ [(⟨(rd_T94 x415000 x6).f0, t419⟩ : S45)]) (wrap64 (x6 + 1)) x415000 x415001 x415002 x415003 x415004) else (none)))) else (none)) else (some x5)
def leatref18_All.f (k : Nat) (l0_0 : List (S94)) (a0_1 : Int) (l0_2 : List (S26)) (a0_3 : Int) (a0_4 : Bool) (a1 : Bool) : Option ((List (S45))) := leatref18_All.l0 k a1 (([] : List (S45))) 0 l0_0 a0_1 l0_2 a0_3 a0_4
theorem leatref18_All.mono_l : ∀ k, (∀ y0 y1 y2 y3 y4 y5 y6 y7, LeO (leatref18_All.l0 k y0 y1 y2 y3 y4 y5 y6 y7) (leatref18_All.l0 (k + 1) y0 y1 y2 y3 y4 y5 y6 y7))
  | 0 => fun _ _ _ _ _ _ _ _ r h => by simp [leatref18_All.l0] at h
  | k + 1 => by
    have ih0 := leatref18_All.mono_l k
    · intro y0 y1 y2 y3 y4 y5 y6 y7
      unfold leatref18_All.l0
      repeat' first
      | (with_reducible exact ih0 _ _ _ _ _ _ _ _)
      | (with_reducible exact leatref01_Copy.mono _ _)
      | (with_reducible exact leatref18_Seen.mono _ _ _ _)
      | (with_reducible exact LeO.refl _)
      | (with_reducible exact LeO.none _)
      | (with_reducible refine LeO.ite ?_ ?_)
      | (with_reducible refine LeO.bind ?_ (fun _ => ?_))
      | exact ih0 _ _ _ _ _ _ _ _
      | exact leatref01_Copy.mono _ _
      | exact leatref18_Seen.mono _ _ _ _
      | exact LeO.none _
      | refine LeO.ite ?_ ?_
      | refine LeO.bind ?_ (fun _ => ?_)
theorem leatref18_All.mono : ∀ a0 a1 a2 a3 a4 a5 k, LeO (leatref18_All.f k a0 a1 a2 a3 a4 a5) (leatref18_All.f (k + 1) a0 a1 a2 a3 a4 a5) := by
  intro a0 a1 a2 a3 a4 a5 k
  have ih0 := leatref18_All.mono_l k
  unfold leatref18_All.f
  repeat' first
      | (with_reducible exact ih0 _ _ _ _ _ _ _ _)
      | (with_reducible exact leatref01_Copy.mono _ _)
      | (with_reducible exact leatref18_Seen.mono _ _ _ _)
      | (with_reducible exact LeO.refl _)
      | (with_reducible exact LeO.none _)
      | (with_reducible refine LeO.ite ?_ ?_)
      | (with_reducible refine LeO.bind ?_ (fun _ => ?_))
      | exact ih0 _ _ _ _ _ _ _ _
      | exact leatref01_Copy.mono _ _
      | exact leatref18_Seen.mono _ _ _ _
      | exact LeO.none _
      | refine LeO.ite ?_ ?_
      | refine LeO.bind ?_ (fun _ => ?_)
set_option maxHeartbeats 8000000 in
set_option maxRecDepth 100000 in
theorem leatref18_All.calls (k : Nat) (A0_0 : Option Addr) (c0_0 : Nat) (l0_0 : List (S94)) (a0_1 : Int) (A0_2 : Option Addr) (c0_2 : Nat) (l0_2 : List (S26)) (a0_3 : Int) (a0_4 : Bool) (a1 : Bool) (r : List (S45)) (w : World) (hr0_0 : Kd.C k94 w A0_0 l0_0.length l0_0) (hc0_0 : l0_0.length ≤ c0_0) (hr0_2 : Kd.C k26 w A0_2 l0_2.length l0_2) (hc0_2 : l0_2.length ≤ c0_2) (h : leatref18_All.f k l0_0 a0_1 l0_2 a0_3 a0_4 a1 = some r) :
    Calls Try.prog 21 #[.agg #[.slice A0_0 l0_0.length c0_0, .int .i64 a0_1, .slice A0_2 l0_2.length c0_2, .int .i64 a0_3, .bool a0_4], .bool a1] w fun e w' => ∃ v0_ : Value, e = .returned (v0_) ∧ Kd.S k45 45 w' w.heap.size (fun _ => True) v0_ r ∧ Below w.heap.size w w' := by
  have hu40 := Try.underlying40
  have hu94 := Try.underlying94
  have hu45 := Try.underlying45
  have HR0_0 := Aside0.mk hr0_0
  have HC0_0 := Aside0.mk hc0_0
  clear hr0_0 hc0_0
  have HR0_2 := Aside0.mk hr0_2
  have HC0_2 := Aside0.mk hc0_2
  clear hr0_2 hc0_2
  have HB := Aside0.mk (Below.refl w.heap.size w)
  have H : (leatref18_All.l0 k a1 (([] : List (S45))) 0 l0_0 a0_1 l0_2 a0_3 a0_4) = some r := h
  clear h
  obtain ⟨y415, hy415⟩ : ∃ y_ : List (S45), y_ = (([] : List (S45))) := ⟨_, rfl⟩
  replace H : (leatref18_All.l0 k a1 y415 0 l0_0 a0_1 l0_2 a0_3 a0_4) = some r := by first | (rw [hy415]; with_reducible exact H) | (have H2_ := (Option.bind_some _ _).symm.trans H; rw [hy415]; with_reducible exact H2_) | (have H2_ := (Option.bind_some _ _).symm.trans H; with_reducible exact H2_) | with_reducible exact H | (rw [hy415]; exact H) | exact H
  have Ny415 := Aside0.mk hy415
  clear hy415
  have H' := Aside0.mk H
  clear H
  go_enter Try.func21, Try.ntmps21
  go_wp2_with (first | ((with_reducible refine gate_dst (N := 2) rfl ?_); refine box_event ?hg (N := 2) ?hd (cs := #[.slice A0_0 l0_0.length c0_0, .int .i64 a0_1, .slice A0_2 l0_2.length c0_2, .int .i64 a0_3, .bool a0_4]) (t := 40) ?hr ?_; (case hd => rfl); (case hg => rfl); (case hr => first | (go_simp; done) | (go_simp; rfl)); intro gb414 hg w3 hbox hb; have n0_ := Aside0.mk (below_step (by repeat (first | (with_reducible first | exact HB.out | apply below_alloc | apply pw_below_drewN | apply below_drew1) | exact HB.out)) hb); have n1_ := Aside0.mk (hbox); have n2_ := Aside0.mk ((by rw [hg]; exact (below_size (by repeat (first | (with_reducible first | exact HB.out | apply below_alloc | apply pw_below_drewN | apply below_drew1) | exact HB.out))) : w.heap.size ≤ gb414)); have n3_ := Aside0.mk ((by rw [hg]; exact (below_size (by repeat (first | (with_reducible first | exact HB.out | apply below_alloc | apply pw_below_drewN | apply below_drew1) | exact HB.out))) : w.heap.size ≤ gb414)); clear HB; have HB := n0_; have BK414 := n1_; have GW414 := n2_; have GE414 := n3_; clear n0_ n1_ n2_ n3_; clear hb hbox hg) | ((with_reducible refine gate_dst (N := 8) rfl ?_); refine Kd.S_lit k45 _ 45 ?hg (N := 8) ?hd (xs := ([] : List (S45))) (inner := []) (ok := fun _ => True) (okp := fun _ => True) ?hr ?hp (fun _ hk => hk) trivial (Below.refl _ _) (Nat.le_refl _) (by simp) ?_; (case hd => rfl); (case hg => rfl); (case hr => first | (go_simp; done) | (go_simp; rfl)); (case hp => exact (Reps.none _ _)); intro v416 w4 ho5 hb hg_ hnew_; clear hg_ hnew_; (first | rw [← Ny415.out] at ho5 | (simp only [Int.reduceToNat] at ho5; rw [← Ny415.out] at ho5)); have n0_ := Aside0.mk (Kd.S_lower ho5 (below_size (by repeat (first | (with_reducible first | exact HB.out | apply below_alloc | apply pw_below_drewN | apply below_drew1 | refine below_set ?_ GE414.out) | exact HB.out)))); have n1_ := Aside0.mk (blk_below (g := gb414) (o := .cells #[.slice A0_0 l0_0.length c0_0, .int .i64 a0_1, .slice A0_2 l0_2.length c0_2, .int .i64 a0_3, .bool a0_4] 40 (0, 0)) (by (with_reducible repeat (first | refine blk_drewN ?_ _ | refine blk_drew ?_ | refine blk_alloc ?_ _)); exact BK414.out) hb); have n2_ := Aside0.mk (below_step (by repeat (first | (with_reducible first | exact HB.out | apply below_alloc | apply pw_below_drewN | apply below_drew1 | refine below_set ?_ GE414.out) | exact HB.out)) hb); clear BK414; clear HB; have HO417 := n0_; have BK414 := n1_; have HB := n2_; clear n0_ n1_ n2_; clear hb ho5))
  go_loopg [5, 6] k (fun kq v5 v6 w' => ∃ (x5_1 : List (S45)) (x6_1 : Int), v6 = .int .i64 x6_1 ∧ Aside0 (leatref18_All.l0 kq a1 x5_1 x6_1 l0_0 a0_1 l0_2 a0_3 a0_4 = some r) ∧ Aside0 (kq ≤ k) ∧ Aside0 (Kd.S k45 45 w' w.heap.size (fun _ => True) v5 x5_1) ∧ Aside0 (w'.heap[gb414]? = some (.cells #[(.slice A0_0 l0_0.length c0_0), .int .i64 a0_1, (.slice A0_2 l0_2.length c0_2), .int .i64 a0_3, .bool a0_4] 40 (0, 0))) ∧ Aside0 (Below w.heap.size w w'))
  case atStart => exact ⟨(y415), (0), (by first | rfl | (simp; done) | (simp [*]; done)), H', ⟨Nat.le_refl _⟩, ⟨by (with_reducible repeat (first | apply Kd.S_alloc | apply Kd.S_drewN | apply Kd.S_drew)); exact HO417.out⟩, ⟨by (with_reducible repeat (first | refine blk_drewN ?_ _ | refine blk_drew ?_ | refine blk_alloc ?_ _)); exact BK414.out⟩, ⟨by repeat (first | (with_reducible first | exact HB.out | apply below_alloc | apply pw_below_drewN | apply below_drew1 | refine below_set ?_ GE414.out) | exact HB.out)⟩⟩
  case round =>
    clear H'
    try clear c2
    try clear p2
    obtain ⟨x5_1, x6_1, rfl, HA, HK1, HO_5, BK414, HB⟩ := hrel
    cases gk with
    | zero => exact absurd HA.out (by simp [leatref18_All.l0])
    | succ k1 =>
      have H := HA.out
      clear HA
      simp only [leatref18_All.l0] at H
      by_cases c6 : x6_1 < (l0_0.length : Int)
      · rw [if_pos c6] at H
        have c6b0 : decide (x6_1 < (l0_0.length : Int)) = true := decide_eq_true c6
        clear c6
        by_cases c7 : 0 ≤ x6_1
        · rw [if_pos c7] at H
          have c7b0 : decide (0 ≤ x6_1) = true := decide_eq_true c7
          clear c7
          replace H := Option.bind_eq_some_iff.mp H
          obtain ⟨t419, A80, H⟩ := H
          replace H : (if a1 = true then ((leatref01_Copy.f k1 ((rd_T94 l0_0 x6_1).f1)).bind fun t423 => (if x5_1.length < 3518437208883 then (leatref18_All.l0 k1 a1 (x5_1 ++ [(⟨(rd_T94 l0_0 x6_1).f0, t423⟩ : S45)]) (wrap64 (x6_1 + 1)) l0_0 a0_1 l0_2 a0_3 a0_4) else (none))) else (if x5_1.length < 3518437208883 then (leatref18_All.l0 k1 a1 (x5_1 ++ [(⟨(rd_T94 l0_0 x6_1).f0, t419⟩ : S45)]) (wrap64 (x6_1 + 1)) l0_0 a0_1 l0_2 a0_3 a0_4) else (none))) = some r := H
          have A8 := Aside0.mk A80
          clear A80
          by_cases c9 : a1 = true
          · subst c9
            have H1 : ((leatref01_Copy.f k1 ((rd_T94 l0_0 x6_1).f1)).bind fun t423 => (if x5_1.length < 3518437208883 then (leatref18_All.l0 k1 true (x5_1 ++ [(⟨(rd_T94 l0_0 x6_1).f0, t423⟩ : S45)]) (wrap64 (x6_1 + 1)) l0_0 a0_1 l0_2 a0_3 a0_4) else (none))) = some r := by rw [if_pos rfl] at H; exact H
            clear H
            have H := H1
            clear H1
            replace H := Option.bind_eq_some_iff.mp H
            obtain ⟨t423, A100, H⟩ := H
            replace H : (if x5_1.length < 3518437208883 then (leatref18_All.l0 k1 true (x5_1 ++ [(⟨(rd_T94 l0_0 x6_1).f0, t423⟩ : S45)]) (wrap64 (x6_1 + 1)) l0_0 a0_1 l0_2 a0_3 a0_4) else (none)) = some r := H
            have A10 := Aside0.mk A100
            clear A100
            by_cases c11 : x5_1.length < 3518437208883
            · rw [if_pos c11] at H
              have LMc11 := Aside0.mk c11
              clear c11
              obtain ⟨y427, hy427⟩ : ∃ y_ : List (S45), y_ = (x5_1 ++ [(⟨(rd_T94 l0_0 x6_1).f0, t423⟩ : S45)]) := ⟨_, rfl⟩
              replace H : (leatref18_All.l0 k1 true y427 (wrap64 (x6_1 + 1)) l0_0 a0_1 l0_2 a0_3 a0_4) = some r := by first | (rw [hy427]; with_reducible exact H) | (have H2_ := (Option.bind_some _ _).symm.trans H; rw [hy427]; with_reducible exact H2_) | (have H2_ := (Option.bind_some _ _).symm.trans H; with_reducible exact H2_) | with_reducible exact H | (rw [hy427]; exact H) | exact H
              have Ny427 := Aside0.mk hy427
              clear hy427
              have H' := Aside0.mk H
              clear H
              have hcz12_0 : wr.cell? ⟨gb414, 0, none⟩ = some (.slice A0_0 l0_0.length c0_0) := (blk_cell BK414.out 0).trans rfl
              have hcz12_1 : wr.cell? ⟨gb414, 1, none⟩ = some (.int .i64 a0_1) := (blk_cell BK414.out 1).trans rfl
              have hcz12_2 : wr.cell? ⟨gb414, 2, none⟩ = some (.slice A0_2 l0_2.length c0_2) := (blk_cell BK414.out 2).trans rfl
              have hcz12_3 : wr.cell? ⟨gb414, 3, none⟩ = some (.int .i64 a0_3) := (blk_cell BK414.out 3).trans rfl
              have hcz12_4 : wr.cell? ⟨gb414, 4, none⟩ = some (.bool a0_4) := (blk_cell BK414.out 4).trans rfl
              have hfz12_0 := blk_frozen BK414.out 0
              have hfz12_1 := blk_frozen BK414.out 1
              have hfz12_2 := blk_frozen BK414.out 2
              have hfz12_3 := blk_frozen BK414.out 3
              have hfz12_4 := blk_frozen BK414.out 4
              have p418 : 0 ≤ (x6_1 : Int) := of_decide_eq_true (by first | (with_reducible assumption) | assumption)
              have q418 : x6_1 < (l0_0.length : Int) := of_decide_eq_true (by first | (with_reducible assumption) | assumption)
              obtain ⟨ad418, A418_1, c418_1, A418_2, c418_2, e418, hx418_0, hx418_1, hx418_2, hl418_1, hi418_1, hl418_2, hi418_2⟩ := at_T94 HR0_0.out x6_1 p418 q418
              cases e418
              replace hx418_0 := (HB.out.cell (World.block_lt_of_cell? w _ hx418_0)).trans hx418_0
              replace hx418_1 := (HB.out.cell (World.block_lt_of_cell? w _ hx418_1)).trans hx418_1
              replace hx418_2 := (HB.out.cell (World.block_lt_of_cell? w _ hx418_2)).trans hx418_2
              have HR418_1 := Aside0.mk hi418_1
              have HC418_1 := Aside0.mk hl418_1
              clear hi418_1 hl418_1
              have HR418_2 := Aside0.mk hi418_2
              have HC418_2 := Aside0.mk hl418_2
              clear hi418_2 hl418_2
              replace p418 := eq_true p418
              replace q418 := eq_true q418
              go_wp2_with (first | ((with_reducible refine gate_callee (f := 55) rfl ?_); refine goesL_ (some 21) rfl rfl Try.func55 (by kernel_rfl) rfl #[.agg #[.string ((rd_T94 l0_0 x6_1).f0), .slice A418_1 ((rd_T94 l0_0 x6_1).f1).length c418_1, .slice A418_2 ((rd_T94 l0_0 x6_1).f2).length c418_2]] rfl (by (try simp only [List.map_toArray, List.map_cons, List.map_nil]); first | done | rfl | (simp only [List.length_drop, List.length_take]; rfl)) ?_; (with_reducible refine (leatref18_Seen.calls k1 ((rd_T94 l0_0 x6_1).f0) _ _ ((rd_T94 l0_0 x6_1).f1) _ _ ((rd_T94 l0_0 x6_1).f2) t419 _ ?side1 ?side2 ?side3 ?side4 A8.out).mono ?_); (case side1 => repeat (first | exact (Kd.C_below HR418_1.out HB.out) | (with_reducible refine Kd.C_alloc ?_ _) | (with_reducible refine Kd.C_drewN ?_ _) | (with_reducible refine Kd.C_drew ?_))); (case side2 => exact HC418_1.out); (case side3 => repeat (first | exact (Kd.C_below HR418_2.out HB.out) | (with_reducible refine Kd.C_alloc ?_ _) | (with_reducible refine Kd.C_drewN ?_ _) | (with_reducible refine Kd.C_drew ?_))); (case side4 => exact HC418_2.out); rintro e w13 ⟨v420, rfl, ho0, hb⟩; refine ⟨_, rfl, ?_⟩; have n0_ := Aside0.mk (Kd.S_elder' (by (with_reducible repeat (first | apply Kd.S_alloc | apply Kd.S_drewN | apply Kd.S_drew)); exact HO_5.out) (Kd.R_base ho0) hb); have n1_ := Aside0.mk (Kd.R_lower ho0 (below_size (by repeat (first | (with_reducible first | exact HB.out | apply below_alloc | apply pw_below_drewN | apply below_drew1 | refine below_set ?_ GE414.out) | exact HB.out)))); have n2_ := Aside0.mk (blk_below (g := gb414) (o := .cells #[.slice (some ad418) l0_0.length c0_0, .int .i64 a0_1, .slice A0_2 l0_2.length c0_2, .int .i64 a0_3, .bool a0_4] 40 (0, 0)) (by (with_reducible repeat (first | refine blk_drewN ?_ _ | refine blk_drew ?_ | refine blk_alloc ?_ _)); exact BK414.out) hb); have n3_ := Aside0.mk (below_step (by repeat (first | (with_reducible first | exact HB.out | apply below_alloc | apply pw_below_drewN | apply below_drew1 | refine below_set ?_ GE414.out) | exact HB.out)) hb); clear HO_5; clear BK414; clear HB; have HO_5 := n0_; have HO421 := n1_; have BK414 := n2_; have HB := n3_; clear n0_ n1_ n2_ n3_; (try clear hb); (try clear hb2); (try clear hk); (try clear hi); (try clear ho0); have hcz14_0 : w13.cell? ⟨gb414, 0, none⟩ = some (.slice (some ad418) l0_0.length c0_0) := (blk_cell BK414.out 0).trans rfl; have hcz14_1 : w13.cell? ⟨gb414, 1, none⟩ = some (.int .i64 a0_1) := (blk_cell BK414.out 1).trans rfl; have hcz14_2 : w13.cell? ⟨gb414, 2, none⟩ = some (.slice A0_2 l0_2.length c0_2) := (blk_cell BK414.out 2).trans rfl; have hcz14_3 : w13.cell? ⟨gb414, 3, none⟩ = some (.int .i64 a0_3) := (blk_cell BK414.out 3).trans rfl; have hcz14_4 : w13.cell? ⟨gb414, 4, none⟩ = some (.bool a0_4) := (blk_cell BK414.out 4).trans rfl; have hfz14_0 := blk_frozen BK414.out 0; have hfz14_1 := blk_frozen BK414.out 1; have hfz14_2 := blk_frozen BK414.out 2; have hfz14_3 := blk_frozen BK414.out 3; have hfz14_4 := blk_frozen BK414.out 4; have p422 : 0 ≤ (x6_1 : Int) := of_decide_eq_true (by first | (with_reducible assumption) | assumption); have q422 : x6_1 < (l0_0.length : Int) := of_decide_eq_true (by first | (with_reducible assumption) | assumption); obtain ⟨ad422, A422_1, c422_1, A422_2, c422_2, e422, hx422_0, hx422_1, hx422_2, hl422_1, hi422_1, hl422_2, hi422_2⟩ := at_T94 HR0_0.out x6_1 p422 q422; obtain rfl : ad418 = ad422 := (by injection e422); replace hx422_0 := (HB.out.cell (World.block_lt_of_cell? w _ hx422_0)).trans hx422_0; replace hx422_1 := (HB.out.cell (World.block_lt_of_cell? w _ hx422_1)).trans hx422_1; replace hx422_2 := (HB.out.cell (World.block_lt_of_cell? w _ hx422_2)).trans hx422_2; have HR422_1 := Aside0.mk hi422_1; have HC422_1 := Aside0.mk hl422_1; clear hi422_1 hl422_1; have HR422_2 := Aside0.mk hi422_2; have HC422_2 := Aside0.mk hl422_2; clear hi422_2 hl422_2; replace p422 := eq_true p422; replace q422 := eq_true q422) | ((with_reducible refine gate_callee (f := 29) rfl ?_); refine goesL_ (some 29) rfl rfl Try.func29 (by kernel_rfl) rfl #[.slice A422_1 ((rd_T94 l0_0 x6_1).f1).length c422_1] rfl (by (try simp only [List.map_toArray, List.map_cons, List.map_nil]); first | done | rfl | (simp only [List.length_drop, List.length_take]; rfl)) ?_; (with_reducible refine (leatref01_Copy.calls k1 _ _ ((rd_T94 l0_0 x6_1).f1) t423 _ ?side1 ?side2 A10.out).mono ?_); (case side1 => repeat (first | exact (Kd.C_below HR422_1.out HB.out) | (with_reducible refine Kd.C_alloc ?_ _) | (with_reducible refine Kd.C_drewN ?_ _) | (with_reducible refine Kd.C_drew ?_))); (case side2 => exact HC422_1.out); rintro e w15 ⟨v424, rfl, ho0, hb⟩; refine ⟨_, rfl, ?_⟩; have n0_ := Aside0.mk (Kd.S_elder' (by (with_reducible repeat (first | apply Kd.S_alloc | apply Kd.S_drewN | apply Kd.S_drew)); exact HO_5.out) (Kd.R_base ho0) hb); have n1_ := Aside0.mk (Kd.R_elder' (by (with_reducible repeat (first | apply Kd.R_alloc | apply Kd.R_drewN | apply Kd.R_drew)); exact HO421.out) (Kd.R_base ho0) hb); have n2_ := Aside0.mk (Kd.R_lower (Kd.R_new' ho0 (Kd.R_lt (by (with_reducible repeat (first | apply Kd.R_alloc | apply Kd.R_drewN | apply Kd.R_drew)); exact HO421.out))) (below_size (by repeat (first | (with_reducible first | exact HB.out | apply below_alloc | apply pw_below_drewN | apply below_drew1 | refine below_set ?_ GE414.out) | exact HB.out)))); have n3_ := Aside0.mk (blk_below (g := gb414) (o := .cells #[.slice (some ad418) l0_0.length c0_0, .int .i64 a0_1, .slice A0_2 l0_2.length c0_2, .int .i64 a0_3, .bool a0_4] 40 (0, 0)) (by (with_reducible repeat (first | refine blk_drewN ?_ _ | refine blk_drew ?_ | refine blk_alloc ?_ _)); exact BK414.out) hb); have n4_ := Aside0.mk (below_step (by repeat (first | (with_reducible first | exact HB.out | apply below_alloc | apply pw_below_drewN | apply below_drew1 | refine below_set ?_ GE414.out) | exact HB.out)) hb); clear HO_5; clear HO421; clear BK414; clear HB; have HO_5 := n0_; have HO421 := n1_; have HO425 := n2_; have BK414 := n3_; have HB := n4_; clear n0_ n1_ n2_ n3_ n4_; (try clear hb); (try clear hb2); (try clear hk); (try clear hi); (try clear ho0); have hcz16_0 : w15.cell? ⟨gb414, 0, none⟩ = some (.slice (some ad418) l0_0.length c0_0) := (blk_cell BK414.out 0).trans rfl; have hcz16_1 : w15.cell? ⟨gb414, 1, none⟩ = some (.int .i64 a0_1) := (blk_cell BK414.out 1).trans rfl; have hcz16_2 : w15.cell? ⟨gb414, 2, none⟩ = some (.slice A0_2 l0_2.length c0_2) := (blk_cell BK414.out 2).trans rfl; have hcz16_3 : w15.cell? ⟨gb414, 3, none⟩ = some (.int .i64 a0_3) := (blk_cell BK414.out 3).trans rfl; have hcz16_4 : w15.cell? ⟨gb414, 4, none⟩ = some (.bool a0_4) := (blk_cell BK414.out 4).trans rfl; have hfz16_0 := blk_frozen BK414.out 0; have hfz16_1 := blk_frozen BK414.out 1; have hfz16_2 := blk_frozen BK414.out 2; have hfz16_3 := blk_frozen BK414.out 3; have hfz16_4 := blk_frozen BK414.out 4; have p426 : 0 ≤ (x6_1 : Int) := of_decide_eq_true (by first | (with_reducible assumption) | assumption); have q426 : x6_1 < (l0_0.length : Int) := of_decide_eq_true (by first | (with_reducible assumption) | assumption); obtain ⟨ad426, A426_1, c426_1, A426_2, c426_2, e426, hx426_0, hx426_1, hx426_2, hl426_1, hi426_1, hl426_2, hi426_2⟩ := at_T94 HR0_0.out x6_1 p426 q426; obtain rfl : ad418 = ad426 := (by injection e426); replace hx426_0 := (HB.out.cell (World.block_lt_of_cell? w _ hx426_0)).trans hx426_0; replace hx426_1 := (HB.out.cell (World.block_lt_of_cell? w _ hx426_1)).trans hx426_1; replace hx426_2 := (HB.out.cell (World.block_lt_of_cell? w _ hx426_2)).trans hx426_2; have HR426_1 := Aside0.mk hi426_1; have HC426_1 := Aside0.mk hl426_1; clear hi426_1 hl426_1; have HR426_2 := Aside0.mk hi426_2; have HC426_2 := Aside0.mk hl426_2; clear hi426_2 hl426_2; replace p426 := eq_true p426; replace q426 := eq_true q426; obtain ⟨Ao17, co17, eo17⟩ := Kd.R_slice HO425.out; subst eo17) | ((with_reducible refine gate_builtin (b := .append) (xs := #[.tmp 30, .tmp 39]) rfl ?_); at_builtin; refine Kd.S_append k45 (w0 := w) w.heap.size rfl (.tmp 30) (.tmp 39) 33 45 (.agg #[(.string ⟨#[]⟩), (.slice none 0 0)]) 40 rfl Try.underlying33 info45 rfl (by decide) (by omega) u5 x5_1 (⟨(rd_T94 l0_0 x6_1).f0, t423⟩ : S45) [.string ((rd_T94 l0_0 x6_1).f0), .slice Ao17 t423.length co17] (fun k_ => some k_ ≠ (v420 : Value).ownBlock) (fun k_ => some k_ = (.slice Ao17 t423.length co17 : Value).ownBlock) rfl rfl ?aP (fun k_ hk_ => ((Kd.R_mono (ok' := fun k_ => ((fun k_ => some k_ ≠ (v420 : Value).ownBlock)) k_ ∧ some k_ ≠ (u5 : Value).ownBlock) (Kd.R_apart' (HO425.out) (Kd.S_typed HO_5.out) (by decide)) (fun k_ hk => ⟨hk.1.2, hk.2⟩))).1 k_ hk_.symm) ?aF ?aO ?aB ?aS ?aL ?_; (case aP => exact k45_mkM _ _ _ (⟨(rd_T94 l0_0 x6_1).f0, t423⟩ : S45) (Kd.R_mono (Kd.R_tight rfl (Kd.R_mono (ok' := fun k_ => ((fun k_ => some k_ ≠ (v420 : Value).ownBlock)) k_ ∧ some k_ ≠ (u5 : Value).ownBlock) (Kd.R_apart' (HO425.out) (Kd.S_typed HO_5.out) (by decide)) (fun k_ hk => ⟨hk.1.2, hk.2⟩))) (fun _ h_ => h_))); (case aB => exact (by repeat (first | (with_reducible first | exact HB.out | apply below_alloc | apply pw_below_drewN | apply below_drew1 | refine below_set ?_ GE414.out) | exact HB.out))); (case aF => exact (fun k_ hk => Kd.fresh' (Kd.R_lt (by (with_reducible repeat (first | apply Kd.R_alloc | apply Kd.R_drewN | apply Kd.R_drew)); exact HO421.out)) k_ hk)); (case aO => exact (by (with_reducible repeat (first | apply Kd.S_alloc | apply Kd.S_drewN | apply Kd.S_drew)); exact Kd.S_mono HO_5.out (fun k_ hk => ⟨hk.1.2, fun e_ => hk.2 e_⟩))); (case aS => exact (below_size (by repeat (first | (with_reducible first | exact HB.out | apply below_alloc | apply pw_below_drewN | apply below_drew1 | refine below_set ?_ GE414.out) | exact HB.out)))); (case aL => have := LMc11.out; omega); intro v428 w18 ho hb hg hat; rw [← Ny427.out] at ho; have n0_ := Aside0.mk (blk_grown (g := gb414) (o := .cells #[.slice (some ad418) l0_0.length c0_0, .int .i64 a0_1, .slice A0_2 l0_2.length c0_2, .int .i64 a0_3, .bool a0_4] 40 (0, 0)) (by (with_reducible repeat (first | refine blk_drewN ?_ _ | refine blk_drew ?_ | refine blk_alloc ?_ _)); exact BK414.out) hg (Kd.S_ne HO_5.out BK414.out (by decide))); have n1_ := Aside0.mk (Kd.R_over' (by (with_reducible repeat (first | apply Kd.R_alloc | apply Kd.R_drewN | apply Kd.R_drew)); exact HO421.out) (Kd.S_typed (by (with_reducible repeat (first | apply Kd.S_alloc | apply Kd.S_drewN | apply Kd.S_drew)); exact HO_5.out)) (by decide) hg); have n2_ := Aside0.mk (hb); have n3_ := Aside0.mk (ho); clear BK414; clear HO421; clear HB; clear HO_5; clear HO425; have BK414 := n0_; have HO421 := n1_; have HB := n2_; have HO429 := n3_; clear n0_ n1_ n2_ n3_; clear ho hb hg hat))
              go_roundg k1
              case measure => have := HK1.out; omega
              case rel => exact ⟨(y427), (wrap64 (x6_1 + 1)), (by first | rfl | (simp; done) | (simp [*]; done)), H', ⟨by have := HK1.out; omega⟩, ⟨by (with_reducible repeat (first | apply Kd.S_alloc | apply Kd.S_drewN | apply Kd.S_drew)); exact Kd.S_mono HO429.out (fun _ hk => trivial)⟩, ⟨by (with_reducible repeat (first | refine blk_drewN ?_ _ | refine blk_drew ?_ | refine blk_alloc ?_ _)); exact BK414.out⟩, ⟨by repeat (first | (with_reducible first | exact HB.out | apply below_alloc | apply pw_below_drewN | apply below_drew1 | refine below_set ?_ GE414.out) | exact HB.out)⟩⟩
            · rw [if_neg c11] at H
              exact absurd H (by simp)
          · replace c9 := Bool.eq_false_iff.mpr c9
            subst c9
            have H1 : (if x5_1.length < 3518437208883 then (leatref18_All.l0 k1 false (x5_1 ++ [(⟨(rd_T94 l0_0 x6_1).f0, t419⟩ : S45)]) (wrap64 (x6_1 + 1)) l0_0 a0_1 l0_2 a0_3 a0_4) else (none)) = some r := by rw [if_neg (show ¬ (false = true) by decide)] at H; exact H
            clear H
            have H := H1
            clear H1
            by_cases c19 : x5_1.length < 3518437208883
            · rw [if_pos c19] at H
              have LMc19 := Aside0.mk c19
              clear c19
              obtain ⟨y431, hy431⟩ : ∃ y_ : List (S45), y_ = (x5_1 ++ [(⟨(rd_T94 l0_0 x6_1).f0, t419⟩ : S45)]) := ⟨_, rfl⟩
              replace H : (leatref18_All.l0 k1 false y431 (wrap64 (x6_1 + 1)) l0_0 a0_1 l0_2 a0_3 a0_4) = some r := by first | (rw [hy431]; with_reducible exact H) | (have H2_ := (Option.bind_some _ _).symm.trans H; rw [hy431]; with_reducible exact H2_) | (have H2_ := (Option.bind_some _ _).symm.trans H; with_reducible exact H2_) | with_reducible exact H | (rw [hy431]; exact H) | exact H
              have Ny431 := Aside0.mk hy431
              clear hy431
              have H' := Aside0.mk H
              clear H
              have hcz20_0 : wr.cell? ⟨gb414, 0, none⟩ = some (.slice A0_0 l0_0.length c0_0) := (blk_cell BK414.out 0).trans rfl
              have hcz20_1 : wr.cell? ⟨gb414, 1, none⟩ = some (.int .i64 a0_1) := (blk_cell BK414.out 1).trans rfl
              have hcz20_2 : wr.cell? ⟨gb414, 2, none⟩ = some (.slice A0_2 l0_2.length c0_2) := (blk_cell BK414.out 2).trans rfl
              have hcz20_3 : wr.cell? ⟨gb414, 3, none⟩ = some (.int .i64 a0_3) := (blk_cell BK414.out 3).trans rfl
              have hcz20_4 : wr.cell? ⟨gb414, 4, none⟩ = some (.bool a0_4) := (blk_cell BK414.out 4).trans rfl
              have hfz20_0 := blk_frozen BK414.out 0
              have hfz20_1 := blk_frozen BK414.out 1
              have hfz20_2 := blk_frozen BK414.out 2
              have hfz20_3 := blk_frozen BK414.out 3
              have hfz20_4 := blk_frozen BK414.out 4
              have p418 : 0 ≤ (x6_1 : Int) := of_decide_eq_true (by first | (with_reducible assumption) | assumption)
              have q418 : x6_1 < (l0_0.length : Int) := of_decide_eq_true (by first | (with_reducible assumption) | assumption)
              obtain ⟨ad418, A418_1, c418_1, A418_2, c418_2, e418, hx418_0, hx418_1, hx418_2, hl418_1, hi418_1, hl418_2, hi418_2⟩ := at_T94 HR0_0.out x6_1 p418 q418
              cases e418
              replace hx418_0 := (HB.out.cell (World.block_lt_of_cell? w _ hx418_0)).trans hx418_0
              replace hx418_1 := (HB.out.cell (World.block_lt_of_cell? w _ hx418_1)).trans hx418_1
              replace hx418_2 := (HB.out.cell (World.block_lt_of_cell? w _ hx418_2)).trans hx418_2
              have HR418_1 := Aside0.mk hi418_1
              have HC418_1 := Aside0.mk hl418_1
              clear hi418_1 hl418_1
              have HR418_2 := Aside0.mk hi418_2
              have HC418_2 := Aside0.mk hl418_2
              clear hi418_2 hl418_2
              replace p418 := eq_true p418
              replace q418 := eq_true q418
              go_wp2_with (first | ((with_reducible refine gate_callee (f := 55) rfl ?_); refine goesL_ (some 21) rfl rfl Try.func55 (by kernel_rfl) rfl #[.agg #[.string ((rd_T94 l0_0 x6_1).f0), .slice A418_1 ((rd_T94 l0_0 x6_1).f1).length c418_1, .slice A418_2 ((rd_T94 l0_0 x6_1).f2).length c418_2]] rfl (by (try simp only [List.map_toArray, List.map_cons, List.map_nil]); first | done | rfl | (simp only [List.length_drop, List.length_take]; rfl)) ?_; (with_reducible refine (leatref18_Seen.calls k1 ((rd_T94 l0_0 x6_1).f0) _ _ ((rd_T94 l0_0 x6_1).f1) _ _ ((rd_T94 l0_0 x6_1).f2) t419 _ ?side1 ?side2 ?side3 ?side4 A8.out).mono ?_); (case side1 => repeat (first | exact (Kd.C_below HR418_1.out HB.out) | (with_reducible refine Kd.C_alloc ?_ _) | (with_reducible refine Kd.C_drewN ?_ _) | (with_reducible refine Kd.C_drew ?_))); (case side2 => exact HC418_1.out); (case side3 => repeat (first | exact (Kd.C_below HR418_2.out HB.out) | (with_reducible refine Kd.C_alloc ?_ _) | (with_reducible refine Kd.C_drewN ?_ _) | (with_reducible refine Kd.C_drew ?_))); (case side4 => exact HC418_2.out); rintro e w21 ⟨v420, rfl, ho0, hb⟩; refine ⟨_, rfl, ?_⟩; have n0_ := Aside0.mk (Kd.S_elder' (by (with_reducible repeat (first | apply Kd.S_alloc | apply Kd.S_drewN | apply Kd.S_drew)); exact HO_5.out) (Kd.R_base ho0) hb); have n1_ := Aside0.mk (Kd.R_lower ho0 (below_size (by repeat (first | (with_reducible first | exact HB.out | apply below_alloc | apply pw_below_drewN | apply below_drew1 | refine below_set ?_ GE414.out) | exact HB.out)))); have n2_ := Aside0.mk (blk_below (g := gb414) (o := .cells #[.slice (some ad418) l0_0.length c0_0, .int .i64 a0_1, .slice A0_2 l0_2.length c0_2, .int .i64 a0_3, .bool a0_4] 40 (0, 0)) (by (with_reducible repeat (first | refine blk_drewN ?_ _ | refine blk_drew ?_ | refine blk_alloc ?_ _)); exact BK414.out) hb); have n3_ := Aside0.mk (below_step (by repeat (first | (with_reducible first | exact HB.out | apply below_alloc | apply pw_below_drewN | apply below_drew1 | refine below_set ?_ GE414.out) | exact HB.out)) hb); clear HO_5; clear BK414; clear HB; have HO_5 := n0_; have HO421 := n1_; have BK414 := n2_; have HB := n3_; clear n0_ n1_ n2_ n3_; (try clear hb); (try clear hb2); (try clear hk); (try clear hi); (try clear ho0); have hcz22_0 : w21.cell? ⟨gb414, 0, none⟩ = some (.slice (some ad418) l0_0.length c0_0) := (blk_cell BK414.out 0).trans rfl; have hcz22_1 : w21.cell? ⟨gb414, 1, none⟩ = some (.int .i64 a0_1) := (blk_cell BK414.out 1).trans rfl; have hcz22_2 : w21.cell? ⟨gb414, 2, none⟩ = some (.slice A0_2 l0_2.length c0_2) := (blk_cell BK414.out 2).trans rfl; have hcz22_3 : w21.cell? ⟨gb414, 3, none⟩ = some (.int .i64 a0_3) := (blk_cell BK414.out 3).trans rfl; have hcz22_4 : w21.cell? ⟨gb414, 4, none⟩ = some (.bool a0_4) := (blk_cell BK414.out 4).trans rfl; have hfz22_0 := blk_frozen BK414.out 0; have hfz22_1 := blk_frozen BK414.out 1; have hfz22_2 := blk_frozen BK414.out 2; have hfz22_3 := blk_frozen BK414.out 3; have hfz22_4 := blk_frozen BK414.out 4; have p430 : 0 ≤ (x6_1 : Int) := of_decide_eq_true (by first | (with_reducible assumption) | assumption); have q430 : x6_1 < (l0_0.length : Int) := of_decide_eq_true (by first | (with_reducible assumption) | assumption); obtain ⟨ad430, A430_1, c430_1, A430_2, c430_2, e430, hx430_0, hx430_1, hx430_2, hl430_1, hi430_1, hl430_2, hi430_2⟩ := at_T94 HR0_0.out x6_1 p430 q430; obtain rfl : ad418 = ad430 := (by injection e430); replace hx430_0 := (HB.out.cell (World.block_lt_of_cell? w _ hx430_0)).trans hx430_0; replace hx430_1 := (HB.out.cell (World.block_lt_of_cell? w _ hx430_1)).trans hx430_1; replace hx430_2 := (HB.out.cell (World.block_lt_of_cell? w _ hx430_2)).trans hx430_2; have HR430_1 := Aside0.mk hi430_1; have HC430_1 := Aside0.mk hl430_1; clear hi430_1 hl430_1; have HR430_2 := Aside0.mk hi430_2; have HC430_2 := Aside0.mk hl430_2; clear hi430_2 hl430_2; replace p430 := eq_true p430; replace q430 := eq_true q430; obtain ⟨Ao23, co23, eo23⟩ := Kd.R_slice HO421.out; subst eo23) | ((with_reducible refine gate_builtin (b := .append) (xs := #[.tmp 30, .tmp 39]) rfl ?_); at_builtin; refine Kd.S_append k45 (w0 := w) w.heap.size rfl (.tmp 30) (.tmp 39) 33 45 (.agg #[(.string ⟨#[]⟩), (.slice none 0 0)]) 40 rfl Try.underlying33 info45 rfl (by decide) (by omega) u5 x5_1 (⟨(rd_T94 l0_0 x6_1).f0, t419⟩ : S45) [.string ((rd_T94 l0_0 x6_1).f0), .slice Ao23 t419.length co23] (fun _ => True) (fun k_ => some k_ = (.slice Ao23 t419.length co23 : Value).ownBlock) rfl rfl ?aP (fun k_ hk_ => ((Kd.R_mono (ok' := fun k_ => ((fun _ => True)) k_ ∧ some k_ ≠ (u5 : Value).ownBlock) (Kd.R_apart' (HO421.out) (Kd.S_typed HO_5.out) (by decide)) (fun k_ hk => ⟨trivial, hk.2⟩))).1 k_ hk_.symm) ?aF ?aO ?aB ?aS ?aL ?_; (case aP => exact k45_mkM _ _ _ (⟨(rd_T94 l0_0 x6_1).f0, t419⟩ : S45) (Kd.R_mono (Kd.R_tight rfl (Kd.R_mono (ok' := fun k_ => ((fun _ => True)) k_ ∧ some k_ ≠ (u5 : Value).ownBlock) (Kd.R_apart' (HO421.out) (Kd.S_typed HO_5.out) (by decide)) (fun k_ hk => ⟨trivial, hk.2⟩))) (fun _ h_ => h_))); (case aB => exact (by repeat (first | (with_reducible first | exact HB.out | apply below_alloc | apply pw_below_drewN | apply below_drew1 | refine below_set ?_ GE414.out) | exact HB.out))); (case aF => exact (fun _ _ => trivial)); (case aO => exact (by (with_reducible repeat (first | apply Kd.S_alloc | apply Kd.S_drewN | apply Kd.S_drew)); exact Kd.S_mono HO_5.out (fun k_ hk => ⟨trivial, fun e_ => hk.2 e_⟩))); (case aS => exact (below_size (by repeat (first | (with_reducible first | exact HB.out | apply below_alloc | apply pw_below_drewN | apply below_drew1 | refine below_set ?_ GE414.out) | exact HB.out)))); (case aL => have := LMc19.out; omega); intro v432 w24 ho hb hg hat; rw [← Ny431.out] at ho; have n0_ := Aside0.mk (blk_grown (g := gb414) (o := .cells #[.slice (some ad418) l0_0.length c0_0, .int .i64 a0_1, .slice A0_2 l0_2.length c0_2, .int .i64 a0_3, .bool a0_4] 40 (0, 0)) (by (with_reducible repeat (first | refine blk_drewN ?_ _ | refine blk_drew ?_ | refine blk_alloc ?_ _)); exact BK414.out) hg (Kd.S_ne HO_5.out BK414.out (by decide))); have n1_ := Aside0.mk (hb); have n2_ := Aside0.mk (ho); clear BK414; clear HB; clear HO_5; clear HO421; have BK414 := n0_; have HB := n1_; have HO433 := n2_; clear n0_ n1_ n2_; clear ho hb hg hat))
              go_roundg k1
              case measure => have := HK1.out; omega
              case rel => exact ⟨(y431), (wrap64 (x6_1 + 1)), (by first | rfl | (simp; done) | (simp [*]; done)), H', ⟨by have := HK1.out; omega⟩, ⟨by (with_reducible repeat (first | apply Kd.S_alloc | apply Kd.S_drewN | apply Kd.S_drew)); exact HO433.out⟩, ⟨by (with_reducible repeat (first | refine blk_drewN ?_ _ | refine blk_drew ?_ | refine blk_alloc ?_ _)); exact BK414.out⟩, ⟨by repeat (first | (with_reducible first | exact HB.out | apply below_alloc | apply pw_below_drewN | apply below_drew1 | refine below_set ?_ GE414.out) | exact HB.out)⟩⟩
            · rw [if_neg c19] at H
              exact absurd H (by simp)
        · rw [if_neg c7] at H
          exact absurd H (by simp)
      · rw [if_neg c6] at H
        have c6b0 : decide (x6_1 < (l0_0.length : Int)) = false := decide_eq_false c6
        clear c6
        obtain rfl := Option.some.inj H
        have hcz25_0 : wr.cell? ⟨gb414, 0, none⟩ = some (.slice A0_0 l0_0.length c0_0) := (blk_cell BK414.out 0).trans rfl
        have hcz25_1 : wr.cell? ⟨gb414, 1, none⟩ = some (.int .i64 a0_1) := (blk_cell BK414.out 1).trans rfl
        have hcz25_2 : wr.cell? ⟨gb414, 2, none⟩ = some (.slice A0_2 l0_2.length c0_2) := (blk_cell BK414.out 2).trans rfl
        have hcz25_3 : wr.cell? ⟨gb414, 3, none⟩ = some (.int .i64 a0_3) := (blk_cell BK414.out 3).trans rfl
        have hcz25_4 : wr.cell? ⟨gb414, 4, none⟩ = some (.bool a0_4) := (blk_cell BK414.out 4).trans rfl
        have hfz25_0 := blk_frozen BK414.out 0
        have hfz25_1 := blk_frozen BK414.out 1
        have hfz25_2 := blk_frozen BK414.out 2
        have hfz25_3 := blk_frozen BK414.out 3
        have hfz25_4 := blk_frozen BK414.out 4
        go_wp2
        go_ret
        exact ⟨_, by first | rfl | (simp [errW_none, errW_some] <;> rfl) | (simp [*, errW_none, errW_some] <;> rfl), by (with_reducible repeat (first | apply Kd.S_alloc | apply Kd.S_drewN | apply Kd.S_drew)); exact HO_5.out, by repeat (first | (with_reducible first | exact HB.out | apply below_alloc | apply pw_below_drewN | apply below_drew1 | refine below_set ?_ GE414.out) | exact HB.out)⟩

def leatref18_Alike.l0 : Nat → List (S45) → List (S45) → Int → Option (Bool)
  | 0, _, _, _ => none
  | k + 1, x0, x1, x5 => if x5 < (x0.length : Int) then (if 0 ≤ x5 then (if x5 < (x1.length : Int) then (if ((rd_T45 x0 x5).f0).toList = ((rd_T45 x1 x5).f0).toList then ((leatref01_Same.f k ((rd_T45 x0 x5).f1) ((rd_T45 x1 x5).f1)).bind fun t438 => (if t438 = true then (leatref18_Alike.l0 k x0 x1 (wrap64 (x5 + 1))) else (some false))) else (some false)) else (none)) else (none)) else (some true)
def leatref18_Alike.f (k : Nat) (l0 : List (S45)) (l1 : List (S45)) : Option (Bool) := if (l0.length : Int) = (l1.length : Int) then (leatref18_Alike.l0 k l0 l1 0) else (some false)
theorem leatref18_Alike.mono_l : ∀ k, (∀ y0 y1 y2, LeO (leatref18_Alike.l0 k y0 y1 y2) (leatref18_Alike.l0 (k + 1) y0 y1 y2))
  | 0 => fun _ _ _ r h => by simp [leatref18_Alike.l0] at h
  | k + 1 => by
    have ih0 := leatref18_Alike.mono_l k
    · intro y0 y1 y2
      unfold leatref18_Alike.l0
      repeat' first
      | (with_reducible exact ih0 _ _ _)
      | (with_reducible exact leatref01_Same.mono _ _ _)
      | (with_reducible exact LeO.refl _)
      | (with_reducible exact LeO.none _)
      | (with_reducible refine LeO.ite ?_ ?_)
      | (with_reducible refine LeO.bind ?_ (fun _ => ?_))
      | exact ih0 _ _ _
      | exact leatref01_Same.mono _ _ _
      | exact LeO.none _
      | refine LeO.ite ?_ ?_
      | refine LeO.bind ?_ (fun _ => ?_)
theorem leatref18_Alike.mono : ∀ a0 a1 k, LeO (leatref18_Alike.f k a0 a1) (leatref18_Alike.f (k + 1) a0 a1) := by
  intro a0 a1 k
  have ih0 := leatref18_Alike.mono_l k
  unfold leatref18_Alike.f
  repeat' first
      | (with_reducible exact ih0 _ _ _)
      | (with_reducible exact leatref01_Same.mono _ _ _)
      | (with_reducible exact LeO.refl _)
      | (with_reducible exact LeO.none _)
      | (with_reducible refine LeO.ite ?_ ?_)
      | (with_reducible refine LeO.bind ?_ (fun _ => ?_))
      | exact ih0 _ _ _
      | exact leatref01_Same.mono _ _ _
      | exact LeO.none _
      | refine LeO.ite ?_ ?_
      | refine LeO.bind ?_ (fun _ => ?_)
set_option maxHeartbeats 8000000 in
set_option maxRecDepth 100000 in
theorem leatref18_Alike.calls (k : Nat) (A0 : Option Addr) (c0 : Nat) (l0 : List (S45)) (A1 : Option Addr) (c1 : Nat) (l1 : List (S45)) (r : Bool) (w : World) (hr0 : Kd.C k45 w A0 l0.length l0) (hc0 : l0.length ≤ c0) (hr1 : Kd.C k45 w A1 l1.length l1) (hc1 : l1.length ≤ c1) (h : leatref18_Alike.f k l0 l1 = some r) :
    Calls Try.prog 22 #[.slice A0 l0.length c0, .slice A1 l1.length c1] w fun e w' => e = .returned (.bool r) ∧ Drawn0 w w' := by
  have HR0 := Aside0.mk hr0
  have HC0 := Aside0.mk hc0
  clear hr0 hc0
  have HR1 := Aside0.mk hr1
  have HC1 := Aside0.mk hc1
  clear hr1 hc1
  have H : (if (l0.length : Int) = (l1.length : Int) then (leatref18_Alike.l0 k l0 l1 0) else (some false)) = some r := h
  clear h
  by_cases c3 : (l0.length : Int) = (l1.length : Int)
  · rw [if_pos c3] at H
    have c3b0 : ((l0.length : Int) == (l1.length : Int)) = true := beq_iff_eq.mpr c3
    have c3b1 : ((l0.length : Int) != (l1.length : Int)) = false := bne_eq_false_iff_eq.mpr c3
    have c3b2 : (l0.length == l1.length) = true := by first | simpa using c3 | (simp at c3 ⊢; omega)
    clear c3
    have H' := Aside0.mk H
    clear H
    go_enter Try.func22, Try.ntmps22
    go_wp2
    repeat (go_quiet (fail); try go_wp2)
    go_loopg [5] k (fun kq v5 w' => ∃ (x5_1 : Int), v5 = .int .i64 x5_1 ∧ Aside0 (leatref18_Alike.l0 kq l0 l1 x5_1 = some r) ∧ Aside0 (kq ≤ k) ∧ Drawn0 w w')
    case atStart => exact ⟨(0), (by first | rfl | (simp; done) | (simp [*]; done)), H', ⟨Nat.le_refl _⟩, by repeat (first | exact Drawn0.refl _ | apply Drawn0.step)⟩
    case round =>
      clear H'
      try clear c1
      try clear c2
      try clear p2
      try clear c3
      try clear c3b0
      try clear c3b1
      try clear c3b2
      obtain ⟨x5_1, rfl, HA, HK1, ⟨m1, rfl⟩⟩ := hrel
      cases gk with
      | zero => exact absurd HA.out (by simp [leatref18_Alike.l0])
      | succ k1 =>
        have H := HA.out
        clear HA
        simp only [leatref18_Alike.l0] at H
        by_cases c4 : x5_1 < (l0.length : Int)
        · rw [if_pos c4] at H
          have c4b0 : decide (x5_1 < (l0.length : Int)) = true := decide_eq_true c4
          clear c4
          by_cases c5 : 0 ≤ x5_1
          · rw [if_pos c5] at H
            have c5b0 : decide (0 ≤ x5_1) = true := decide_eq_true c5
            clear c5
            by_cases c6 : x5_1 < (l1.length : Int)
            · rw [if_pos c6] at H
              have c6b0 : decide (x5_1 < (l1.length : Int)) = true := decide_eq_true c6
              clear c6
              by_cases c7 : ((rd_T45 l0 x5_1).f0).toList = ((rd_T45 l1 x5_1).f0).toList
              · rw [if_pos c7] at H
                have c7b0 : (((rd_T45 l0 x5_1).f0).toList == ((rd_T45 l1 x5_1).f0).toList) = true := beq_iff_eq.mpr c7
                have c7b1 : (((rd_T45 l0 x5_1).f0).toList != ((rd_T45 l1 x5_1).f0).toList) = false := bne_eq_false_iff_eq.mpr c7
                clear c7
                replace H := Option.bind_eq_some_iff.mp H
                obtain ⟨t438, A80, H⟩ := H
                replace H : (if t438 = true then (leatref18_Alike.l0 k1 l0 l1 (wrap64 (x5_1 + 1))) else (some false)) = some r := H
                have A8 := Aside0.mk A80
                clear A80
                by_cases c9 : t438 = true
                · subst c9
                  have H1 : (leatref18_Alike.l0 k1 l0 l1 (wrap64 (x5_1 + 1))) = some r := by rw [if_pos rfl] at H; exact H
                  clear H
                  have H := H1
                  clear H1
                  have H' := Aside0.mk H
                  clear H
                  have p434 : 0 ≤ (x5_1 : Int) := of_decide_eq_true (by first | (with_reducible assumption) | assumption)
                  have q434 : x5_1 < (l0.length : Int) := of_decide_eq_true (by first | (with_reducible assumption) | assumption)
                  obtain ⟨ad434, A434_1, c434_1, e434, hx434_0, hx434_1, hl434_1, hi434_1⟩ := at_T45 HR0.out x5_1 p434 q434
                  cases e434
                  have HR434_1 := Aside0.mk hi434_1
                  have HC434_1 := Aside0.mk hl434_1
                  clear hi434_1 hl434_1
                  replace p434 := eq_true p434
                  replace q434 := eq_true q434
                  have p435 : 0 ≤ (x5_1 : Int) := of_decide_eq_true (by first | (with_reducible assumption) | assumption)
                  have q435 : x5_1 < (l1.length : Int) := of_decide_eq_true (by first | (with_reducible assumption) | assumption)
                  obtain ⟨ad435, A435_1, c435_1, e435, hx435_0, hx435_1, hl435_1, hi435_1⟩ := at_T45 HR1.out x5_1 p435 q435
                  cases e435
                  have HR435_1 := Aside0.mk hi435_1
                  have HC435_1 := Aside0.mk hl435_1
                  clear hi435_1 hl435_1
                  replace p435 := eq_true p435
                  replace q435 := eq_true q435
                  have p436 : 0 ≤ (x5_1 : Int) := of_decide_eq_true (by first | (with_reducible assumption) | assumption)
                  have q436 : x5_1 < (l0.length : Int) := of_decide_eq_true (by first | (with_reducible assumption) | assumption)
                  obtain ⟨ad436, A436_1, c436_1, e436, hx436_0, hx436_1, hl436_1, hi436_1⟩ := at_T45 HR0.out x5_1 p436 q436
                  obtain rfl : ad434 = ad436 := (by injection e436)
                  have HR436_1 := Aside0.mk hi436_1
                  have HC436_1 := Aside0.mk hl436_1
                  clear hi436_1 hl436_1
                  replace p436 := eq_true p436
                  replace q436 := eq_true q436
                  have ea_ := Option.some.inj (hx434_1.symm.trans hx436_1)
                  injection ea_ with ea_ en_ ec_
                  subst ea_
                  subst ec_
                  clear en_
                  have p437 : 0 ≤ (x5_1 : Int) := of_decide_eq_true (by first | (with_reducible assumption) | assumption)
                  have q437 : x5_1 < (l1.length : Int) := of_decide_eq_true (by first | (with_reducible assumption) | assumption)
                  obtain ⟨ad437, A437_1, c437_1, e437, hx437_0, hx437_1, hl437_1, hi437_1⟩ := at_T45 HR1.out x5_1 p437 q437
                  obtain rfl : ad435 = ad437 := (by injection e437)
                  have HR437_1 := Aside0.mk hi437_1
                  have HC437_1 := Aside0.mk hl437_1
                  clear hi437_1 hl437_1
                  replace p437 := eq_true p437
                  replace q437 := eq_true q437
                  have ea_ := Option.some.inj (hx435_1.symm.trans hx437_1)
                  injection ea_ with ea_ en_ ec_
                  subst ea_
                  subst ec_
                  clear en_
                  go_wp2_with (first | (go_at_call 36; (with_reducible refine (leatref01_Same.calls k1 _ _ ((rd_T45 l0 x5_1).f1) _ _ ((rd_T45 l1 x5_1).f1) true _ ?side1 ?side2 ?side3 ?side4 A8.out).mono ?_); (case side1 => repeat (first | exact HR436_1.out | (with_reducible refine Kd.C_alloc ?_ _) | (with_reducible refine Kd.C_drewN ?_ _) | (with_reducible refine Kd.C_drew ?_))); (case side2 => exact HC436_1.out); (case side3 => repeat (first | exact HR437_1.out | (with_reducible refine Kd.C_alloc ?_ _) | (with_reducible refine Kd.C_drewN ?_ _) | (with_reducible refine Kd.C_drew ?_))); (case side4 => exact HC437_1.out); rintro e w' ⟨rfl, ⟨nd, rfl⟩⟩; (try first | exact ⟨rfl, _, World.drewN_drewN _ _ _⟩ | exact ⟨rfl, _, Eq.trans (World.drewN_drewN _ _ _) (congrArg (World.drewN _) (Nat.add_assoc _ _ _))⟩)))
                  repeat (go_quiet (first | (go_at_call 36; (with_reducible refine (leatref01_Same.calls k1 _ _ ((rd_T45 l0 x5_1).f1) _ _ ((rd_T45 l1 x5_1).f1) true _ ?side1 ?side2 ?side3 ?side4 A8.out).mono ?_); (case side1 => repeat (first | exact HR436_1.out | (with_reducible refine Kd.C_alloc ?_ _) | (with_reducible refine Kd.C_drewN ?_ _) | (with_reducible refine Kd.C_drew ?_))); (case side2 => exact HC436_1.out); (case side3 => repeat (first | exact HR437_1.out | (with_reducible refine Kd.C_alloc ?_ _) | (with_reducible refine Kd.C_drewN ?_ _) | (with_reducible refine Kd.C_drew ?_))); (case side4 => exact HC437_1.out); rintro e w' ⟨rfl, ⟨nd, rfl⟩⟩; (try first | exact ⟨rfl, _, World.drewN_drewN _ _ _⟩ | exact ⟨rfl, _, Eq.trans (World.drewN_drewN _ _ _) (congrArg (World.drewN _) (Nat.add_assoc _ _ _))⟩))); try go_wp2_with (first | (go_at_call 36; (with_reducible refine (leatref01_Same.calls k1 _ _ ((rd_T45 l0 x5_1).f1) _ _ ((rd_T45 l1 x5_1).f1) true _ ?side1 ?side2 ?side3 ?side4 A8.out).mono ?_); (case side1 => repeat (first | exact HR436_1.out | (with_reducible refine Kd.C_alloc ?_ _) | (with_reducible refine Kd.C_drewN ?_ _) | (with_reducible refine Kd.C_drew ?_))); (case side2 => exact HC436_1.out); (case side3 => repeat (first | exact HR437_1.out | (with_reducible refine Kd.C_alloc ?_ _) | (with_reducible refine Kd.C_drewN ?_ _) | (with_reducible refine Kd.C_drew ?_))); (case side4 => exact HC437_1.out); rintro e w' ⟨rfl, ⟨nd, rfl⟩⟩; (try first | exact ⟨rfl, _, World.drewN_drewN _ _ _⟩ | exact ⟨rfl, _, Eq.trans (World.drewN_drewN _ _ _) (congrArg (World.drewN _) (Nat.add_assoc _ _ _))⟩))))
                  go_roundg k1
                  case measure => have := HK1.out; omega
                  case rel => exact ⟨(wrap64 (x5_1 + 1)), (by first | rfl | (simp; done) | (simp [*]; done)), H', ⟨by have := HK1.out; omega⟩, by repeat (first | exact Drawn0.refl _ | apply Drawn0.step)⟩
                · replace c9 := Bool.eq_false_iff.mpr c9
                  subst c9
                  have H1 : (some false) = some r := by rw [if_neg (show ¬ (false = true) by decide)] at H; exact H
                  clear H
                  have H := H1
                  clear H1
                  obtain rfl := Option.some.inj H
                  have p434 : 0 ≤ (x5_1 : Int) := of_decide_eq_true (by first | (with_reducible assumption) | assumption)
                  have q434 : x5_1 < (l0.length : Int) := of_decide_eq_true (by first | (with_reducible assumption) | assumption)
                  obtain ⟨ad434, A434_1, c434_1, e434, hx434_0, hx434_1, hl434_1, hi434_1⟩ := at_T45 HR0.out x5_1 p434 q434
                  cases e434
                  have HR434_1 := Aside0.mk hi434_1
                  have HC434_1 := Aside0.mk hl434_1
                  clear hi434_1 hl434_1
                  replace p434 := eq_true p434
                  replace q434 := eq_true q434
                  have p435 : 0 ≤ (x5_1 : Int) := of_decide_eq_true (by first | (with_reducible assumption) | assumption)
                  have q435 : x5_1 < (l1.length : Int) := of_decide_eq_true (by first | (with_reducible assumption) | assumption)
                  obtain ⟨ad435, A435_1, c435_1, e435, hx435_0, hx435_1, hl435_1, hi435_1⟩ := at_T45 HR1.out x5_1 p435 q435
                  cases e435
                  have HR435_1 := Aside0.mk hi435_1
                  have HC435_1 := Aside0.mk hl435_1
                  clear hi435_1 hl435_1
                  replace p435 := eq_true p435
                  replace q435 := eq_true q435
                  have p436 : 0 ≤ (x5_1 : Int) := of_decide_eq_true (by first | (with_reducible assumption) | assumption)
                  have q436 : x5_1 < (l0.length : Int) := of_decide_eq_true (by first | (with_reducible assumption) | assumption)
                  obtain ⟨ad436, A436_1, c436_1, e436, hx436_0, hx436_1, hl436_1, hi436_1⟩ := at_T45 HR0.out x5_1 p436 q436
                  obtain rfl : ad434 = ad436 := (by injection e436)
                  have HR436_1 := Aside0.mk hi436_1
                  have HC436_1 := Aside0.mk hl436_1
                  clear hi436_1 hl436_1
                  replace p436 := eq_true p436
                  replace q436 := eq_true q436
                  have ea_ := Option.some.inj (hx434_1.symm.trans hx436_1)
                  injection ea_ with ea_ en_ ec_
                  subst ea_
                  subst ec_
                  clear en_
                  have p437 : 0 ≤ (x5_1 : Int) := of_decide_eq_true (by first | (with_reducible assumption) | assumption)
                  have q437 : x5_1 < (l1.length : Int) := of_decide_eq_true (by first | (with_reducible assumption) | assumption)
                  obtain ⟨ad437, A437_1, c437_1, e437, hx437_0, hx437_1, hl437_1, hi437_1⟩ := at_T45 HR1.out x5_1 p437 q437
                  obtain rfl : ad435 = ad437 := (by injection e437)
                  have HR437_1 := Aside0.mk hi437_1
                  have HC437_1 := Aside0.mk hl437_1
                  clear hi437_1 hl437_1
                  replace p437 := eq_true p437
                  replace q437 := eq_true q437
                  have ea_ := Option.some.inj (hx435_1.symm.trans hx437_1)
                  injection ea_ with ea_ en_ ec_
                  subst ea_
                  subst ec_
                  clear en_
                  go_wp2_with (first | (go_at_call 36; (with_reducible refine (leatref01_Same.calls k1 _ _ ((rd_T45 l0 x5_1).f1) _ _ ((rd_T45 l1 x5_1).f1) false _ ?side1 ?side2 ?side3 ?side4 A8.out).mono ?_); (case side1 => repeat (first | exact HR436_1.out | (with_reducible refine Kd.C_alloc ?_ _) | (with_reducible refine Kd.C_drewN ?_ _) | (with_reducible refine Kd.C_drew ?_))); (case side2 => exact HC436_1.out); (case side3 => repeat (first | exact HR437_1.out | (with_reducible refine Kd.C_alloc ?_ _) | (with_reducible refine Kd.C_drewN ?_ _) | (with_reducible refine Kd.C_drew ?_))); (case side4 => exact HC437_1.out); rintro e w' ⟨rfl, ⟨nd, rfl⟩⟩; (try first | exact ⟨rfl, _, World.drewN_drewN _ _ _⟩ | exact ⟨rfl, _, Eq.trans (World.drewN_drewN _ _ _) (congrArg (World.drewN _) (Nat.add_assoc _ _ _))⟩)))
                  repeat (go_quiet (first | (go_at_call 36; (with_reducible refine (leatref01_Same.calls k1 _ _ ((rd_T45 l0 x5_1).f1) _ _ ((rd_T45 l1 x5_1).f1) false _ ?side1 ?side2 ?side3 ?side4 A8.out).mono ?_); (case side1 => repeat (first | exact HR436_1.out | (with_reducible refine Kd.C_alloc ?_ _) | (with_reducible refine Kd.C_drewN ?_ _) | (with_reducible refine Kd.C_drew ?_))); (case side2 => exact HC436_1.out); (case side3 => repeat (first | exact HR437_1.out | (with_reducible refine Kd.C_alloc ?_ _) | (with_reducible refine Kd.C_drewN ?_ _) | (with_reducible refine Kd.C_drew ?_))); (case side4 => exact HC437_1.out); rintro e w' ⟨rfl, ⟨nd, rfl⟩⟩; (try first | exact ⟨rfl, _, World.drewN_drewN _ _ _⟩ | exact ⟨rfl, _, Eq.trans (World.drewN_drewN _ _ _) (congrArg (World.drewN _) (Nat.add_assoc _ _ _))⟩))); try go_wp2_with (first | (go_at_call 36; (with_reducible refine (leatref01_Same.calls k1 _ _ ((rd_T45 l0 x5_1).f1) _ _ ((rd_T45 l1 x5_1).f1) false _ ?side1 ?side2 ?side3 ?side4 A8.out).mono ?_); (case side1 => repeat (first | exact HR436_1.out | (with_reducible refine Kd.C_alloc ?_ _) | (with_reducible refine Kd.C_drewN ?_ _) | (with_reducible refine Kd.C_drew ?_))); (case side2 => exact HC436_1.out); (case side3 => repeat (first | exact HR437_1.out | (with_reducible refine Kd.C_alloc ?_ _) | (with_reducible refine Kd.C_drewN ?_ _) | (with_reducible refine Kd.C_drew ?_))); (case side4 => exact HC437_1.out); rintro e w' ⟨rfl, ⟨nd, rfl⟩⟩; (try first | exact ⟨rfl, _, World.drewN_drewN _ _ _⟩ | exact ⟨rfl, _, Eq.trans (World.drewN_drewN _ _ _) (congrArg (World.drewN _) (Nat.add_assoc _ _ _))⟩))))
                  go_ret
                  exact ⟨by first | rfl | (simp; done) | (simp [*]; done), by repeat (first | exact Drawn0.refl _ | apply Drawn0.step)⟩
              · rw [if_neg c7] at H
                have c7b0 : (((rd_T45 l0 x5_1).f0).toList == ((rd_T45 l1 x5_1).f0).toList) = false := beq_eq_false_iff_ne.mpr c7
                have c7b1 : (((rd_T45 l0 x5_1).f0).toList != ((rd_T45 l1 x5_1).f0).toList) = true := bne_iff_ne.mpr c7
                obtain rfl := Option.some.inj H
                have p434 : 0 ≤ (x5_1 : Int) := of_decide_eq_true (by first | (with_reducible assumption) | assumption)
                have q434 : x5_1 < (l0.length : Int) := of_decide_eq_true (by first | (with_reducible assumption) | assumption)
                obtain ⟨ad434, A434_1, c434_1, e434, hx434_0, hx434_1, hl434_1, hi434_1⟩ := at_T45 HR0.out x5_1 p434 q434
                cases e434
                have HR434_1 := Aside0.mk hi434_1
                have HC434_1 := Aside0.mk hl434_1
                clear hi434_1 hl434_1
                replace p434 := eq_true p434
                replace q434 := eq_true q434
                have p435 : 0 ≤ (x5_1 : Int) := of_decide_eq_true (by first | (with_reducible assumption) | assumption)
                have q435 : x5_1 < (l1.length : Int) := of_decide_eq_true (by first | (with_reducible assumption) | assumption)
                obtain ⟨ad435, A435_1, c435_1, e435, hx435_0, hx435_1, hl435_1, hi435_1⟩ := at_T45 HR1.out x5_1 p435 q435
                cases e435
                have HR435_1 := Aside0.mk hi435_1
                have HC435_1 := Aside0.mk hl435_1
                clear hi435_1 hl435_1
                replace p435 := eq_true p435
                replace q435 := eq_true q435
                go_wp2
                repeat (go_quiet (fail); try go_wp2)
                go_ret
                exact ⟨by first | rfl | (simp; done) | (simp [*]; done), by repeat (first | exact Drawn0.refl _ | apply Drawn0.step)⟩
            · rw [if_neg c6] at H
              exact absurd H (by simp)
          · rw [if_neg c5] at H
            exact absurd H (by simp)
        · rw [if_neg c4] at H
          have c4b0 : decide (x5_1 < (l0.length : Int)) = false := decide_eq_false c4
          clear c4
          obtain rfl := Option.some.inj H
          go_wp2
          repeat (go_quiet (fail); try go_wp2)
          go_ret
          exact ⟨by first | rfl | (simp; done) | (simp [*]; done), by repeat (first | exact Drawn0.refl _ | apply Drawn0.step)⟩
  · rw [if_neg c3] at H
    have c3b0 : ((l0.length : Int) == (l1.length : Int)) = false := beq_eq_false_iff_ne.mpr c3
    have c3b1 : ((l0.length : Int) != (l1.length : Int)) = true := bne_iff_ne.mpr c3
    have c3b2 : (l0.length == l1.length) = false := by first | simpa using c3 | (simp at c3 ⊢; omega)
    obtain rfl := Option.some.inj H
    go_enter Try.func22, Try.ntmps22
    go_wp2
    repeat (go_quiet (fail); try go_wp2)
    go_ret
    exact ⟨by first | rfl | (simp; done) | (simp [*]; done), by repeat (first | exact Drawn0.refl _ | apply Drawn0.step)⟩

end Go.Proofs.Ytkhopknpadncdaa.PDiskMemory
