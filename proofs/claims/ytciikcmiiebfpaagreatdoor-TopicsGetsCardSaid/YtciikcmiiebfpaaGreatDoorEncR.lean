/- The reference's rows of a batch of one record; Great, mixed. -/
import Derived.Test.YtciikcmiiebfpaaGreatDoorEncP
import Derived.Deep.RegionHeld3
namespace Go.Proofs.YtciikcmiiebfpaaGreatDoor
open Go Go.RowKit Go.Maps Go.Proofs.YtciikcmiiebfpaaGreatDoorW.PrintWords Go.Proofs.YtciikcmiiebfpaaGreatDoor.PTopicsGets Go.Proofs.YtciikcmiiebfpaaGreatDoorW.PrintMore
set_option linter.unusedVariables false
set_option linter.unusedSimpArgs false

abbrev batCells (rb : Nat) : List Value := [.int .i64 0, .int .i32 0, .int .i64 (-1), .int .i16 (-1), .int .i32 (-1), .slice (some ⟨rb, 0, none⟩) 1 1]
abbrev batAgg (rb : Nat) : Value := .agg #[.int .i64 0, .int .i32 0, .int .i64 (-1), .int .i16 (-1), .int .i32 (-1), .slice (some ⟨rb, 0, none⟩) 1 1]
abbrev recOne : Array Value := #[.int .i64 7, .bool false, .slice none 0 0, .bool false, .slice none 0 0, .slice none 0 0]
theorem span_c (w : World) : Calls Tryz.prog 181 #[.int .i64 7, .int .i64 7] w fun e w' => e = .returned (.tuple #[.int .i64 0, .bool true]) ∧ Below w.heap.size w w' :=
  (leatref08_span.calls 7 7 0 true w (by kernel_rfl)).mono fun e w' h => ⟨h.1, h.2.below⟩
theorem prod_c (w : World) : Calls Tryz.prog 136 #[.int .i64 (-1), .int .i16 (-1), .int .i32 (-1)] w fun e w' => Below w.heap.size w w' ∧ e = .returned (.bool true) :=
  (leatref08_producer.calls (-1) (-1) (-1) true w (by kernel_rfl)).mono fun e w' h => ⟨h.2.below, h.1⟩
set_option maxRecDepth 100000 in
theorem great_one (w : World) (rb : Nat) (hr : w.heap[rb]? = some (.cells recOne 118 (0, 0))) : Calls Tryz.prog 140 #[.slice (some ⟨rb, 0, none⟩) 1 1] w fun e w' => Below w.heap.size w w' ∧ e = .returned (.int .i64 7) := by
  have q0 : w.cell? ⟨rb, 0, none⟩ = some (.int .i64 7) := blk_cell hr 0
  clear hr
  go_enter Tryz.func140, Tryz.ntmps140
  go_wp2_with fail
  refine wp_loop_rounds 2 ?_
  rw [rounds_succ]
  go_wp2_with fail
  rw [rounds_succ]
  go_wp2_with fail
  all_goals
    go_ret
    exact ⟨Below.refl _ _, rfl⟩
set_option maxRecDepth 100000 in
theorem mixed_ref (w : World) (A : Option Addr) (c : Nat) : Calls Tryz.prog 81 #[.slice A 1 c] w fun e w' => Below w.heap.size w w' ∧ e = .returned (.int .i64 (-1)) := by
  go_enter Tryz.func81, Tryz.ntmps81
  go_wp2_with fail
  refine wp_loop_rounds 1 ?_
  rw [rounds_succ]
  go_wp2_with fail
  all_goals
    go_ret
    exact ⟨Below.refl _ _, rfl⟩

set_option maxRecDepth 100000 in
set_option maxHeartbeats 2000000 in
theorem rows_one (w : World) (rb : Nat) (hr : w.heap[rb]? = some (.cells recOne 118 (0, 0))) :
    Calls Tryz.prog 137 #[batAgg rb] w fun e w' => Below w.heap.size w w' ∧ ∃ A c, e = .returned (.tuple #[.slice A 7 c, .int .i64 0]) ∧ 7 ≤ c ∧ CB w' A 7 [12, 0, 0, 0, 0, 0, 0] := by
  have HB : Hid (Below w.heap.size w ((w.alloc (.cells (batCells rb).toArray 95)).alloc (.cells #[] 5))) := ((Below.refl _ _).alloc (Nat.le_refl _) _).alloc (by rw [World.size_alloc]; omega) _
  have X0 : Hid (((w.alloc (.cells (batCells rb).toArray 95)).alloc (.cells #[] 5)).heap[w.heap.size]? = some (.cells (batCells rb).toArray 95 (0, 0))) := blk_alloc (blk_new _ _) _
  have XR := Lib.hid (blk_below hr HB.out)
  have HO : Hid (Ix.Owns ((w.alloc (.cells (batCells rb).toArray 95)).alloc (.cells #[] 5)) w.heap.size 5 1 (.slice (some ⟨w.heap.size + 1, 0, none⟩) 0 0) 0 []) := by
    have := blk_new (w.alloc (.cells (batCells rb).toArray 95)) (.cells #[] 5)
    rw [World.size_alloc] at this
    exact ⟨rfl, .inr ⟨w.heap.size + 1, 0, #[], rfl, by omega, this, Nat.le_refl _, by decide, by decide, rfl⟩⟩
  clear hr
  simp only [batCells] at HB X0 XR HO
  go_enter Tryz.func137, Tryz.ntmps137
  go_wp2_with fail
  generalize (w.alloc (.cells [.int .i64 0, .int .i32 0, .int .i64 (-1), .int .i16 (-1), .int .i32 (-1), .slice (some ⟨rb, 0, none⟩) 1 1].toArray 95)).alloc (.cells #[] 5) = w0 at *
  have q5 : w0.cell? ⟨w.heap.size, 5, none⟩ = some (.slice (some ⟨rb, 0, none⟩) 1 1) := blk_cell X0.out 5
  have r0 : w0.cell? ⟨rb, 0, none⟩ = some (.int .i64 7) := blk_cell XR.out 0
  refine wp_loop_rounds 2 ?_
  rw [rounds_succ]
  go_upto_region 5 with fail
  go_cut [6, 7] from 20 to 34 (fun v6 v7 wx => v6 = .int .i64 0 ∧ v7 = .bool true ∧ Below w0.heap.size w0 wx)
  case first =>
    go_region_with (go_at_call 181; refine (span_c _).mono ?_; rintro r w1 ⟨rfl, hb1⟩)
    all_goals
      have hb2 : Below w0.heap.size w0 w1 := (Below.drew (Below.refl w0.heap.size w0)).trans hb1
      go_wp2_with fail
      go_meet
      exact ⟨rfl, rfl, hb2⟩
  case rest =>
  obtain ⟨rfl, rfl, hb2⟩ := hcut
  rename World => w1
  have HB1 := Lib.hid (HB.out.trans (hb2.mono HB.out.size))
  have X1 := Lib.hid (blk_below X0.out hb2)
  have XR1 := Lib.hid (blk_below XR.out hb2)
  have HO1 := Lib.hid (Owns_below HO.out hb2)
  clear hb2 q5 r0 HB X0 XR HO
  have q5 : w1.cell? ⟨w.heap.size, 5, none⟩ = some (.slice (some ⟨rb, 0, none⟩) 1 1) := blk_cell X1.out 5
  have r0 : w1.cell? ⟨rb, 0, none⟩ = some (.int .i64 7) := blk_cell XR1.out 0
  have r1 : w1.cell? ⟨rb, 1, none⟩ = some (.bool false) := blk_cell XR1.out 1
  have r2 : w1.cell? ⟨rb, 2, none⟩ = some (.slice none 0 0) := blk_cell XR1.out 2
  have r3 : w1.cell? ⟨rb, 3, none⟩ = some (.bool false) := blk_cell XR1.out 3
  have r4 : w1.cell? ⟨rb, 4, none⟩ = some (.slice none 0 0) := blk_cell XR1.out 4
  have r5 : w1.cell? ⟨rb, 5, none⟩ = some (.slice none 0 0) := blk_cell XR1.out 5
  have HB7 : Hid (Below w1.heap.size w1 (w1.alloc (.cells #[.int .i64 0, .int .i32 0, .bool false, .slice none 0 0, .bool false, .slice none 0 0, .slice none 0 0] 236))) := (Below.refl _ _).alloc (Nat.le_refl _) _
  have q5' : (w1.alloc (.cells #[.int .i64 0, .int .i32 0, .bool false, .slice none 0 0, .bool false, .slice none 0 0, .slice none 0 0] 236)).cell? ⟨w.heap.size, 5, none⟩ = some (.slice (some ⟨rb, 0, none⟩) 1 1) := blk_cell (blk_below X1.out HB7.out) 5
  have r1' : (w1.alloc (.cells #[.int .i64 0, .int .i32 0, .bool false, .slice none 0 0, .bool false, .slice none 0 0, .slice none 0 0] 236)).cell? ⟨rb, 1, none⟩ = some (.bool false) := blk_cell (blk_below XR1.out HB7.out) 1
  have r2' : (w1.alloc (.cells #[.int .i64 0, .int .i32 0, .bool false, .slice none 0 0, .bool false, .slice none 0 0, .slice none 0 0] 236)).cell? ⟨rb, 2, none⟩ = some (.slice none 0 0) := blk_cell (blk_below XR1.out HB7.out) 2
  have r3' : (w1.alloc (.cells #[.int .i64 0, .int .i32 0, .bool false, .slice none 0 0, .bool false, .slice none 0 0, .slice none 0 0] 236)).cell? ⟨rb, 3, none⟩ = some (.bool false) := blk_cell (blk_below XR1.out HB7.out) 3
  have r4' : (w1.alloc (.cells #[.int .i64 0, .int .i32 0, .bool false, .slice none 0 0, .bool false, .slice none 0 0, .slice none 0 0] 236)).cell? ⟨rb, 4, none⟩ = some (.slice none 0 0) := blk_cell (blk_below XR1.out HB7.out) 4
  have r5' : (w1.alloc (.cells #[.int .i64 0, .int .i32 0, .bool false, .slice none 0 0, .bool false, .slice none 0 0, .slice none 0 0] 236)).cell? ⟨rb, 5, none⟩ = some (.slice none 0 0) := blk_cell (blk_below XR1.out HB7.out) 5
  go_upto_region 8 with fail
  go_cut [8] from 37 to 58 (fun v wx => v = .pointer (some ⟨w1.heap.size, 0, none⟩) ∧ Below w1.heap.size w1 wx ∧ wx.heap[w1.heap.size]? = some (.cells #[.int .i64 0, .int .i32 0, .bool false, .slice none 0 0, .bool false, .slice none 0 0, .slice none 0 0] 236 (0, 0)))
  case first =>
    go_region
    all_goals
      go_wp2_with fail
      go_meet
      exact ⟨rfl, HB7.out.drew, blk_new _ _⟩
  case rest =>
  obtain ⟨rfl, hb3, hx3⟩ := hcut
  rename World => w3
  have HB3 := Lib.hid (HB1.out.trans (hb3.mono HB1.out.size))
  have X3 := Lib.hid (blk_below X1.out hb3)
  have XR3 := Lib.hid (blk_below XR1.out hb3)
  have HO3 := Lib.hid (Owns_below HO1.out hb3)
  obtain ⟨xr, hxr⟩ : ∃ xr, xr = w1.heap.size := ⟨_, rfl⟩
  rw [← hxr] at hx3 ⊢
  have HX3 := Lib.hid hx3
  clear hb3 hx3 hxr q5 r0 r1 r2 r3 r4 r5 q5' r1' r2' r3' r4' r5' HB7 HB1 X1 XR1 HO1
  have e0 : w3.cell? ⟨xr, 0, none⟩ = some (.int .i64 0) := blk_cell HX3.out 0
  have e1 : w3.cell? ⟨xr, 1, none⟩ = some (.int .i32 0) := blk_cell HX3.out 1
  have e2 : w3.cell? ⟨xr, 2, none⟩ = some (.bool false) := blk_cell HX3.out 2
  have e3 : w3.cell? ⟨xr, 3, none⟩ = some (.slice none 0 0) := blk_cell HX3.out 3
  have e4 : w3.cell? ⟨xr, 4, none⟩ = some (.bool false) := blk_cell HX3.out 4
  have e5 : w3.cell? ⟨xr, 5, none⟩ = some (.slice none 0 0) := blk_cell HX3.out 5
  have e6 : w3.cell? ⟨xr, 6, none⟩ = some (.slice none 0 0) := blk_cell HX3.out 6
  go_wp2_with fail
  refine (put_one w3).mono ?_
  rintro r w4 ⟨hb4, A4, c4, rfl, hc4, hC4, hO4⟩
  have HN4 := Lib.hid hO4
  have HLO : Hid (∀ k, (Value.slice (some ⟨w.heap.size + 1, 0, none⟩) 0 0).ownBlock = some k → k < w3.heap.size) := fun k hk => (HO3.out.lt k hk).2
  clear hO4
  have HB4 := Lib.hid (HB3.out.trans (hb4.mono HB3.out.size))
  have X4 := Lib.hid (blk_below X3.out hb4)
  have HO4 := Lib.hid (Owns_below HO3.out hb4)
  have HC4 := Lib.hid hC4
  clear hb4 hC4 e0 e1 e2 e3 e4 e5 e6 HB3 X3 XR3 HO3 HX3
  go_wp2_with fail
  go_loopw [4, 11] (fun v4 v11 wx => ∃ (j : Nat) (A' : Option Addr) (c' : Nat), j ≤ 7 ∧ v11 = .int .i64 j ∧ v4 = .slice A' j c' ∧ Hid (Below w.heap.size w wx) ∧ Hid (wx.heap[w.heap.size]? = some (.cells #[.int .i64 0, .int .i32 0, .int .i64 (-1), .int .i16 (-1), .int .i32 (-1), .slice (some ⟨rb, 0, none⟩) 1 1] 95 (0, 0))) ∧ Hid (Ix.Owns wx w.heap.size 5 1 (.slice A' j c') j (u8s ([12, 0, 0, 0, 0, 0, 0].take j))) ∧ Hid (CB wx A4 7 [12, 0, 0, 0, 0, 0, 0]) ∧ Hid (∀ k, (Value.slice A' j c').ownBlock = some k → (Value.slice A4 7 c4).ownBlock ≠ some k)) (fun _ v11 _ => 7 - (intOf v11).toNat)
  case atStart => exact ⟨0, _, _, by omega, rfl, rfl, HB4.out, X4.out, HO4.out, HC4.out, fun k hk e => by have h1 := HLO.out k hk; have h2 := HN4.out k e; omega⟩
  case round =>
    clear HB4 X4 HO4 HC4 HLO
    obtain ⟨j, A', c', hj, rfl, rfl, HB, X, HO, HC, HNE⟩ := hrel
    have q5 : wr.cell? ⟨w.heap.size, 5, none⟩ = some (.slice (some ⟨rb, 0, none⟩) 1 1) := blk_cell X.out 5
    have hr := Kd.reads_of_C (d := (0 : Int)) HC.out
    obtain ⟨a, rfl, hc⟩ := hr.2.2 (by decide)
    have hab : a.block < wr.heap.size := by have := World.block_lt_of_cell? wr _ (hc 0 (by decide)); rw [Ix.add_block] at this; exact this
    by_cases hj7 : j < 7
    · obtain ⟨v, hv⟩ : ∃ v, v = [12, 0, 0, 0, 0, 0, 0].getD j (0 : Int) := ⟨_, rfl⟩
      have hx := hc j hj7
      have hx' : wr.cell? (a.add j) = some (.int .u8 v) := by rw [hv]; exact hx
      have HTK : Hid (u8s ([12, 0, 0, 0, 0, 0, 0].take j) ++ [.int .u8 v] = u8s ([12, 0, 0, 0, 0, 0, 0].take (j + 1))) := by
        show _ = _
        rw [hv, List.take_add_one]
        unfold u8s
        rw [List.map_append, List.getD_eq_getElem?_getD, List.getElem?_eq_getElem (show j < [12, 0, 0, 0, 0, 0, (0 : Int)].length from hj7)]
        rfl
      have HA : Hid (Below wr.heap.size wr (wr.alloc (.cells #[.int .u8 v] 5))) := (Below.refl _ _).alloc (Nat.le_refl _) _
      have HAB := Lib.hid hab
      have HWS : Hid (w.heap.size ≤ wr.heap.size) := HB.out.size
      clear hc hr hx hv hab q5
      go_wp2_with (at_builtin; refine wpList_push rfl _ _ 51 5 1 1 (.int .u8 0) rfl Tryz.underlying51 info5 rfl (by decide) _ w.heap.size wr.heap.size (.slice A' j c') j (u8s ([12, 0, 0, 0, 0, 0, 0].take j)) [.int .u8 v] rfl rfl (blk_new _ _) rfl rfl (Owns_below HO.out HA.out) (by unfold maxLen; omega) (by omega) (by rw [World.size_alloc]; have := HWS.out; omega) ?_; intro v8 w8 ho ht hs; obtain ⟨A8, c8, rfl⟩ := ho.slice; have HO8 := Lib.hid ho; have HT8 := Lib.hid ht; have HS8 := Lib.hid hs; clear ho ht hs)
      have hb8 : Below w.heap.size w w8 := (HB.out.trans (HA.out.mono HB.out.size)).trans (HT8.out.below (Nat.le_trans HB.out.size HA.out.size) (fun k hk => (HO.out.lt k hk).1))
      have hx8 := (HT8.out.block w.heap.size (blk_lt (blk_below X.out HA.out)) (fun e => Owns_ne HO.out X.out (by decide) _ e rfl)).trans (blk_below X.out HA.out)
      have ho8 := HO8.out
      rw [HTK.out] at ho8
      have hc8 := CB_tch (c := c4) (CB.below HC.out HA.out) HT8.out (fun k h1 h2 => HNE.out k h2 h1)
      have hne8 : ∀ k, (Value.slice A8 (j + 1) c8).ownBlock = some k → (Value.slice (some a) 7 c4).ownBlock ≠ some k := fun k h1 h2 => by
        rcases HS8.out k h1 with h3 | h3
        · exact HNE.out k h3 h2
        · have h4 : a.block = k := Option.some.inj h2
          have h5 := HAB.out
          rw [World.size_alloc] at h3
          omega
      have HB8 := Lib.hid hb8
      have HX8 := Lib.hid hx8
      have HO9 := Lib.hid ho8
      have HC8 := Lib.hid hc8
      have HN8 := Lib.hid hne8
      clear hb8 hx8 ho8 hc8 hne8
      go_roundw
      case rel => exact ⟨j + 1, _, _, by omega, by go_num, rfl, HB8.out, HX8.out, HO9.out, HC8.out, HN8.out⟩
      case measure => simp [intOf]; omega
    · obtain rfl : j = 7 := by omega
      clear hc hr
      go_wp2_with fail
      rw [rounds_succ]
      go_wp2_with fail
      go_ret2
      have ho := HO.out
      exact ⟨HB.out, _, _, rfl, (by obtain ⟨g, cap, cur, e, _, _, hcap, _⟩ := ho.2.resolve_left (fun h => by cases h.2); injection e with _ _ e3; omega), Owns_CB ho rfl (by decide)⟩
end Go.Proofs.YtciikcmiiebfpaaGreatDoor
