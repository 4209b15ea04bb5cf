/- The reference's Named; its Open of a log on a disk without files. -/
import Derived.Test.YtciikcmiiebfpaaGreatDoorRefE
import Derived.Test.YtciikcmiiebfpaaGreatDoorTopP
import Derived.Test.YtciikcmiiebfpaaGreatDoorPTopicsGetsx20
namespace Go.Proofs.YtciikcmiiebfpaaGreatDoor
open Go Go.RowKit Go.Maps Go.Proofs.YtciikcmiiebfpaaGreatDoorW.PrintWords Go.Proofs.YtciikcmiiebfpaaGreatDoor.PTopicsGets Go.Proofs.YtciikcmiiebfpaaGreatDoorW.PrintMore
set_option linter.unusedVariables false
set_option linter.unusedSimpArgs false

theorem w64F {i : Nat} (h : i ≤ 140737488355328) : wrap64 ((i : Int) + 1) = ((i + 1 : Nat) : Int) := by
  unfold wrap64
  omega
set_option maxHeartbeats 8000000 in
theorem named_l : ∀ (k : Nat) (x : ByteArray) (i : Nat), x.size ≤ 120 → x.size < k + i → i ≤ x.size → leatref18_Named.l0 k x i = some (!(x.data.toList.drop i).any badC)
  | 0, x, i, hb, hk, hi => by omega
  | k + 1, x, i, hb, hk, hi => by
    unfold leatref18_Named.l0
    by_cases h : i < x.size
    · have hd : x.data.toList.drop i = x[i] :: x.data.toList.drop (i + 1) := List.drop_eq_getElem_cons h
      have hb1 : bt x (i : Int) = (x[i].toNat : Int) := by
        unfold bt
        rw [dif_pos (by rw [Int.toNat_natCast]; exact h)]
        rfl
      have ih := named_l k x (i + 1) hb (by omega) h
      rw [if_pos (by omega), if_pos (by omega), w64F (by omega), ih, hb1, hd, List.any_cons]
      generalize (x.data.toList.drop (i + 1)).any badC = q
      generalize x[i] = c
      obtain ⟨v, hv⟩ : ∃ v : Nat, v = c.toNat := ⟨_, rfl⟩
      have hbad : badC c = !(decide (97 ≤ v ∧ v ≤ 122) || decide (65 ≤ v ∧ v ≤ 90) || decide (48 ≤ v ∧ v ≤ 57) || v == 46 || v == 95 || v == 45 || v == 47) := by rw [hv]; rfl
      rw [← hv]
      by_cases hg : (97 ≤ v ∧ v ≤ 122) ∨ (65 ≤ v ∧ v ≤ 90) ∨ (48 ≤ v ∧ v ≤ 57) ∨ v = 46 ∨ v = 95 ∨ v = 45 ∨ v = 47
      · have : badC c = false := by
          rw [hbad]
          simp only [Bool.not_eq_false', Bool.or_eq_true, decide_eq_true_eq, beq_iff_eq]
          omega
        rw [this, Bool.false_or]
        repeat' split
        all_goals first | rfl | (exfalso; omega)
      · have : badC c = true := by
          rw [hbad]
          simp only [Bool.not_eq_true', Bool.or_eq_false_iff, decide_eq_false_iff_not, beq_eq_false_iff_ne]
          omega
        rw [this, Bool.true_or]
        repeat' split
        all_goals first | rfl | (exfalso; omega)
    · rw [if_neg (by omega), List.drop_of_length_le (by show x.data.toList.length ≤ i; rw [Array.length_toList]; exact Nat.le_of_not_lt h)]
      rfl
theorem named_f {k : Nat} {x : ByteArray} (hk : 122 < k) : leatref18_Named.f k x = some (!badN x.data.toList) := by
  have hl : x.data.toList.length = x.size := Array.length_toList
  unfold leatref18_Named.f badN
  obtain ⟨k, rfl⟩ : ∃ q, k = q + 1 := ⟨k - 1, by omega⟩
  by_cases h0 : x.size = 0
  · rw [if_pos (by omega)]
    show (if (true : Bool) = true then some false else leatref18_Named.l0 k x 0) = _
    rw [if_pos rfl, show x.data.toList = [] from List.length_eq_zero_iff.1 (by omega)]
    rfl
  · rw [if_neg (by omega)]
    show (if decide ((x.size : Int) > 120) = true then some false else leatref18_Named.l0 k x 0) = _
    have he : x.data.toList.isEmpty = false := by
      cases hx : x.data.toList with
      | nil => rw [hx] at hl; simp at hl; omega
      | cons a r => rfl
    rw [he, Bool.false_or, hl]
    by_cases hb : 120 < x.size
    · rw [if_pos (decide_eq_true (by omega)), show decide (120 < x.size) = true from decide_eq_true hb]
      rfl
    · rw [if_neg (by simp; omega), show decide (120 < x.size) = false from decide_eq_false hb, Bool.false_or]
      exact named_l k x 0 (by omega) (by omega) (by omega)

theorem rnamed_ok (w : World) (s : ByteArray) (hb : badN s.data.toList = false) : Calls Tryz.prog 54 #[.string s] w fun r w' => Below w.heap.size w w' ∧ r = .returned (.bool true) := by
  have h := named_f (k := 200) (x := s) (by decide)
  rw [hb] at h
  refine (leatref18_Named.calls 200 s true w h).mono ?_
  rintro e w' ⟨he, hd⟩
  exact ⟨hd.below, he⟩
set_option maxRecDepth 100000 in
set_option maxHeartbeats 4000000 in
theorem ropen_none (w : World) (dir : ByteArray) (hd : dir.size ≤ 1000) (hbad : badN (nameS dir 0).data.toList = false) (room : Int) :
    Calls Tryz.prog 23 #[rdV room, .string dir, .int .i64 100] w fun r w' => Below w.heap.size w w' ∧ r = .returned (.tuple #[rdV room, rlV dir, .int .i64 0]) := by
  have HF := Lib.hid (fun (W : World) => rfile_zero W dir hd)
  have HN := Lib.hid (fun (W : World) => rnamed_ok W (nameS dir 0) hbad)
  have HB := Lib.hid (fun (W : World) => rbases_none W dir room)
  have HK := Lib.hid (fun (W : World) A c => rkept_none W dir room A c)
  clear hd hbad
  generalize nameS dir 0 = nm at *
  have hW : ∃ W0, W0 = ((w.alloc (.cells #[.slice none 0 0, .int .i64 room, .slice none 0 0, .int .i64 0, .bool false] 34)).alloc (.cells #[.slice none 0 0, .int .i64 0, .slice none 0 0, .int .i64 0, .bool false] 34)).alloc (.cells #[.string ⟨#[]⟩, .int .i64 0, .slice none 0 0, .slice none 0 0, .bool false] 74) := ⟨_, rfl⟩
  obtain ⟨W0, hW0⟩ := hW
  have hB0 : Below w.heap.size w W0 := by rw [hW0]; exact three_new w _ _ _ 0
  have hX0 : W0.heap[w.heap.size]? = some (.cells #[.slice none 0 0, .int .i64 room, .slice none 0 0, .int .i64 0, .bool false] 34 (0, 0)) := by rw [hW0]; exact three_first w _ _ _ 0
  have hX1 : W0.heap[w.heap.size + 1]? = some (.cells #[.slice none 0 0, .int .i64 0, .slice none 0 0, .int .i64 0, .bool false] 34 (0, 0)) := by rw [hW0]; exact three_mid w _ _ _ 0
  have hX2 : W0.heap[w.heap.size + 1 + 1]? = some (.cells #[.string ⟨#[]⟩, .int .i64 0, .slice none 0 0, .slice none 0 0, .bool false] 74 (0, 0)) := by rw [hW0]; exact three_last w _ _ _ 0
  have HW0 := Lib.hid hW0
  have HB0 := Lib.hid hB0
  have HX0 := Lib.hid hX0
  have HX1 := Lib.hid hX1
  have HX2 := Lib.hid hX2
  clear hW0 hB0 hX0 hX1 hX2
  unfold rdV at *
  go_enter Tryz.func23, Tryz.ntmps23
  go_wp2_with fail
  rw [← HW0.out]
  refine (HF.out W0).mono ?_
  rintro r w1 ⟨hb1, rfl⟩
  have HB1 := Lib.hid hb1
  clear hb1
  go_wp2_with fail
  refine (HN.out w1).mono ?_
  rintro r w2 ⟨hb2, rfl⟩
  have hb12 := HB1.out.trans (hb2.mono HB1.out.size)
  have hx0 := blk_below HX0.out hb12
  have c0 : w2.cell? ⟨w.heap.size, 0, none⟩ = some (.slice none 0 0) := blk_cell hx0 0
  have c1 : w2.cell? ⟨w.heap.size, 1, none⟩ = some (.int .i64 room) := blk_cell hx0 1
  have c2 : w2.cell? ⟨w.heap.size, 2, none⟩ = some (.slice none 0 0) := blk_cell hx0 2
  have c3 : w2.cell? ⟨w.heap.size, 3, none⟩ = some (.int .i64 0) := blk_cell hx0 3
  have c4 : w2.cell? ⟨w.heap.size, 4, none⟩ = some (.bool false) := blk_cell hx0 4
  have HB2 := Lib.hid hb12
  have HY0 := Lib.hid hx0
  clear hb2 hb12 hx0 HB1
  go_wp2_with fail
  refine (HB.out w2).mono ?_
  rintro r w3 ⟨hb3, A, c, rfl⟩
  have hb23 := HB2.out.trans (hb3.mono HB2.out.size)
  have hx0 := blk_below HX0.out hb23
  have c0 : w3.cell? ⟨w.heap.size, 0, none⟩ = some (.slice none 0 0) := blk_cell hx0 0
  have c1 : w3.cell? ⟨w.heap.size, 1, none⟩ = some (.int .i64 room) := blk_cell hx0 1
  have c2 : w3.cell? ⟨w.heap.size, 2, none⟩ = some (.slice none 0 0) := blk_cell hx0 2
  have c3 : w3.cell? ⟨w.heap.size, 3, none⟩ = some (.int .i64 0) := blk_cell hx0 3
  have c4 : w3.cell? ⟨w.heap.size, 4, none⟩ = some (.bool false) := blk_cell hx0 4
  have HB3 := Lib.hid hb23
  clear hb3 hb23 hx0 HB2 HY0
  go_wp2_with fail
  refine (HK.out w3 A c).mono ?_
  rintro r w4 ⟨hb4, rfl⟩
  have hb34 := HB3.out.trans (hb4.mono HB3.out.size)
  have hx0 := blk_below HX0.out hb34
  have hx1 := blk_below HX1.out hb34
  have hx2 := blk_below HX2.out hb34
  have HB4 := Lib.hid hb34
  clear hb4 hb34 HB3 HB HK HN HF
  have HY0 := Lib.hid hx0
  have HY1 := Lib.hid hx1
  have HY2 := Lib.hid hx2
  have c0 : w4.cell? ⟨w.heap.size, 0, none⟩ = some (.slice none 0 0) := blk_cell hx0 0
  have c1 : w4.cell? ⟨w.heap.size, 1, none⟩ = some (.int .i64 room) := blk_cell hx0 1
  have c2 : w4.cell? ⟨w.heap.size, 2, none⟩ = some (.slice none 0 0) := blk_cell hx0 2
  have c3 : w4.cell? ⟨w.heap.size, 3, none⟩ = some (.int .i64 0) := blk_cell hx0 3
  have c4 : w4.cell? ⟨w.heap.size, 4, none⟩ = some (.bool false) := blk_cell hx0 4
  clear hx0 hx1 hx2
  go_wp2_with fail
  refine wp_loop_rounds 1 ?_
  rw [rounds_succ]
  go_wp2_with fail
  have hb5 : Below w4.heap.size w4 (w4.alloc (.cells #[.string dir, .int .i64 100, .slice none 0 0, .slice none 0 0, .bool false] 74)) := (Below.refl _ _).alloc (Nat.le_refl _) _
  have hx0 := blk_below HY0.out hb5
  have hx1 := blk_below HY1.out hb5
  have hx2 := blk_below HY2.out hb5
  have hx3 := blk_new w4 (.cells #[.string dir, .int .i64 100, .slice none 0 0, .slice none 0 0, .bool false] 74)
  have HB5 := Lib.hid (HB4.out.trans (hb5.mono HB4.out.size))
  have hlt := HB4.out.size
  clear c0 c1 c2 c3 c4 hb5
  generalize w4.alloc (.cells #[.string dir, .int .i64 100, .slice none 0 0, .slice none 0 0, .bool false] 74) = W5 at *
  have c0 : W5.cell? ⟨w.heap.size, 0, none⟩ = some (.slice none 0 0) := blk_cell hx0 0
  have c1 : W5.cell? ⟨w.heap.size, 1, none⟩ = some (.int .i64 room) := blk_cell hx0 1
  have c2 : W5.cell? ⟨w.heap.size, 2, none⟩ = some (.slice none 0 0) := blk_cell hx0 2
  have c3 : W5.cell? ⟨w.heap.size, 3, none⟩ = some (.int .i64 0) := blk_cell hx0 3
  have c4 : W5.cell? ⟨w.heap.size, 4, none⟩ = some (.bool false) := blk_cell hx0 4
  have d0 : W5.cell? ⟨w4.heap.size, 0, none⟩ = some (.string dir) := blk_cell hx3 0
  have d1 : W5.cell? ⟨w4.heap.size, 1, none⟩ = some (.int .i64 100) := blk_cell hx3 1
  have d2 : W5.cell? ⟨w4.heap.size, 2, none⟩ = some (.slice none 0 0) := blk_cell hx3 2
  have d3 : W5.cell? ⟨w4.heap.size, 3, none⟩ = some (.slice none 0 0) := blk_cell hx3 3
  have d4 : W5.cell? ⟨w4.heap.size, 4, none⟩ = some (.bool false) := blk_cell hx3 4
  have p0 : W5.cell? ⟨w.heap.size + 1, 0, none⟩ = some (.slice none 0 0) := blk_cell hx1 0
  have p1 : W5.cell? ⟨w.heap.size + 1, 1, none⟩ = some (.int .i64 0) := blk_cell hx1 1
  have p2 : W5.cell? ⟨w.heap.size + 1, 2, none⟩ = some (.slice none 0 0) := blk_cell hx1 2
  have p3 : W5.cell? ⟨w.heap.size + 1, 3, none⟩ = some (.int .i64 0) := blk_cell hx1 3
  have p4 : W5.cell? ⟨w.heap.size + 1, 4, none⟩ = some (.bool false) := blk_cell hx1 4
  have q0 : W5.cell? ⟨w.heap.size + 1 + 1, 0, none⟩ = some (.string ⟨#[]⟩) := blk_cell hx2 0
  have q1 : W5.cell? ⟨w.heap.size + 1 + 1, 1, none⟩ = some (.int .i64 0) := blk_cell hx2 1
  have q2 : W5.cell? ⟨w.heap.size + 1 + 1, 2, none⟩ = some (.slice none 0 0) := blk_cell hx2 2
  have q3 : W5.cell? ⟨w.heap.size + 1 + 1, 3, none⟩ = some (.slice none 0 0) := blk_cell hx2 3
  have q4 : W5.cell? ⟨w.heap.size + 1 + 1, 4, none⟩ = some (.bool false) := blk_cell hx2 4
  have f0 := blk_frozen hx1 0
  have f1 := blk_frozen hx1 1
  have f2 := blk_frozen hx1 2
  have f3 := blk_frozen hx1 3
  have f4 := blk_frozen hx1 4
  have g0 := blk_frozen hx2 0
  have g1 := blk_frozen hx2 1
  have g2 := blk_frozen hx2 2
  have g3 := blk_frozen hx2 3
  have g4 := blk_frozen hx2 4
  have HZ1 := Lib.hid hx1
  have HZ2 := Lib.hid hx2
  have n1 : ¬ w.heap.size = w.heap.size + 1 := by omega
  have n2 : ¬ w.heap.size = w.heap.size + 1 + 1 := by omega
  have n3 : ¬ w4.heap.size = w.heap.size + 1 := by have := blk_lt HY1.out; omega
  have n4 : ¬ w4.heap.size = w.heap.size + 1 + 1 := by have := blk_lt HY2.out; omega
  clear hx0 hx1 hx2 hx3
  go_region
  go_wp2_with fail
  have h1 := puts_all HZ1.out (rdCells room) rfl
  have t1 := puts_tch (w.heap.size + 1) (rdCells room) 0 W5
  have h2 : (puts W5 (w.heap.size + 1) 0 (rdCells room)).heap[w.heap.size + 1 + 1]? = some (.cells [.string ⟨#[]⟩, .int .i64 0, .slice none 0 0, .slice none 0 0, .bool false].toArray 74 (0, 0)) := (t1.block _ (blk_lt HZ2.out) (by show ¬ _ = _; omega)).trans HZ2.out
  have h3 := puts_all h2 (rlCells dir) rfl
  have t2 := puts_tch (w.heap.size + 1 + 1) (rlCells dir) 0 (puts W5 (w.heap.size + 1) 0 (rdCells room))
  have h4 := (t2.block (w.heap.size + 1) (blk_lt h1) (by show ¬ _ = _; omega)).trans h1
  have hb0 := HB0.out.trans (HB5.out.mono HB0.out.size)
  have hb1 := hb0.trans (t1.below hb0.size (fun i hi => by have : i = w.heap.size + 1 := hi; omega))
  have hb2 := hb1.trans (t2.below hb1.size (fun i hi => by have : i = w.heap.size + 1 + 1 := hi; omega))
  clear HZ1 HZ2 HY0 HY1 HY2 HX0 HX1 HX2 HB0 HB4 HB5 t1 t2 h1 h2 hb1 c0 c1 c2 c3 c4 d0 d1 d2 d3 d4 f0 f1 f2 f3 f4 g0 g1 g2 g3 g4 p0 p1 p2 p3 p4 q0 q1 q2 q3 q4
  have hW6 : puts (puts W5 (w.heap.size + 1) 0 (rdCells room)) (w.heap.size + 1 + 1) 0 (rlCells dir) = (((((((((W5.setCell ⟨w.heap.size + 1, 0, none⟩ (.slice none 0 0)).setCell ⟨w.heap.size + 1, 1, none⟩ (.int .i64 room)).setCell ⟨w.heap.size + 1, 2, none⟩ (.slice none 0 0)).setCell ⟨w.heap.size + 1, 3, none⟩ (.int .i64 0)).setCell ⟨w.heap.size + 1, 4, none⟩ (.bool false)).setCell ⟨w.heap.size + 1 + 1, 0, none⟩ (.string dir)).setCell ⟨w.heap.size + 1 + 1, 1, none⟩ (.int .i64 100)).setCell ⟨w.heap.size + 1 + 1, 2, none⟩ (.slice none 0 0)).setCell ⟨w.heap.size + 1 + 1, 3, none⟩ (.slice none 0 0)).setCell ⟨w.heap.size + 1 + 1, 4, none⟩ (.bool false) := by
    simp only [puts, Nat.reduceAdd, Nat.zero_add]
  rw [← hW6]
  clear hW6
  generalize puts (puts W5 (w.heap.size + 1) 0 (rdCells room)) (w.heap.size + 1 + 1) 0 (rlCells dir) = W6 at *
  have h4' : W6.drew.heap[w.heap.size + 1]? = some (.cells (rdCells room).toArray 34 (0, 0)) := h4
  have h3' : W6.drew.heap[w.heap.size + 1 + 1]? = some (.cells (rlCells dir).toArray 74 (0, 0)) := h3
  have r1 := run_loadVar_row W6.drew (w.heap.size + 1) 34 34 _ _ _ h4' Tryz.underlying34 rfl (by kernel_rfl)
  have r2 := run_loadVar_row W6.drew (w.heap.size + 1 + 1) 74 74 _ _ _ h3' Tryz.underlying74 rfl (by kernel_rfl)
  refine bodyPost_ret (results_cct_ (p := 6) (q := 7) (u := 8) (ty := 34) (ty2 := 74) rfl _ _ (w.heap.size + 1) (w.heap.size + 1 + 1) _ _ rfl r1 rfl r2) rfl ?_
  exact ⟨hb2.drew, rfl⟩
end Go.Proofs.YtciikcmiiebfpaaGreatDoor
