/- The reference's Open of topics over a disk without files. -/
import Derived.Test.YtciikcmiiebfpaaGreatDoorTopQ
import Derived.Deep.CutRange
import Derived.Deep.RegionHeld3
namespace Go.Proofs.YtciikcmiiebfpaaGreatDoor
open Go Go.RowKit Go.Maps Go.Proofs.YtciikcmiiebfpaaGreatDoorW.PrintWords Go.Proofs.YtciikcmiiebfpaaGreatDoor.PTopicsGets Go.Proofs.YtciikcmiiebfpaaGreatDoorW.PrintMore
set_option linter.unusedVariables false
set_option linter.unusedSimpArgs false

theorem info_conf : (Tryz.prog.info? 48).map (fun i => (i.zero, i.size, i.bytes)) = some (some (.agg #[.string ⟨#[]⟩, .int .i64 0]), 2, 24) := by kernel_rfl
theorem info_part : (Tryz.prog.info? 78).map (fun i => (i.zero, i.size, i.bytes)) = some (some (.agg #[.string ⟨#[]⟩, .int .i32 0, .string ⟨#[]⟩, .int .i64 0, .slice none 0 0, .slice none 0 0, .bool false]), 7, 104) := by kernel_rfl

/-- The frame of the reference's Open. -/
structure RoSt (w W : World) (room : Int) (t : Nat) (i : Nat) (pl : List (ByteArray × Nat)) (cv pv : Value) (xs : List Value) : Prop where
  b3 : W.heap[w.heap.size]? = some (.cells (rdCells room).toArray 34 (0, 0))
  b6 : W.heap[w.heap.size + 1]? = some (.cells (rdCells 0).toArray 34 (0, 0))
  b7 : W.heap[w.heap.size + 1 + 1]? = some (.cells [.slice none 0 0, .slice none 0 0].toArray 37 (0, 0))
  bt : W.heap[t]? = some (.cells [cv, pv].toArray 37 (0, 0))
  oc : Ix.Owns W w.heap.size 48 2 cv i xs
  op : Ix.Owns W w.heap.size 78 7 pv pl.length (pl.flatMap ptCells)
  bl : Below w.heap.size w W
  tg : w.heap.size + 3 ≤ t
section
variable {w W W' : World} {room : Int} {t i : Nat} {pl : List (ByteArray × Nat)} {cv pv : Value} {xs : List Value}
theorem RoSt.below (h : RoSt w W room t i pl cv pv xs) (hb : Below W.heap.size W W') : RoSt w W' room t i pl cv pv xs :=
  ⟨blk_below h.b3 hb, blk_below h.b6 hb, blk_below h.b7 hb, blk_below h.bt hb, Owns_below h.oc hb, Owns_below h.op hb, h.bl.trans (hb.mono h.bl.size), h.tg⟩
/-- The topics' row has grown. -/
theorem RoSt.conf (h : RoSt w W room t i pl cv pv xs) {cv' : Value} {ys : List Value} (ho : Ix.Owns W' w.heap.size 48 2 cv' (i + 1) ys) (ht : Tch (fun k => cv.ownBlock = some k) W W') :
    RoSt w (W'.setCell ⟨t, 0, none⟩ cv') room t (i + 1) pl cv' pv ys := by
  have hr3 := (ht.block _ (blk_lt h.b3) (fun e => Owns_ne h.oc h.b3 (by decide) _ e rfl)).trans h.b3
  have hr6 := (ht.block _ (blk_lt h.b6) (fun e => Owns_ne h.oc h.b6 (by decide) _ e rfl)).trans h.b6
  have hr7 := (ht.block _ (blk_lt h.b7) (fun e => Owns_ne h.oc h.b7 (by decide) _ e rfl)).trans h.b7
  have hrt := (ht.block _ (blk_lt h.bt) (fun e => Owns_ne h.oc h.bt (by decide) _ e rfl)).trans h.bt
  have hop := Owns_tch h.op ht (fun k hk e => by
    obtain ⟨c1, e1⟩ := h.op.block_type k hk
    exact Owns_ne h.oc e1 (by decide) _ e rfl)
  have t1 := Tch.set (S := fun k => k = t) W' ⟨t, 0, none⟩ cv' rfl
  have hg := h.tg
  have hbl : Below w.heap.size w W' := h.bl.trans (ht.below h.bl.size (fun k hk => (Owns_ge h.oc k hk)))
  exact ⟨(t1.block _ (blk_lt hr3) (by show ¬ _ = _; omega)).trans hr3, (t1.block _ (blk_lt hr6) (by show ¬ _ = _; omega)).trans hr6, (t1.block _ (blk_lt hr7) (by show ¬ _ = _; omega)).trans hr7, blk_put hrt 0 _ rfl,
    Owns_tch ho t1 (fun k hk e => Owns_ne ho hrt (by decide) k hk e), Owns_tch hop t1 (fun k hk e => Owns_ne hop hrt (by decide) k hk e), hbl.trans (t1.below hbl.size (fun k hk => by have : k = t := hk; omega)), hg⟩
/-- The parts' row has grown. -/
theorem RoSt.part (h : RoSt w W room t i pl cv pv xs) {pv' : Value} {x : ByteArray × Nat} (ho : Ix.Owns W' w.heap.size 78 7 pv' (pl.length + 1) (pl.flatMap ptCells ++ ptCells x)) (ht : Tch (fun k => pv.ownBlock = some k) W W') :
    RoSt w (W'.setCell ⟨t, 1, none⟩ pv') room t i (pl ++ [x]) cv pv' xs := by
  have hr3 := (ht.block _ (blk_lt h.b3) (fun e => Owns_ne h.op h.b3 (by decide) _ e rfl)).trans h.b3
  have hr6 := (ht.block _ (blk_lt h.b6) (fun e => Owns_ne h.op h.b6 (by decide) _ e rfl)).trans h.b6
  have hr7 := (ht.block _ (blk_lt h.b7) (fun e => Owns_ne h.op h.b7 (by decide) _ e rfl)).trans h.b7
  have hrt := (ht.block _ (blk_lt h.bt) (fun e => Owns_ne h.op h.bt (by decide) _ e rfl)).trans h.bt
  have hoc := Owns_tch h.oc ht (fun k hk e => by
    obtain ⟨c1, e1⟩ := h.oc.block_type k hk
    exact Owns_ne h.op e1 (by decide) _ e rfl)
  have t1 := Tch.set (S := fun k => k = t) W' ⟨t, 1, none⟩ pv' rfl
  have hg := h.tg
  have hbl : Below w.heap.size w W' := h.bl.trans (ht.below h.bl.size (fun k hk => (Owns_ge h.op k hk)))
  have e1 : (pl ++ [x]).flatMap ptCells = pl.flatMap ptCells ++ ptCells x := by simp
  have e2 : (pl ++ [x]).length = pl.length + 1 := by simp
  refine ⟨(t1.block _ (blk_lt hr3) (by show ¬ _ = _; omega)).trans hr3, (t1.block _ (blk_lt hr6) (by show ¬ _ = _; omega)).trans hr6, (t1.block _ (blk_lt hr7) (by show ¬ _ = _; omega)).trans hr7, blk_put hrt 1 _ rfl,
    Owns_tch hoc t1 (fun k hk e => Owns_ne hoc hrt (by decide) k hk e), ?_, hbl.trans (t1.below hbl.size (fun k hk => by have : k = t := hk; omega)), hg⟩
  rw [e1, e2]
  exact Owns_tch ho t1 (fun k hk e => Owns_ne ho hrt (by decide) k hk e)
/-- The disk is stored as it was. -/
theorem RoSt.same (h : RoSt w W room t i pl cv pv xs) : RoSt w (puts W w.heap.size 0 (rdCells room)) room t i pl cv pv xs := by
  have t1 := puts_tch w.heap.size (rdCells room) 0 W
  have hg := h.tg
  exact ⟨puts_all h.b3 (rdCells room) rfl, (t1.block _ (blk_lt h.b6) (by show ¬ _ = _; omega)).trans h.b6, (t1.block _ (blk_lt h.b7) (by show ¬ _ = _; omega)).trans h.b7, (t1.block _ (blk_lt h.bt) (by show ¬ _ = _; omega)).trans h.bt,
    Owns_tch h.oc t1 (fun k hk e => Owns_ne h.oc h.b3 (by decide) k hk e), Owns_tch h.op t1 (fun k hk e => Owns_ne h.op h.b3 (by decide) k hk e), h.bl.trans (t1.below h.bl.size (fun k hk => by have : k = w.heap.size := hk; omega)), hg⟩
end
set_option maxRecDepth 100000 in
set_option maxHeartbeats 4000000 in
theorem ropenT_any (w : World) (A : Option Addr) (n c : Nat) (cs : List Conf) (h : CRow w A n cs) (hnc : n ≤ c) (hn : n ≤ 9223372036854775807) (hok : ∀ x ∈ cs, x.nm.size ≤ 140737488351232) (room : Int) :
    Calls Tryz.prog 8 #[rdV room, .slice A n c, .int .i64 100] w fun r w' => Below w.heap.size w w' ∧
      ((checkE cs ≠ 0 ∧ r = .returned (.tuple #[rdV room, .agg #[.slice none 0 0, .slice none 0 0], .int .i64 (checkE cs)])) ∨
       (checkE cs = 0 ∧ ∃ cv Ap cp, r = .returned (.tuple #[rdV room, .agg #[cv, .slice Ap (plAll cs).length cp], .int .i64 0]) ∧ Ix.Owns w' w.heap.size 78 7 (.slice Ap (plAll cs).length cp) (plAll cs).length ((plAll cs).flatMap ptCells) ∧ ∃ Ac nc cc, cv = .slice Ac nc cc)) := by
  have hW : ∃ W0, W0 = ((w.alloc (.cells #[.slice none 0 0, .int .i64 room, .slice none 0 0, .int .i64 0, .bool false] 34)).alloc (.cells #[.slice none 0 0, .int .i64 0, .slice none 0 0, .int .i64 0, .bool false] 34)).alloc (.cells #[.slice none 0 0, .slice none 0 0] 37) := ⟨_, rfl⟩
  obtain ⟨W0, hW0⟩ := hW
  have hB0 : Below w.heap.size w W0 := by rw [hW0]; exact three_new w _ _ _ 0
  have hX0 : W0.heap[w.heap.size]? = some (.cells #[.slice none 0 0, .int .i64 room, .slice none 0 0, .int .i64 0, .bool false] 34 (0, 0)) := by rw [hW0]; exact three_first w _ _ _ 0
  have hX1 : W0.heap[w.heap.size + 1]? = some (.cells #[.slice none 0 0, .int .i64 0, .slice none 0 0, .int .i64 0, .bool false] 34 (0, 0)) := by rw [hW0]; exact three_mid w _ _ _ 0
  have hX2 : W0.heap[w.heap.size + 1 + 1]? = some (.cells #[.slice none 0 0, .slice none 0 0] 37 (0, 0)) := by rw [hW0]; exact three_last w _ _ _ 0
  have hs0 : w.heap.size + 3 ≤ W0.heap.size := by have := blk_lt hX2; omega
  have HCK := Lib.hid (rcheck_any W0 A n c cs (h.below hB0) hnc hn hok)
  have HCR := Lib.hid h
  have HOK := Lib.hid hok
  have HW0 := Lib.hid hW0
  have HB0 := Lib.hid hB0
  have HX0 := Lib.hid hX0
  have HX1 := Lib.hid hX1
  have HX2 := Lib.hid hX2
  have HS0 := Lib.hid hs0
  clear h hok hW0 hB0 hX0 hX1 hX2 hs0
  unfold rdV
  by_cases he : checkE cs = 0
  · obtain ⟨h8, hgood⟩ := checkE_ok he
    have HE := Lib.hid he
    have HG := Lib.hid hgood
    have H8 : Hid (n ≤ 8) := by show _ ≤ _; rw [HCR.out.1]; exact h8
    have HN : Hid (n = cs.length) := HCR.out.1
    rw [he] at HCK
    clear he h8 hgood
    go_enter Tryz.func8, Tryz.ntmps8
    go_wp2_with fail
    rw [← HW0.out]
    refine HCK.out.mono ?_
    rintro r w1 ⟨rfl, hb1⟩
    have HST1 : Hid (RoSt w (w1.alloc (.cells #[.slice none 0 0, .slice none 0 0] 37)) room w1.heap.size 0 [] (.slice none 0 0) (.slice none 0 0) []) := by
      have hb2 : Below W0.heap.size W0 (w1.alloc (.cells #[.slice none 0 0, .slice none 0 0] 37)) := hb1.alloc hb1.size _
      exact ⟨blk_below HX0.out hb2, blk_below HX1.out hb2, blk_below HX2.out hb2, blk_new _ _, Ix.Owns.nil _ _ _ _, Ix.Owns.nil _ _ _ _, HB0.out.trans (hb2.mono HB0.out.size), Nat.le_trans HS0.out hb1.size⟩
    have HS1 : Hid (w.heap.size + 3 ≤ w1.heap.size) := Nat.le_trans HS0.out hb1.size
    clear hb1 HCK HX0 HX1 HX2 HB0 HS0 HW0
    go_wp2_with fail
    generalize w1.alloc (.cells #[.slice none 0 0, .slice none 0 0] 37) = W1 at *
    obtain ⟨t, ht⟩ : ∃ t, t = w1.heap.size := ⟨_, rfl⟩
    rw [← ht] at HST1 ⊢
    have hle := H8.out
    clear ht HS1
    go_loopw [11, 12, 13, 14, 15, 16, 17] (fun iv _ _ _ _ _ _ wr => ∃ (i : Nat) (cv pv : Value) (xs : List Value), i ≤ n ∧ iv = .int .i64 i ∧ Hid (RoSt w wr room t i (plAll (cs.take i)) cv pv xs)) (fun iv _ _ _ _ _ _ _ => n - (intOf iv).toNat)
    case atStart => exact ⟨0, _, _, _, Nat.zero_le _, rfl, HST1.out⟩
    case round =>
      clear HST1
      obtain ⟨i, cv, pv, xs, hi, rfl, HST⟩ := hrel
      by_cases hin : i < n
      · obtain ⟨x, hx⟩ : ∃ x, cs[i]? = some x := ⟨_, List.getElem?_eq_getElem (by have := HN.out; omega)⟩
        obtain ⟨b, o, rfl, hbl0, hc0, hc1⟩ := HCR.out.2 i x hx
        have hbl := Nat.lt_of_lt_of_le hbl0 HST.out.bl.size
        have k0 := (HST.out.bl.cell (p := ⟨b, o + i * 2, none⟩) hbl0).trans hc0
        have k1 := (HST.out.bl.cell (p := ⟨b, o + i * 2 + 1, none⟩) hbl0).trans hc1
        obtain ⟨hxt, hx1, hx16⟩ := HG.out x (List.mem_of_getElem? hx)
        have HPL := Lib.hid (plTo_all hx)
        have HXT := Lib.hid hxt
        have HXS := Lib.hid (HOK.out x (List.mem_of_getElem? hx))
        have HBL0 := Lib.hid hbl0
        have HC0 := Lib.hid hc0
        have HC1 := Lib.hid hc1
        clear hbl0 hc0 hc1 hx hxt
        obtain ⟨nm, pt⟩ := x
        dsimp only at k0 k1 hx1 hx16 HPL HXT HXS HC0 HC1
        obtain ⟨P, rfl⟩ := Int.eq_ofNat_of_zero_le (show 0 ≤ pt by omega)
        have hP1 : 1 ≤ P := by omega
        have hP16 : P ≤ 16 := by omega
        rw [Int.toNat_natCast] at HPL
        clear hx1 hx16
        have t0 : wr.cell? ⟨t, 0, none⟩ = some cv := blk_cell HST.out.bt 0
        obtain ⟨Ac, cc, rfl⟩ := HST.out.oc.slice
        obtain ⟨Ap, cp, rfl⟩ := HST.out.op.slice
        have hpl : (plAll (cs.take i)).length ≤ 128 := by
          have h1 := plAll_length (cs.take i) (fun x hx => (HG.out x (List.mem_of_mem_take hx)).2.2)
          rw [List.length_take] at h1
          omega
        have HPLN := Lib.hid hpl
        have m0 : (wr.alloc (.cells #[.string nm, .int .i64 (P : Int)] 48)).cell? ⟨t, 0, none⟩ = some (.slice Ac i cc) := blk_cell (blk_alloc HST.out.bt _) 0
        have m1 : (wr.alloc (.cells #[.string nm, .int .i64 (P : Int)] 48)).cell? ⟨b, o + i * 2, none⟩ = some (.string nm) := (((Below.refl wr.heap.size wr).alloc (Nat.le_refl _) _).cell (p := ⟨b, o + i * 2, none⟩) hbl).trans k0
        have m2 : (wr.alloc (.cells #[.string nm, .int .i64 (P : Int)] 48)).cell? ⟨b, o + i * 2 + 1, none⟩ = some (.int .i64 (P : Int)) := (((Below.refl wr.heap.size wr).alloc (Nat.le_refl _) _).cell (p := ⟨b, o + i * 2 + 1, none⟩) hbl).trans k1
        have HLW : Hid (w.heap.size ≤ wr.heap.size) := HST.out.bl.size
        go_upto_region 8 with fail
        go_cut [] from 32 to 40 (fun wx => ∃ cv' ys, RoSt w wx room t (i + 1) (plAll (cs.take i)) cv' (.slice Ap (plAll (cs.take i)).length cp) ys)
        case first =>
          go_region_law (refine step_push rfl _ _ 22 48 2 24 (.agg #[.string ⟨#[]⟩, .int .i64 0]) rfl Tryz.underlying22 info_conf rfl (by decide) _ w.heap.size wr.heap.size (.slice Ac i cc) i xs [.string nm, .int .i64 (P : Int)] rfl rfl (blk_new _ _) rfl rfl (Owns_below HST.out.oc (((Below.refl wr.heap.size wr).alloc (Nat.le_refl _) _).drew)) (by unfold maxLen; omega) (by omega) (by show _ ≤ (wr.alloc _).heap.size; rw [World.size_alloc]; have := HLW.out; omega) ?_; intro v8 w8 ho ht hs; obtain ⟨A8, c8, rfl⟩ := ho.slice; have x7 := (ht.block t (blk_lt (blk_alloc HST.out.bt _)) (fun e => Owns_ne HST.out.oc HST.out.bt (by decide) _ e rfl)).trans (blk_alloc HST.out.bt _); have HO8 := Lib.hid ho; have HT8 := Lib.hid ht; have q7 : w8.cell? ⟨t, 0, none⟩ = some (.slice Ac i cc) := blk_cell x7 0; have f7 := blk_frozen x7 0; clear ho ht hs x7)
          all_goals
            go_wp2_with fail
            go_meet
            exact ⟨_, _, (HST.out.below (((Below.refl wr.heap.size wr).alloc (Nat.le_refl _) _).drew)).conf HO8.out HT8.out⟩
        case rest =>
        obtain ⟨cv1, ys1, hST1⟩ := hcut
        rename World => wc1
        have HST1 : Hid (RoSt w wc1 room t (i + 1) (plTo cs i 0 nm) cv1 (.slice Ap (plAll (cs.take i)).length cp) ys1) := by rw [plTo_zero]; exact hST1
        clear hST1 HST m0 m1 m2 k0 k1 t0 hbl HLW
        go_wp2_with fail
        go_loopw [12, 13, 14, 15, 16, 17] (fun pq _ _ _ _ _ wr => ∃ (q : Nat) (cv pv : Value) (xs : List Value), q ≤ P ∧ pq = .int .i64 q ∧ Hid (RoSt w wr room t (i + 1) (plTo cs i q nm) cv pv xs)) (fun pq _ _ _ _ _ _ => P - (intOf pq).toNat)
        case atStart => exact ⟨0, _, _, _, Nat.zero_le _, rfl, HST1.out⟩
        case round =>
          clear HST1
          obtain ⟨q, cv, pv, xs, hq, rfl, HST⟩ := hrel
          have k0 := (HST.out.bl.cell (p := ⟨b, o + i * 2, none⟩) HBL0.out).trans HC0.out
          have k1 := (HST.out.bl.cell (p := ⟨b, o + i * 2 + 1, none⟩) HBL0.out).trans HC1.out
          obtain ⟨Ap, cp, rfl⟩ := HST.out.op.slice
          by_cases hqP : q < P
          · have HDIR : Hid (∀ W, Calls Tryz.prog 22 #[.string nm, .int .i32 (q : Int)] W fun r w' => r = .returned (.tuple #[.string (Lb.dirS nm q), .int .i64 0]) ∧ Below W.heap.size W w') := fun W => by
              have h1 := Lb.rdir_any nm W HXS.out (q : Int) (by omega)
              have h2 : Lb.dirAns nm (q : Int) = .tuple #[.string (Lb.dirS nm q), .int .i64 0] := by unfold Lb.dirAns; rw [if_pos HXT.out, if_neg (by omega), if_pos HXT.out, if_neg (by omega), Int.toNat_natCast]
              rw [h2] at h1
              exact h1
            have hw32 : IntKind.i32.wrap (q : Int) = (q : Int) := by simp [IntKind.wrap, IntKind.bits, IntKind.signed]; omega
            have HGD := Lib.hid (dir_good HXT.out q (by omega))
            go_wp2_with fail
            refine (HDIR.out wr).mono ?_
            rintro r w2 ⟨rfl, hb2⟩
            have HST2 := Lib.hid (HST.out.below hb2)
            have c0 : w2.cell? ⟨w.heap.size, 0, none⟩ = some (.slice none 0 0) := blk_cell HST2.out.b3 0
            have c1 : w2.cell? ⟨w.heap.size, 1, none⟩ = some (.int .i64 room) := blk_cell HST2.out.b3 1
            have c2 : w2.cell? ⟨w.heap.size, 2, none⟩ = some (.slice none 0 0) := blk_cell HST2.out.b3 2
            have c3 : w2.cell? ⟨w.heap.size, 3, none⟩ = some (.int .i64 0) := blk_cell HST2.out.b3 3
            have c4 : w2.cell? ⟨w.heap.size, 4, none⟩ = some (.bool false) := blk_cell HST2.out.b3 4
            clear hb2 HDIR HST k0 k1
            go_wp2_with fail
            refine (ropen_none w2 (Lb.dirS nm q) HGD.out.2 HGD.out.1 room).mono ?_
            rintro r w3 ⟨hb3, rfl⟩
            have hst3 := HST2.out.below hb3
            have hB4 : Below w3.heap.size w3 ((w3.alloc (.cells (rdCells room).toArray 34)).alloc (.cells (rlCells (Lb.dirS nm q)).toArray 74)) := ((Below.refl _ _).alloc (Nat.le_refl _) _).alloc (by rw [World.size_alloc]; omega) _
            have HST4 := Lib.hid (hst3.below hB4)
            have HN15 : Hid (((w3.alloc (.cells (rdCells room).toArray 34)).alloc (.cells (rlCells (Lb.dirS nm q)).toArray 74)).heap[w3.heap.size]? = some (.cells (rdCells room).toArray 34 (0, 0))) := blk_alloc (blk_new _ _) _
            have HN16 : Hid (((w3.alloc (.cells (rdCells room).toArray 34)).alloc (.cells (rlCells (Lb.dirS nm q)).toArray 74)).heap[w3.heap.size + 1]? = some (.cells (rlCells (Lb.dirS nm q)).toArray 74 (0, 0))) := by
              have := blk_new (w3.alloc (.cells (rdCells room).toArray 34)) (.cells (rlCells (Lb.dirS nm q)).toArray 74)
              rw [World.size_alloc] at this
              exact this
            have HLW3 : Hid (w.heap.size + 3 ≤ w3.heap.size) := by show _ ≤ _; have := blk_lt hst3.b7; omega
            clear hb3 hst3 hB4 c0 c1 c2 c3 c4 HST2
            go_upto_region 14 with fail
            simp only [rdCells, rlCells] at HST4 HN15 HN16
            generalize (w3.alloc (.cells #[.slice none 0 0, .int .i64 room, .slice none 0 0, .int .i64 0, .bool false] 34)).alloc (.cells #[.string (Lb.dirS nm q), .int .i64 100, .slice none 0 0, .slice none 0 0, .bool false] 74) = W4 at *
            have s0 : W4.cell? ⟨w3.heap.size, 0, none⟩ = some (.slice none 0 0) := blk_cell HN15.out 0
            have s1 : W4.cell? ⟨w3.heap.size, 1, none⟩ = some (.int .i64 room) := blk_cell HN15.out 1
            have s2 : W4.cell? ⟨w3.heap.size, 2, none⟩ = some (.slice none 0 0) := blk_cell HN15.out 2
            have s3 : W4.cell? ⟨w3.heap.size, 3, none⟩ = some (.int .i64 0) := blk_cell HN15.out 3
            have s4 : W4.cell? ⟨w3.heap.size, 4, none⟩ = some (.bool false) := blk_cell HN15.out 4
            have c0 : W4.cell? ⟨w.heap.size, 0, none⟩ = some (.slice none 0 0) := blk_cell HST4.out.b3 0
            have c1 : W4.cell? ⟨w.heap.size, 1, none⟩ = some (.int .i64 room) := blk_cell HST4.out.b3 1
            have c2 : W4.cell? ⟨w.heap.size, 2, none⟩ = some (.slice none 0 0) := blk_cell HST4.out.b3 2
            have c3 : W4.cell? ⟨w.heap.size, 3, none⟩ = some (.int .i64 0) := blk_cell HST4.out.b3 3
            have c4 : W4.cell? ⟨w.heap.size, 4, none⟩ = some (.bool false) := blk_cell HST4.out.b3 4
            have f0 := blk_frozen HST4.out.b3 0
            have f1 := blk_frozen HST4.out.b3 1
            have f2 := blk_frozen HST4.out.b3 2
            have f3 := blk_frozen HST4.out.b3 3
            have f4 := blk_frozen HST4.out.b3 4
            have HST5 := Lib.hid HST4.out.same
            have HN17 : Hid ((puts W4 w.heap.size 0 (rdCells room)).heap[w3.heap.size + 1]? = some (.cells #[.string (Lb.dirS nm q), .int .i64 100, .slice none 0 0, .slice none 0 0, .bool false] 74 (0, 0))) := ((puts_tch w.heap.size (rdCells room) 0 W4).block _ (blk_lt HN16.out) (by show ¬ _ = _; have := HLW3.out; omega)).trans HN16.out
            have hPW : puts W4 w.heap.size 0 (rdCells room) = ((((W4.setCell ⟨w.heap.size, 0, none⟩ (.slice none 0 0)).setCell ⟨w.heap.size, 1, none⟩ (.int .i64 room)).setCell ⟨w.heap.size, 2, none⟩ (.slice none 0 0)).setCell ⟨w.heap.size, 3, none⟩ (.int .i64 0)).setCell ⟨w.heap.size, 4, none⟩ (.bool false) := by simp only [puts, Nat.reduceAdd, Nat.zero_add]
            have HPW := Lib.hid hPW
            clear hPW
            go_upto_region 17 with fail
            rw [← HPW.out]
            clear HPW s0 s1 s2 s3 s4 c0 c1 c2 c3 c4 f0 f1 f2 f3 f4 HST4 HN15 HN16
            generalize puts W4 w.heap.size 0 (rdCells room) = W5 at *
            have p1 : W5.cell? ⟨t, 1, none⟩ = some (.slice Ap (plTo cs i q nm).length cp) := blk_cell HST5.out.bt 1
            have k0 := (HST5.out.bl.cell (p := ⟨b, o + i * 2, none⟩) HBL0.out).trans HC0.out
            have d0 : W5.cell? ⟨w3.heap.size + 1, 0, none⟩ = some (.string (Lb.dirS nm q)) := blk_cell HN17.out 0
            have d1 : W5.cell? ⟨w3.heap.size + 1, 1, none⟩ = some (.int .i64 100) := blk_cell HN17.out 1
            have d2 : W5.cell? ⟨w3.heap.size + 1, 2, none⟩ = some (.slice none 0 0) := blk_cell HN17.out 2
            have d3 : W5.cell? ⟨w3.heap.size + 1, 3, none⟩ = some (.slice none 0 0) := blk_cell HN17.out 3
            have d4 : W5.cell? ⟨w3.heap.size + 1, 4, none⟩ = some (.bool false) := blk_cell HN17.out 4
            have hB6 : Below W5.heap.size W5 (W5.alloc (.cells #[.string nm, .int .i32 (q : Int), .string (Lb.dirS nm q), .int .i64 100, .slice none 0 0, .slice none 0 0, .bool false] 78)) := (Below.refl _ _).alloc (Nat.le_refl _) _
            have HB6 := Lib.hid hB6
            have p1' : (W5.alloc (.cells #[.string nm, .int .i32 (q : Int), .string (Lb.dirS nm q), .int .i64 100, .slice none 0 0, .slice none 0 0, .bool false] 78)).cell? ⟨t, 1, none⟩ = some (.slice Ap (plTo cs i q nm).length cp) := blk_cell (blk_below HST5.out.bt hB6) 1
            have hll : (plTo cs i q nm).length ≤ 200 := by
              have h1 := HPLN.out
              unfold plTo
              rw [List.length_append, List.length_map, List.length_range]
              omega
            have HLL := Lib.hid hll
            have HLW5 := Lib.hid HST5.out.bl.size
            clear hB6 hll
            obtain ⟨ln, hln⟩ : ∃ ln, ln = (plTo cs i q nm).length := ⟨_, rfl⟩
            have HLN := Lib.hid hln
            rw [← hln] at p1 p1' HLL
            clear hln
            have HOP : Hid (Ix.Owns W5 w.heap.size 78 7 (.slice Ap ln cp) ln ((plTo cs i q nm).flatMap ptCells)) := by have := HST5.out.op; rw [← HLN.out] at this; exact this
            go_region_law (refine step_push rfl _ _ 35 78 7 104 (.agg #[.string ⟨#[]⟩, .int .i32 0, .string ⟨#[]⟩, .int .i64 0, .slice none 0 0, .slice none 0 0, .bool false]) rfl Tryz.underlying35 info_part rfl (by decide) _ w.heap.size W5.heap.size (.slice Ap ln cp) ln ((plTo cs i q nm).flatMap ptCells) (ptCells (nm, q)) rfl rfl (blk_new _ _) rfl rfl (Owns_below HOP.out HB6.out.drew) (by have := HLL.out; unfold maxLen; omega) (by have := HLL.out; omega) (by show _ ≤ (W5.alloc _).heap.size; rw [World.size_alloc]; have := HLW5.out; omega) ?_; intro v8 w8 ho ht hs; obtain ⟨A8, c8, rfl⟩ := ho.slice; have x7 := (ht.block t (blk_lt (blk_below HST5.out.bt HB6.out.drew)) (fun e => Owns_ne HOP.out HST5.out.bt (by decide) _ e rfl)).trans (blk_below HST5.out.bt HB6.out.drew); have HO8 := Lib.hid ho; have HT8 := Lib.hid ht; have q7 : w8.cell? ⟨t, 1, none⟩ = some (.slice Ap (plTo cs i q nm).length cp) := blk_cell x7 1; rw [← HLN.out] at q7; have f7 := blk_frozen x7 1; clear ho ht hs x7)
            all_goals
              have HST9 : Hid (∃ pv', pv' = Value.slice A8 (ln + 1) c8 ∧ RoSt w (w8.setCell ⟨t, 1, none⟩ pv') room t (i + 1) (plTo cs i (q + 1) nm) cv pv' xs) := by
                have hln := HLN.out
                subst hln
                have := (HST5.out.below HB6.out.drew).part HO8.out HT8.out
                rw [← plTo_succ] at this
                exact ⟨_, rfl, this⟩
              obtain ⟨pv', rfl, hst9⟩ := HST9.out
              have HST10 := Lib.hid hst9
              clear HST9 hst9
              go_wp2_with fail
              go_roundw
              case rel => exact ⟨q + 1, _, _, _, by omega, by go_num, HST10.out⟩
              case measure => simp [intOf]; omega
          · obtain rfl : q = P := by omega
            have HST2 : Hid (RoSt w wr room t (i + 1) (plAll (cs.take (i + 1))) cv (.slice Ap (plTo cs i q nm).length cp) xs) := by
              have := HST.out
              rw [HPL.out] at this
              rw [HPL.out]
              exact this
            clear HST
            go_wp2_with fail
            go_roundw
            case rel => exact ⟨i + 1, _, _, _, by omega, by go_num, HST2.out⟩
            case measure => simp [intOf]; omega
      · obtain rfl : i = n := by omega
        have HST2 : Hid (RoSt w wr room t i (plAll cs) cv pv xs) := by
          have := HST.out
          rw [HN.out, List.take_length] at this
          rw [HN.out]
          exact this
        obtain ⟨Ac, cc, rfl⟩ := HST2.out.oc.slice
        obtain ⟨Ap, cp, rfl⟩ := HST2.out.op.slice
        clear HST
        go_upto_region 18 with fail
        have c0 : wr.cell? ⟨w.heap.size, 0, none⟩ = some (.slice none 0 0) := blk_cell HST2.out.b3 0
        have c1 : wr.cell? ⟨w.heap.size, 1, none⟩ = some (.int .i64 room) := blk_cell HST2.out.b3 1
        have c2 : wr.cell? ⟨w.heap.size, 2, none⟩ = some (.slice none 0 0) := blk_cell HST2.out.b3 2
        have c3 : wr.cell? ⟨w.heap.size, 3, none⟩ = some (.int .i64 0) := blk_cell HST2.out.b3 3
        have c4 : wr.cell? ⟨w.heap.size, 4, none⟩ = some (.bool false) := blk_cell HST2.out.b3 4
        have d0 : wr.cell? ⟨t, 0, none⟩ = some (.slice Ac i cc) := blk_cell HST2.out.bt 0
        have d1 : wr.cell? ⟨t, 1, none⟩ = some (.slice Ap (plAll cs).length cp) := blk_cell HST2.out.bt 1
        have p0 : wr.cell? ⟨w.heap.size + 1, 0, none⟩ = some (.slice none 0 0) := blk_cell HST2.out.b6 0
        have p1 : wr.cell? ⟨w.heap.size + 1, 1, none⟩ = some (.int .i64 0) := blk_cell HST2.out.b6 1
        have p2 : wr.cell? ⟨w.heap.size + 1, 2, none⟩ = some (.slice none 0 0) := blk_cell HST2.out.b6 2
        have p3 : wr.cell? ⟨w.heap.size + 1, 3, none⟩ = some (.int .i64 0) := blk_cell HST2.out.b6 3
        have p4 : wr.cell? ⟨w.heap.size + 1, 4, none⟩ = some (.bool false) := blk_cell HST2.out.b6 4
        have q0 : wr.cell? ⟨w.heap.size + 1 + 1, 0, none⟩ = some (.slice none 0 0) := blk_cell HST2.out.b7 0
        have q1 : wr.cell? ⟨w.heap.size + 1 + 1, 1, none⟩ = some (.slice none 0 0) := blk_cell HST2.out.b7 1
        have f0 := blk_frozen HST2.out.b6 0
        have f1 := blk_frozen HST2.out.b6 1
        have f2 := blk_frozen HST2.out.b6 2
        have f3 := blk_frozen HST2.out.b6 3
        have f4 := blk_frozen HST2.out.b6 4
        have g0 := blk_frozen HST2.out.b7 0
        have g1 := blk_frozen HST2.out.b7 1
        have htg := HST2.out.tg
        have n1 : ¬ w.heap.size = w.heap.size + 1 := by omega
        have n2 : ¬ w.heap.size = w.heap.size + 1 + 1 := by omega
        have n3 : ¬ t = w.heap.size + 1 := by omega
        have n4 : ¬ t = w.heap.size + 1 + 1 := by omega
        go_region
        go_wp2_with fail
        have h1 := puts_all HST2.out.b6 (rdCells room) rfl
        have t1 := puts_tch (w.heap.size + 1) (rdCells room) 0 wr
        have h2 := (t1.block _ (blk_lt HST2.out.b7) (by show ¬ _ = _; omega)).trans HST2.out.b7
        have o2 := Owns_tch HST2.out.op t1 (fun k hk e => Owns_ne HST2.out.op HST2.out.b6 (by decide) k hk e)
        have hb1 := HST2.out.bl.trans (t1.below HST2.out.bl.size (fun i hi => by have : i = w.heap.size + 1 := hi; omega))
        have hW6 : puts (puts wr (w.heap.size + 1) 0 (rdCells room)) (w.heap.size + 1 + 1) 0 [.slice Ac i cc, .slice Ap (plAll cs).length cp] = ((((((wr.setCell ⟨w.heap.size + 1, 0, none⟩ (.slice none 0 0)).setCell ⟨w.heap.size + 1, 1, none⟩ (.int .i64 room)).setCell ⟨w.heap.size + 1, 2, none⟩ (.slice none 0 0)).setCell ⟨w.heap.size + 1, 3, none⟩ (.int .i64 0)).setCell ⟨w.heap.size + 1, 4, none⟩ (.bool false)).setCell ⟨w.heap.size + 1 + 1, 0, none⟩ (.slice Ac i cc)).setCell ⟨w.heap.size + 1 + 1, 1, none⟩ (.slice Ap (plAll cs).length cp) := by
          simp only [puts, Nat.reduceAdd, Nat.zero_add]
        rw [← hW6]
        clear hW6 n1 n2 n3 n4 c0 c1 c2 c3 c4 d0 d1 f0 f1 f2 f3 f4 g0 g1 p0 p1 p2 p3 p4 q0 q1
        generalize puts wr (w.heap.size + 1) 0 (rdCells room) = W5 at *
        have h3 := puts_all h2 [.slice Ac i cc, .slice Ap (plAll cs).length cp] rfl
        have t2 := puts_tch (w.heap.size + 1 + 1) [.slice Ac i cc, .slice Ap (plAll cs).length cp] 0 W5
        have h4 := (t2.block (w.heap.size + 1) (blk_lt h1) (by show ¬ _ = _; omega)).trans h1
        have o3 := Owns_tch o2 t2 (fun k hk e => Owns_ne o2 h2 (by decide) k hk e)
        have hb2 := hb1.trans (t2.below hb1.size (fun i hi => by have : i = w.heap.size + 1 + 1 := hi; omega))
        clear t1 t2 h1 h2 hb1 o2
        generalize puts W5 (w.heap.size + 1 + 1) 0 [.slice Ac i cc, .slice Ap (plAll cs).length cp] = W6 at *
        have h4' : W6.drew.heap[w.heap.size + 1]? = some (.cells (rdCells room).toArray 34 (0, 0)) := h4
        have h3' : W6.drew.heap[w.heap.size + 1 + 1]? = some (.cells [.slice Ac i cc, .slice Ap (plAll cs).length cp].toArray 37 (0, 0)) := h3
        have r1 := run_loadVar_row W6.drew (w.heap.size + 1) 34 34 _ _ _ h4' Tryz.underlying34 rfl (by kernel_rfl)
        have r2 := run_loadVar_row W6.drew (w.heap.size + 1 + 1) 37 37 _ _ _ h3' Tryz.underlying37 rfl (by kernel_rfl)
        refine bodyPost_ret (results_cct_ (p := 6) (q := 7) (u := 8) (ty := 34) (ty2 := 37) rfl _ _ (w.heap.size + 1) (w.heap.size + 1 + 1) _ _ rfl r1 rfl r2) rfl ?_
        exact ⟨hb2.drew, .inr ⟨HE.out, .slice Ac i cc, Ap, cp, rfl, Owns_below o3 (Below.drew (Below.refl _ _)), Ac, i, cc, rfl⟩⟩
  · have HE := Lib.hid he
    have hne : (checkE cs != 0) = true := by rw [bne_iff_ne]; exact he
    obtain ⟨ce, hce⟩ : ∃ ce, ce = checkE cs := ⟨_, rfl⟩
    rw [← hce] at HCK HE hne ⊢
    clear hce he
    go_enter Tryz.func8, Tryz.ntmps8
    go_wp2_with fail
    rw [← HW0.out]
    refine HCK.out.mono ?_
    rintro r w1 ⟨rfl, hb1⟩
    have x0 := blk_below HX0.out hb1
    have x1 := blk_below HX1.out hb1
    have x2 := blk_below HX2.out hb1
    have HB1 := Lib.hid (HB0.out.trans (hb1.mono HB0.out.size))
    have HY1 := Lib.hid x1
    have HY2 := Lib.hid x2
    have c0 : w1.cell? ⟨w.heap.size, 0, none⟩ = some (.slice none 0 0) := blk_cell x0 0
    have c1 : w1.cell? ⟨w.heap.size, 1, none⟩ = some (.int .i64 room) := blk_cell x0 1
    have c2 : w1.cell? ⟨w.heap.size, 2, none⟩ = some (.slice none 0 0) := blk_cell x0 2
    have c3 : w1.cell? ⟨w.heap.size, 3, none⟩ = some (.int .i64 0) := blk_cell x0 3
    have c4 : w1.cell? ⟨w.heap.size, 4, none⟩ = some (.bool false) := blk_cell x0 4
    have p0 : w1.cell? ⟨w.heap.size + 1, 0, none⟩ = some (.slice none 0 0) := blk_cell x1 0
    have p1 : w1.cell? ⟨w.heap.size + 1, 1, none⟩ = some (.int .i64 0) := blk_cell x1 1
    have p2 : w1.cell? ⟨w.heap.size + 1, 2, none⟩ = some (.slice none 0 0) := blk_cell x1 2
    have p3 : w1.cell? ⟨w.heap.size + 1, 3, none⟩ = some (.int .i64 0) := blk_cell x1 3
    have p4 : w1.cell? ⟨w.heap.size + 1, 4, none⟩ = some (.bool false) := blk_cell x1 4
    have q0 : w1.cell? ⟨w.heap.size + 1 + 1, 0, none⟩ = some (.slice none 0 0) := blk_cell x2 0
    have q1 : w1.cell? ⟨w.heap.size + 1 + 1, 1, none⟩ = some (.slice none 0 0) := blk_cell x2 1
    have f0 := blk_frozen x1 0
    have f1 := blk_frozen x1 1
    have f2 := blk_frozen x1 2
    have f3 := blk_frozen x1 3
    have f4 := blk_frozen x1 4
    have g0 := blk_frozen x2 0
    have g1 := blk_frozen x2 1
    have n1 : ¬ w.heap.size = w.heap.size + 1 := by omega
    have n2 : ¬ w.heap.size = w.heap.size + 1 + 1 := by omega
    clear hb1 x0 x1 x2
    go_wp2_with fail
    have h1 := puts_all HY1.out (rdCells room) rfl
    have t1 := puts_tch (w.heap.size + 1) (rdCells room) 0 w1
    have h2 := (t1.block _ (blk_lt HY2.out) (by show ¬ _ = _; omega)).trans HY2.out
    have hb1 := HB1.out.trans (t1.below HB1.out.size (fun i hi => by have : i = w.heap.size + 1 := hi; omega))
    have hW6 : puts (puts w1 (w.heap.size + 1) 0 (rdCells room)) (w.heap.size + 1 + 1) 0 [.slice none 0 0, .slice none 0 0] = ((((((w1.setCell ⟨w.heap.size + 1, 0, none⟩ (.slice none 0 0)).setCell ⟨w.heap.size + 1, 1, none⟩ (.int .i64 room)).setCell ⟨w.heap.size + 1, 2, none⟩ (.slice none 0 0)).setCell ⟨w.heap.size + 1, 3, none⟩ (.int .i64 0)).setCell ⟨w.heap.size + 1, 4, none⟩ (.bool false)).setCell ⟨w.heap.size + 1 + 1, 0, none⟩ (.slice none 0 0)).setCell ⟨w.heap.size + 1 + 1, 1, none⟩ (.slice none 0 0) := by
      simp only [puts, Nat.reduceAdd, Nat.zero_add]
    rw [← hW6]
    clear hW6 n1 n2 c0 c1 c2 c3 c4 f0 f1 f2 f3 f4 g0 g1 p0 p1 p2 p3 p4 q0 q1
    generalize puts w1 (w.heap.size + 1) 0 (rdCells room) = W5 at *
    have h3 := puts_all (zs := [.slice none 0 0, .slice none 0 0]) h2 [.slice none 0 0, .slice none 0 0] rfl
    have t2 := puts_tch (w.heap.size + 1 + 1) [.slice none 0 0, .slice none 0 0] 0 W5
    have h4 := (t2.block (w.heap.size + 1) (blk_lt h1) (by show ¬ _ = _; omega)).trans h1
    have hb2 := hb1.trans (t2.below hb1.size (fun i hi => by have : i = w.heap.size + 1 + 1 := hi; omega))
    clear t1 t2 h1 h2 hb1
    generalize puts W5 (w.heap.size + 1 + 1) 0 [.slice none 0 0, .slice none 0 0] = W6 at *
    have r1 := run_loadVar_row W6 (w.heap.size + 1) 34 34 _ _ _ h4 Tryz.underlying34 rfl (by kernel_rfl)
    have r2 := run_loadVar_row W6 (w.heap.size + 1 + 1) 37 37 _ _ _ h3 Tryz.underlying37 rfl (by kernel_rfl)
    refine bodyPost_ret (results_cct_ (p := 6) (q := 7) (u := 8) (ty := 34) (ty2 := 37) rfl _ _ (w.heap.size + 1) (w.heap.size + 1 + 1) _ _ rfl r1 rfl r2) rfl ?_
    exact ⟨hb2, .inl ⟨HE.out, rfl⟩⟩
end Go.Proofs.YtciikcmiiebfpaaGreatDoor
