/- EncF, LawTP as one text (a claim holds at most 60 files). -/
import Derived.Test.YtciikcmiiebfpaaGreatDoorEncE
import Derived.Test.YtciikcmiiebfpaaGreatDoorTopO
import Derived.Test.YtciikcmiiebfpaaGreatDoorPlogAp

/- EncF -/
section
/- The reference's Encode of the set of one batch; the law's one. -/
namespace Go.Proofs.YtciikcmiiebfpaaGreatDoor
open Go Go.RowKit Go.Maps Go.Proofs.YtciikcmiiebfpaaGreatDoorW.PrintWords Go.Proofs.YtciikcmiiebfpaaGreatDoor.PTopicsGets Go.Proofs.YtciikcmiiebfpaaGreatDoorW.PrintMore
set_option linter.unusedVariables false
set_option linter.unusedSimpArgs false

theorem CB_nil (w : World) (A : Option Addr) : CB w A 0 [] := Kd.C_of_reads (d := (0 : Int)) ⟨rfl, by decide, fun h => absurd h (by decide)⟩
set_option maxRecDepth 100000 in
set_option maxHeartbeats 2000000 in
theorem enc09_one (w : World) (rb sb : Nat) (hr : w.heap[rb]? = some (.cells recOne 118 (0, 0))) (hs : w.heap[sb]? = some (.cells (batCells rb).toArray 95 (0, 0))) :
    Calls Tryz.prog 36 #[.bool false, .slice (some ⟨sb, 0, none⟩) 1 1] w fun e w' => Below w.heap.size w w' ∧ ∃ A c, e = .returned (.tuple #[.slice A 68 c, .int .i64 0]) ∧ 68 ≤ c ∧ CB w' A 68 oneB := by
  have HR := Lib.hid hr
  have HS := Lib.hid hs
  have s0 : w.cell? ⟨sb, 0, none⟩ = some (.int .i64 0) := blk_cell hs 0
  have s1 : w.cell? ⟨sb, 1, none⟩ = some (.int .i32 0) := blk_cell hs 1
  have s2 : w.cell? ⟨sb, 2, none⟩ = some (.int .i64 (-1)) := blk_cell hs 2
  have s3 : w.cell? ⟨sb, 3, none⟩ = some (.int .i16 (-1)) := blk_cell hs 3
  have s4 : w.cell? ⟨sb, 4, none⟩ = some (.int .i32 (-1)) := blk_cell hs 4
  have s5 : w.cell? ⟨sb, 5, none⟩ = some (.slice (some ⟨rb, 0, none⟩) 1 1) := blk_cell hs 5
  clear hr hs
  go_enter Tryz.func36, Tryz.ntmps36
  go_wp2_with fail
  refine wp_loop_rounds 2 ?_
  rw [rounds_succ]
  go_wp2_with fail
  refine (check08_one w rb HR.out).mono ?_
  rintro r w1 ⟨hb, rfl⟩
  have HB1 := Lib.hid hb
  clear hb s0 s1 s2 s3 s4 s5
  go_wp2_with fail
  rw [rounds_succ]
  go_wp2_with fail
  refine (mixed_ref w1 _ _).mono ?_
  rintro r w2 ⟨hb, rfl⟩
  have HB2 := Lib.hid (HB1.out.trans (hb.mono HB1.out.size))
  have HB3 : Hid (Below w.heap.size w (w2.alloc (.cells #[] 5))) := HB2.out.alloc HB2.out.size _
  clear hb HB1
  have s0 : (w2.alloc (.cells #[] 5)).cell? ⟨sb, 0, none⟩ = some (.int .i64 0) := blk_cell (blk_below HS.out HB3.out) 0
  have s1 : (w2.alloc (.cells #[] 5)).cell? ⟨sb, 1, none⟩ = some (.int .i32 0) := blk_cell (blk_below HS.out HB3.out) 1
  have s2 : (w2.alloc (.cells #[] 5)).cell? ⟨sb, 2, none⟩ = some (.int .i64 (-1)) := blk_cell (blk_below HS.out HB3.out) 2
  have s3 : (w2.alloc (.cells #[] 5)).cell? ⟨sb, 3, none⟩ = some (.int .i16 (-1)) := blk_cell (blk_below HS.out HB3.out) 3
  have s4 : (w2.alloc (.cells #[] 5)).cell? ⟨sb, 4, none⟩ = some (.int .i32 (-1)) := blk_cell (blk_below HS.out HB3.out) 4
  have s5 : (w2.alloc (.cells #[] 5)).cell? ⟨sb, 5, none⟩ = some (.slice (some ⟨rb, 0, none⟩) 1 1) := blk_cell (blk_below HS.out HB3.out) 5
  go_wp2_with fail
  generalize w2.alloc (.cells #[] 5) = w3 at *
  refine wp_loop_rounds 2 ?_
  rw [rounds_succ]
  go_wp2_with fail
  refine (enc08_one w3 rb (blk_below HR.out HB3.out)).mono ?_
  rintro r w4 ⟨hb, A4, c4, rfl, hc4, hC4⟩
  have HB4 := Lib.hid (HB3.out.trans (hb.mono HB3.out.size))
  have HC4 := Lib.hid hC4
  clear hb hC4 s0 s1 s2 s3 s4 s5
  go_wp2_with fail
  refine (cat_c w4 _ _ _ _ _ _ [] oneB oneB 68 (CB_nil _ _) HC4.out (Nat.le_refl _) hc4 (by kernel_rfl) rfl).mono ?_
  rintro r w5 ⟨hb, A5, c5, rfl, hc5, hC5, _⟩
  have HB5 := Lib.hid (HB4.out.trans (hb.mono HB4.out.size))
  have HC5 := Lib.hid hC5
  clear hb hC5
  go_wp2_with fail
  rw [rounds_succ]
  go_wp2_with fail
  go_ret2
  exact ⟨HB5.out, _, _, rfl, hc5, HC5.out⟩
set_option maxRecDepth 100000 in
theorem one_ok (w : World) : Calls Tryz.prog 13 #[] w fun e w' => Below w.heap.size w w' ∧ ∃ A c, e = .returned (.slice A 68 c) ∧ 68 ≤ c ∧ CB w' A 68 oneB := by
  have HB : Hid (Below w.heap.size w ((w.alloc (.cells recOne 118)).alloc (.cells (batCells w.heap.size).toArray 95))) := ((Below.refl _ _).alloc (Nat.le_refl _) _).alloc (by rw [World.size_alloc]; omega) _
  have HE := Lib.hid (enc09_one ((w.alloc (.cells recOne 118)).alloc (.cells (batCells w.heap.size).toArray 95)) w.heap.size (w.heap.size + 1) (blk_alloc (blk_new _ _) _) (by have := blk_new (w.alloc (.cells recOne 118)) (.cells (batCells w.heap.size).toArray 95); rw [World.size_alloc] at this; exact this))
  go_enter Tryz.func13, Tryz.ntmps13
  go_wp2_with fail
  refine HE.out.mono ?_
  rintro r w2 ⟨hb, A, c, rfl, hc, hC⟩
  have HB2 := Lib.hid (HB.out.trans (hb.mono HB.out.size))
  have HC := Lib.hid hC
  clear hb hC
  go_wp2_with fail
  go_ret
  exact ⟨HB2.out, _, _, rfl, hc, HC.out⟩
end Go.Proofs.YtciikcmiiebfpaaGreatDoor
end

/- LawTP -/
section
/- TopicsGets: what is plain: the example's topic, its map, the steps on its disk. -/
namespace Go.Proofs.YtciikcmiiebfpaaGreatDoor
open Go Go.RowKit Go.Maps Go.WideMaps Go.Proofs.YtciikcmiiebfpaaGreatDoorW.PrintWords Go.Proofs.YtciikcmiiebfpaaGreatDoor.PTopicsGets Go.Proofs.YtciikcmiiebfpaaGreatDoorW.PrintMore
set_option linter.unusedVariables false

def nmIn : ByteArray := ⟨#[105, 110]⟩
def nmBad : ByteArray := ⟨#[105, 110, 32, 111, 117, 116]⟩
theorem topic_in : Lb.topicE nmIn = 0 := by
  have h : ¬ Lb.noName nmIn := by unfold Lb.noName; rw [Lib.toList_data]; decide
  unfold Lb.topicE
  rw [if_neg h]
  decide
theorem topic_bad : Lb.topicE nmBad ≠ 0 := by
  have h : ¬ Lb.noName nmBad := by unfold Lb.noName; rw [Lib.toList_data]; decide
  unfold Lb.topicE
  rw [if_neg h]
  decide
def confIn : List SC := [⟨nmIn, 2⟩]
theorem confIn_eq : confs confIn = [⟨nmIn, 2⟩] := rfl
theorem check_in : checkE (confs confIn) = 0 := by
  rw [confIn_eq]
  unfold checkE
  rw [if_neg (by decide), checkL, checkAt_ok (c := ⟨nmIn, 2⟩) topic_in (by decide)]
  rfl
theorem plAll_in : plAll (confs confIn) = [(nmIn, 0), (nmIn, 1)] := rfl
theorem pls_in {pls : List Pl} (h : pls.map (fun x => (x.1, x.2.1)) = plAll (confs confIn)) : ∃ l0 l1, pls = [(nmIn, 0, l0), (nmIn, 1, l1)] := by
  rw [plAll_in] at h
  match pls, h with
  | [(a, b, l0), (c, d, l1)], h =>
    simp only [List.map_cons, List.map_nil, List.cons.injEq, Prod.mk.injEq] at h
    obtain ⟨⟨rfl, rfl⟩, ⟨rfl, rfl⟩, _⟩ := h
    exact ⟨l0, l1, rfl⟩
theorem map_in (l0 l1 : Nat) : mapOf [(nmIn, 0, l0), (nmIn, 1, l1)] = [(pk nmIn 0, l0), (pk nmIn 1, l1)] := by kernel_rfl
theorem dir_ne : Lb.dirS nmIn 0 ≠ Lb.dirS nmIn 1 := fun h => by
  have h1 : nmIn.data.toList ++ 45 :: Lib.decDigits 0 = nmIn.data.toList ++ 45 :: Lib.decDigits 1 := by
    unfold Lb.dirS Lb.strOf at h
    have := congrArg (fun s : ByteArray => s.data.toList) h
    simpa using this
  have h2 := List.append_cancel_left h1
  injection h2 with _ h3
  have e0 := Lb.refNum_dec 100 0 (by decide)
  have e1 := Lb.refNum_dec 100 1 (by decide)
  rw [h3, e1] at e0
  cases e0
theorem three_in (nm : Nm) (hb : badN nm = false) : ∃ k1 k2 k3, ThreeOk (newD 1048576) nm oneB k1 k2 k3 := by
  refine ⟨⟨[(nm, ⟨[], [], []⟩)], 1048576, [], 1, false⟩, ⟨[(nm, ⟨[], oneB, [⟨false, 0, oneB⟩]⟩)], 1048576, [], 2, false⟩, ⟨[(nm, ⟨oneB, oneB, []⟩)], 1048576, [], 3, false⟩, ?_, ?_, ?_⟩
  · unfold stepD
    simp [newD, fateOf, z, createD, enterD, hb, look, put, ins, del]
    decide
  · unfold stepD
    simp [fateOf, z, appendD, look, upd, putF, used, oneB]
  · unfold stepD
    simp [fateOf, z, syncD, look, upd]
theorem conf_tch {w w' : World} {A : Option Addr} {n c : Nat} {l : List SC} {S : Nat → Prop} (h : k48.C w A n l) (ht : Tch S w w') (hS : ∀ k, (Value.slice A n c).ownBlock = some k → ¬ S k) : k48.C w' A n l := by
  refine ⟨h.1, h.2.1, fun hn => ?_⟩
  obtain ⟨a, e, hc⟩ := h.2.2 hn
  refine ⟨a, e, fun j p hj => ?_⟩
  obtain ⟨cs, h1, hK, h2⟩ := hc j p hj
  have hcs := k48_open hK
  refine ⟨cs, h1, by rw [hcs]; exact k48_mk w' p, fun i u hu => ?_⟩
  have h3 := h2 i u hu
  rw [← h3]
  exact ht.cell (World.block_lt_of_cell? w _ h3) (by rw [Ix.add_block]; exact hS a.block (by rw [e]; rfl))
end Go.Proofs.YtciikcmiiebfpaaGreatDoor
end
