/- plog.Open over a disk without files. -/
import Derived.RangeFuncNested
import Derived.RangeFuncBox
import Derived.RangeFuncLeaves
import Derived.RangeFuncFrom
import Derived.Stop.RegionWithIn
import Derived.Deep.RegionHeld3
import Derived.Deep.CutRange
import Derived.Shelf.Abstract
import Derived.WalkKit
import Derived.OwnWalkIn
import Derived.TacticsInMore
import Derived.LoopNIn
import Derived.LoopIn
import Derived.Test.YtciikcmiiebfpaaGreatDoorPlogO
namespace Go.Proofs.YtciikcmiiebfpaaGreatDoor
open Go Go.RowKit Go.Shelf Go.Maps Go.Proofs.YtciikcmiiebfpaaGreatDoorW.PrintWords Go.Proofs.YtciikcmiiebfpaaGreatDoor.PTopicsGets Go.Proofs.YtciikcmiiebfpaaGreatDoorW.PrintMore
set_option linter.unusedVariables false
set_option linter.unusedSimpArgs false

attribute [local go_sem] Oper.semAt_some

set_option maxRecDepth 100000 in
theorem bkE_in (F : Fence) (n : Nat) (h6 : F.fn 48) (hro : F.round = none) (a : Option Addr) (len cap : Nat) (w : World) :
    CallsIn F n Tryz.prog 48 #[.slice a len cap] w fun e w' => e = .returned (.func (.func 95) #[] #[.pointer (some ⟨w.heap.size, 0, none⟩)]) ∧ w' = w.alloc (.cells #[.slice a len cap] 123) := by
  refine callsIn_of_wp Tryz.func48 rfl h6 ?_ hro
  simp only [Tryz.ntmps48, List.size_toArray, List.length_cons, List.length_nil, Nat.reduceAdd, Nat.reduceSub, Array.replicate_succ, Array.replicate_zero, List.push_toArray, List.append_toArray, List.nil_append, List.cons_append]
  gi_wp2
  go_ret
  exact ⟨rfl, rfl⟩

set_option maxRecDepth 100000 in
theorem bkE_stops (F : Fence) (n : Nat) (h8 : F.fn 95) (hro : F.round = none) (hn : 1 ≤ n) (Bs : Nat) (w : World) (hBs : Bs < w.heap.size) (hc : w.cell? ⟨Bs, 0, none⟩ = some (.slice none 0 0)) (enc : Empty → Array Value) :
    SeqStopsK F n Tryz.prog 95 #[.pointer (some ⟨Bs, 0, none⟩)] enc (Below w.heap.size) (fun _ => True) (fun _ => False) 0 w := fun l J Jx W hW _ _ hY h0 => by
  have hBs' : W.cell? ⟨Bs, 0, none⟩ = some (.slice none 0 0) := (hW.cell (p := ⟨Bs, 0, none⟩) hBs).trans hc
  refine callsIn_of_wp Tryz.func95 rfl h8 ?_ hro
  simp only [Tryz.ntmps95, List.size_toArray, List.length_cons, List.length_nil, Nat.reduceAdd, Nat.reduceSub, Array.replicate_succ, Array.replicate_zero, List.push_toArray, List.append_toArray, List.nil_append, List.cons_append]
  gi_wp2
  gi_loopw [3] (fun i wr => i = .int .i64 (-1) ∧ wr = W) (fun i _ => (intOf i + 1).toNat)
  case atStart => exact ⟨rfl, rfl⟩
  case round =>
    obtain ⟨rfl, rfl⟩ := hrel
    gi_wp2
    go_end0
    exact ⟨⟨_, rfl⟩, .inl ⟨[], trivial, h0⟩⟩

/-- A log whose segments are the row v. -/
def LogB (w : World) (l d : Nat) (dir : ByteArray) (sz : Int) (v : Value) (t : Nat) (dead : Bool) : Prop :=
  w.heap[l]? = some (.cells #[.pointer (some ⟨d, 0, none⟩), .string dir, .int .i64 sz, v, .pointer (some ⟨t, 0, none⟩), .bool dead] 85 (0, 0))

/-- Only the normal exit. -/
def onlyNormal (Q : Exit → Act → World → Prop) : Exit → Act → World → Prop := fun x a w => match x with | .normal => Q .normal a w | _ => False
theorem onlyNormal_mk {Q : Exit → Act → World → Prop} {a : Act} {w : World} (h : Q .normal a w) : onlyNormal Q .normal a w := h
theorem wp_normal {P : Program} {c : Code} {Q : Exit → Act → World → Prop} {a : Act} {w : World} (h : c.wp P (onlyNormal Q) a w) : c.wp P Q a w :=
  Code.wp_mono (fun e a w h => by cases e <;> first | exact h | exact h.elim) h
/-- The boxes of Open's frame. -/
structure OpSt (w W : World) (d : Nat) (dir : ByteArray) : Prop where
  b0 : W.heap[w.heap.size]? = some (.cells #[.pointer (some ⟨d, 0, none⟩)] 24 (0, 0))
  b1 : W.heap[w.heap.size + 1]? = some (.cells #[.string dir] 9 (0, 0))
  b2 : W.heap[w.heap.size + 1 + 1]? = some (.cells #[.pointer none] 41 (0, 0))
  b3 : W.heap[w.heap.size + 1 + 1 + 1]? = some (.cells #[.int .i64 0] 27 (0, 0))
  bl : Below w.heap.size w W
theorem OpSt.new (w : World) (d : Nat) (dir : ByteArray) : OpSt w ((((w.alloc (.cells #[.pointer (some ⟨d, 0, none⟩)] 24)).alloc (.cells #[.string dir] 9)).alloc (.cells #[.pointer none] 41)).alloc (.cells #[.int .i64 0] 27)) d dir := by
  refine ⟨?_, ?_, ?_, ?_, ?_⟩
  · rw [Below.heap_alloc _ _ _ (by simp only [World.size_alloc]; omega), Below.heap_alloc _ _ _ (by simp only [World.size_alloc]; omega), Below.heap_alloc _ _ _ (by simp only [World.size_alloc]; omega)]
    exact heap_alloc_new _ _
  · rw [Below.heap_alloc _ _ _ (by simp only [World.size_alloc]; omega), Below.heap_alloc _ _ _ (by simp only [World.size_alloc]; omega), ← World.size_alloc w (.cells #[.pointer (some ⟨d, 0, none⟩)] 24)]
    exact heap_alloc_new _ _
  · have := heap_alloc_new ((w.alloc (.cells #[.pointer (some ⟨d, 0, none⟩)] 24)).alloc (.cells #[.string dir] 9)) (.cells #[.pointer none] 41)
    rw [Below.heap_alloc _ _ _ (by simp only [World.size_alloc]; omega)]
    simpa only [World.size_alloc] using this
  · have := heap_alloc_new (((w.alloc (.cells #[.pointer (some ⟨d, 0, none⟩)] 24)).alloc (.cells #[.string dir] 9)).alloc (.cells #[.pointer none] 41)) (.cells #[.int .i64 0] 27)
    simpa only [World.size_alloc] using this
  · exact ((((Below.refl _ _).alloc (Nat.le_refl _) _).alloc (by simp only [World.size_alloc]; omega) _).alloc (by simp only [World.size_alloc]; omega) _).alloc (by simp only [World.size_alloc]; omega) _
theorem OpSt.sz {w W : World} {d : Nat} {dir : ByteArray} (h : OpSt w W d dir) : w.heap.size + 4 ≤ W.heap.size := by
  have := (Array.getElem?_eq_some_iff.1 h.b3).1
  omega
theorem OpSt.below {w W W' : World} {d : Nat} {dir : ByteArray} (h : OpSt w W d dir) (hb : Below W.heap.size W W') : OpSt w W' d dir := by
  have hs := h.sz
  exact ⟨(hb.block _ (by omega)).trans h.b0, (hb.block _ (by omega)).trans h.b1, (hb.block _ (by omega)).trans h.b2, (hb.block _ (by omega)).trans h.b3, h.bl.trans (hb.mono h.bl.size)⟩
theorem OpSt.drew {w W : World} {d : Nat} {dir : ByteArray} (h : OpSt w W d dir) : OpSt w W.drew d dir := ⟨h.b0, h.b1, h.b2, h.b3, h.bl.drew⟩
theorem OpSt.alloc {w W : World} {d : Nat} {dir : ByteArray} (h : OpSt w W d dir) (o : Obj) : OpSt w (W.alloc o) d dir := h.below ((Below.refl _ _).alloc (Nat.le_refl _) _)

theorem op_end {w W : World} {d l t D : Nat} {dir : ByteArray} (h : OpSt w W d dir) (hl : LogB W l d dir 100 (.slice none 0 0) t false) (hw : w.heap.size + 4 ≤ l) (hD : l < D) (hK : W.heap[D]? = some (.deferred (some []))) :
    ∃ W2, W2 = (W.setCell ⟨w.heap.size + 1 + 1, 0, none⟩ (.pointer (some ⟨l, 0, none⟩))).setCell ⟨w.heap.size + 1 + 1 + 1, 0, none⟩ (.int .i64 0) ∧ W2.heap[D]? = some (.deferred (some [])) ∧
      (W2.putObj D (.deferred none)).cell? ⟨w.heap.size + 1 + 1, 0, none⟩ = some (.pointer (some ⟨l, 0, none⟩)) ∧ (W2.putObj D (.deferred none)).cell? ⟨w.heap.size + 1 + 1 + 1, 0, none⟩ = some (.int .i64 0) ∧
      LogB (W2.putObj D (.deferred none)) l d dir 100 (.slice none 0 0) t false ∧ Below w.heap.size w (W2.putObj D (.deferred none)) := by
  obtain ⟨W2, hW2⟩ : ∃ W2, W2 = (W.setCell ⟨w.heap.size + 1 + 1, 0, none⟩ (.pointer (some ⟨l, 0, none⟩))).setCell ⟨w.heap.size + 1 + 1 + 1, 0, none⟩ (.int .i64 0) := ⟨_, rfl⟩
  have hbl := h.bl
  have e2 : W2.heap[w.heap.size + 1 + 1]? = some (.cells #[.pointer (some ⟨l, 0, none⟩)] 41 (0, 0)) := by
    rw [hW2]
    exact blk_far (blk_put h.b2 0 _ rfl) (by dsimp only; omega) _
  have e3 : W2.heap[w.heap.size + 1 + 1 + 1]? = some (.cells #[.int .i64 0] 27 (0, 0)) := by
    rw [hW2]
    exact blk_put (blk_far h.b3 (by dsimp only; omega) _) 0 _ rfl
  have el : W2.heap[l]? = some (.cells #[.pointer (some ⟨d, 0, none⟩), .string dir, .int .i64 100, .slice none 0 0, .pointer (some ⟨t, 0, none⟩), .bool false] 85 (0, 0)) := by
    rw [hW2]
    exact blk_far (blk_far hl (by dsimp only; omega) _) (by dsimp only; omega) _
  have eD : W2.heap[D]? = some (.deferred (some [])) := by
    rw [hW2, Below.heap_setCell _ _ _ _ (by dsimp only; omega), Below.heap_setCell _ _ _ _ (by dsimp only; omega)]
    exact hK
  have eB : Below w.heap.size w W2 := by
    rw [hW2]
    exact (hbl.setCell (p := ⟨w.heap.size + 1 + 1, 0, none⟩) (by dsimp only; omega) _).setCell (p := ⟨w.heap.size + 1 + 1 + 1, 0, none⟩) (by dsimp only; omega) _
  have hpo : ∀ k, k ≠ D → (W2.putObj D (.deferred none)).heap[k]? = W2.heap[k]? := fun k hk => World.putObj_heap_other (fun e => hk e)
  refine ⟨W2, hW2, eD, ?_, ?_, ?_, ?_⟩
  · exact blk_cell ((hpo _ (by omega)).trans e2) 0
  · exact blk_cell ((hpo _ (by omega)).trans e3) 0
  · exact (hpo _ (by omega)).trans el
  · exact eB.trans (belowK_b (w := w) (Nat.le_refl _) W2 D _ _ (by omega) eD rfl rfl)

set_option maxRecDepth 100000 in
set_option maxHeartbeats 4000000 in
theorem open_none (dir : ByteArray) (hd : dir.size ≤ 1000) (hbad : badN (nameS dir 0).data.toList = false) (w : World) (hl : Lb.LibOk w) (d N : Nat) (S : Nat → Prop) (k : Dk) (h : Disk w d S k N) (hk : k.files = []) (ho : k.off = false) (hS : ∀ b, S b → b < w.heap.size) :
    Calls Tryz.prog 20 #[.pointer (some ⟨d, 0, none⟩), .string dir, .int .i64 100] w fun r w' => ∃ l t, r = .returned (.tuple #[.pointer (some ⟨l, 0, none⟩), .int .i64 0]) ∧ w.heap.size ≤ l ∧ LogB w' l d dir 100 (.slice none 0 0) t false ∧ Below w.heap.size w w' := by
  refine (callsIn_wide (n := 6)).1 ?_
  have HP : Hid (∀ W, Below w.heap.size w W → Calls Tryz.prog 44 #[.string dir] W fun r w' => r = .returned (.int .i64 0) ∧ Below W.heap.size W w') := fun W hb => probe_any dir hd hbad W (hl.below hb)
  have HBS : Hid (∀ W, Below w.heap.size w W → Calls Tryz.prog 45 #[.pointer (some ⟨d, 0, none⟩), .string dir] W fun r w' => r = .returned (.tuple #[.slice none 0 0, .int .i64 0]) ∧ Below W.heap.size W w') := fun W hb => bases_none dir W d N S k (h.below hb) hk ho
  clear hd hbad hl h hk ho hS
  have g1 : Fence.wide.fn 44 := trivial
  have g2 : Fence.wide.fn 45 := trivial
  have g3 : Fence.wide.fn 48 := trivial
  refine callsIn_of_wp_marks Tryz.func20 rfl trivial ?_ rfl
  simp only [Tryz.ntmps20, List.size_toArray, List.length_cons, List.length_nil, Nat.reduceAdd, Nat.reduceSub, Array.replicate_succ, Array.replicate_zero, List.push_toArray, List.append_toArray, List.nil_append, List.cons_append]
  have HST0 := Lib.hid (OpSt.new w d dir)
  gi_wp2_with (first | (gi_at_call 44; refine (callsIn_wide.2 (HP.out _ HST0.out.bl)).mono ?_; rintro r w1 ⟨rfl, hb1⟩; have HST1 := Lib.hid (HST0.out.below hb1); clear hb1; have c0 := blk_cell HST1.out.b0 0; have c1 := blk_cell HST1.out.b1 0) | (gi_at_call 45; refine (callsIn_wide.2 (HBS.out _ HST1.out.bl)).mono ?_; rintro r w2 ⟨rfl, hb2⟩; have HST2 := Lib.hid (HST1.out.below hb2); clear hb2 c0 c1; have c0 := (blk_cell HST2.out.b0 0).trans rfl; have c1 := (blk_cell HST2.out.b1 0).trans rfl))
  refine wpIn_wide.2 ?_
  refine wp_normal ?_
  have hd : Below w2.heap.size w2 w2.drew := Below.drew (Below.refl _ _)
  go_region_held3 (fun w' => w'.cell? ⟨w.heap.size, 0, none⟩ = some (.pointer (some ⟨d, 0, none⟩)) ∧ w'.cell? ⟨w.heap.size + 1, 0, none⟩ = some (.string dir) ∧ Below w2.heap.size w2 w') (first | (refine ⟨?_, ?_, ?_⟩ <;> first | (exact Below.alloc (by assumption) (Below.size (by assumption)) _) | (go_keep; done)) | go_keep)
      (first | (go_at_call 46; refine (idemNew_any _).mono ?_; rintro r w3 ⟨hb3, rfl⟩; have hb3' := (‹_ ∧ _ ∧ Below w2.heap.size w2 _›).2.2.trans (hb3.mono (‹_ ∧ _ ∧ Below w2.heap.size w2 _›).2.2.size); have hs3 := HST2.out.below hb3'; have d0 := (blk_cell hs3.b0 0).trans rfl; have d1 := (blk_cell hs3.b1 0).trans rfl))
  all_goals
    have HST3 := Lib.hid (HST2.out.below ((‹Below w2.heap.size w2 w3›).alloc (‹Below w2.heap.size w2 w3›).size (.cells #[.pointer (some ⟨d, 0, none⟩), .string dir, .int .i64 (min (max 100 1) 1048576), .slice none 0 0, .pointer (some ⟨w2.heap.size + 1, 0, none⟩), .bool false] 85)))
    have HLG := Lib.hid (heap_alloc_new w3 (.cells #[.pointer (some ⟨d, 0, none⟩), .string dir, .int .i64 (min (max 100 1) 1048576), .slice none 0 0, .pointer (some ⟨w2.heap.size + 1, 0, none⟩), .bool false] 85))
    have hwz : w2.heap.size ≤ w3.heap.size := Below.size ‹Below w2.heap.size w2 w3›
    clear c0 c1 d0 d1 hs3 hb3 hb3' hd
    generalize hX : w3.alloc (.cells #[.pointer (some ⟨d, 0, none⟩), .string dir, .int .i64 (min (max 100 1) 1048576), .slice none 0 0, .pointer (some ⟨w2.heap.size + 1, 0, none⟩), .bool false] 85) = w4 at *
    obtain ⟨l, hl⟩ : ∃ l, l = w3.heap.size := ⟨_, rfl⟩
    have hl4 : l < w4.heap.size := by rw [hl]; exact (Array.getElem?_eq_some_iff.1 HLG.out).1
    rw [← hl] at HLG ⊢
    have e3 : min (max (100 : Int) 1) 1048576 = 100 := by decide
    rw [e3] at HLG ⊢
    have e4 : max (100 : Int) 1 = 100 := by decide
    rw [e4]
    clear e3 e4
    have c3 : w4.cell? ⟨l, 3, none⟩ = some (.slice none 0 0) := blk_cell HLG.out 3
    have c0 : w4.cell? ⟨w.heap.size, 0, none⟩ = some (.pointer (some ⟨d, 0, none⟩)) := blk_cell HST3.out.b0 0
    have c1 : w4.cell? ⟨w.heap.size + 1, 0, none⟩ = some (.string dir) := blk_cell HST3.out.b1 0
    refine onlyNormal_mk ?_
    have HL4 := Lib.hid hl4
    have HLE := Lib.hid hl
    have HX := Lib.hid hX
    clear hl hX
    have HWZ := Lib.hid hwz
    clear hl4 hwz
    gi_wp2_with fail
    refine wpIn_loop_rounds 1 ?_
    rw [roundsIn_succ]
    gi_wp2_with fail
    refine (bkE_in Fence.wide _ trivial rfl _ _ _ _).mono ?_
    rintro r w5 ⟨rfl, rfl⟩
    gi_wp2_with fail
    have HW0 := Lib.hid (HST3.out.alloc (.cells #[.slice none 0 0] 123))
    have HL0 := Lib.hid (((Below.refl w4.heap.size w4).alloc (Nat.le_refl _) (.cells #[.slice none 0 0] 123)).block l HL4.out |>.trans HLG.out)
    have hB : (w4.alloc (.cells #[.slice none 0 0] 123)).cell? ⟨w4.heap.size, 0, none⟩ = some (.slice none 0 0) := blk_cell (heap_alloc_new _ _) 0
    have hBz : w4.heap.size < (w4.alloc (.cells #[.slice none 0 0] 123)).heap.size := by rw [World.size_alloc]; omega
    have HWL : Hid (w.heap.size + 4 ≤ l) := by show _ ≤ _; have h1 := HLE.out; have h2 := HST2.out.sz; have h3 := HWZ.out; omega
    have HLW : Hid (l < (w4.alloc (.cells #[.slice none 0 0] 123)).heap.size) := Nat.lt_trans HL4.out hBz
    clear c0 c1 c3 HL4 HLE HX HLG HST3 HWZ
    obtain ⟨Bs, hBs⟩ : ∃ Bs, Bs = w4.heap.size := ⟨_, rfl⟩
    rw [← hBs] at hB hBz ⊢
    clear hBs
    generalize w4.alloc (.cells #[.slice none 0 0] 123) = W0 at *
    refine wpIn_rangeFunc_ownF rfl (by decide) (gf := 95) (lb := #[.pointer (some ⟨Bs, 0, none⟩)]) rfl trivial (enters_of Tryz.func95 (by kernel_rfl) rfl)
      (bkE_stops Fence.wide _ trivial rfl (by decide) Bs W0 hBz hB (fun x => nomatch x)) belowK_t (belowK_b (Nat.le_refl _)) (Below.refl _ _) (fun x => nomatch x)
      (fun _ W => Below W0.heap.size W0 W) (fun _ _ _ => False) (ownFrom_below (Nat.le_refl _) (Nat.le_refl _)) (fun _ _ _ _ _ h => h.elim) (Below.refl _ _) (fun x => nomatch x)
      (fun _ x => nomatch x) (fun _ _ x => nomatch x) ?done (fun _ _ _ _ _ h => h.elim)
    case done =>
      rintro D ys W hD _ hBW hK
      have hst := HW0.out.below hBW
      have c2 : W.cell? ⟨w.heap.size + 1 + 1, 0, none⟩ = some (.pointer none) := blk_cell hst.b2 0
      have c3 : W.cell? ⟨w.heap.size + 1 + 1 + 1, 0, none⟩ = some (.int .i64 0) := blk_cell hst.b3 0
      have f2 : W.frozen? ⟨w.heap.size + 1 + 1, 0, none⟩ = false := blk_frozen hst.b2 0
      have f3 : W.frozen? ⟨w.heap.size + 1 + 1 + 1, 0, none⟩ = false := blk_frozen hst.b3 0
      have HS := Lib.hid hst
      have HK := Lib.hid hK
      have HD := Lib.hid hD
      have HBW := Lib.hid hBW
      clear hst hK hD hBW
      gi_wp2_with fail
      obtain ⟨W2, e2, e3, e4, e5, e6, e7⟩ := op_end HS.out ((HBW.out.block l HLW.out).trans HL0.out) HWL.out (Nat.lt_of_lt_of_le HLW.out HD.out) HK.out
      rw [← e2]
      clear e2
      have hwl : w.heap.size ≤ l := by have := HWL.out; omega
      refine ⟨by simp, .inl ⟨_, _, rfl, run_takeDeferred e3, ?_⟩⟩
      refine ⟨.tuple #[.pointer (some ⟨l, 0, none⟩), .int .i64 0], ?_, ⟨l, _, rfl, hwl, e6, e7⟩⟩
      simp [results, Tryz.f20, go_sem, e4, e5]
end Go.Proofs.YtciikcmiiebfpaaGreatDoor
