/- OneP, PlogA as one text (a claim holds at most 60 files). -/
import Derived.Test.YtciikcmiiebfpaaGreatDoorSegS
import Derived.Deep.RegionHeld3
import Derived.Deep.CutRange
import Derived.Test.YtciikcmiiebfpaaGreatDoorPlogOp
import Derived.Test.YtciikcmiiebfpaaGreatDoorIxAdd3

/- OneP -/
section
/- The set of one batch of one record at time 7, as bytes. -/
namespace Go.Proofs.YtciikcmiiebfpaaGreatDoor
open Go Go.RowKit Go.Proofs.YtciikcmiiebfpaaGreatDoorW.PrintWords Go.Proofs.YtciikcmiiebfpaaGreatDoor.PTopicsGets Go.Proofs.YtciikcmiiebfpaaGreatDoorW.PrintMore
set_option linter.unusedVariables false
set_option maxRecDepth 100000

def oneB : Bs := [0, 0, 0, 0, 0, 0, 0, 0, 0, 0, 0, 56, 0, 0, 0, 0, 2, 63, 50, 193, 145, 0, 0, 0, 0, 0, 0, 0, 0, 0, 0, 0, 0, 0, 7, 0, 0, 0, 0, 0, 0, 0, 7, 255, 255, 255, 255, 255, 255, 255, 255, 255, 255, 255, 255, 255, 255, 0, 0, 0, 1, 12, 0, 0, 0, 0, 0, 0]
theorem oneB_byt : Byt oneB := by
  have h : ∀ b ∈ oneB, 0 ≤ b ∧ b ≤ 255 := by decide
  exact h
theorem oneB_sum : IntKind.u32.wrap 1060290961 = cupd 0 (oneB.drop 21) := by kernel_rfl
theorem oneB_ok : BatOk oneB 0 0 1060290961 7 7 (-1) (-1) (-1) [7] where
  head := {
    byt := oneB_byt
    len := by decide
    ms := by decide
    e0 := by decide
    e12 := by decide
    e16 := by decide
    e17 := by decide
    sum := oneB_sum
    e21 := by decide
    e23 := by decide
    e27 := by decide
    e35 := by decide
    e43 := by decide
    e51 := by decide
    e53 := by decide
    e57 := by decide
    base := by decide
    prod := by decide
    cnt := by decide }
  block := by decide
  rows := by
    have hp : PlainRow ((((oneB.drop 61)).drop 1).take 6) 0 0 0 0 2 3 4 5 := ⟨(oneB_byt.drop _ |>.drop _).take _, by decide, by decide, by decide, by decide, by decide, by decide, by decide, by decide, by decide, by decide⟩
    exact RowsOk.cons (body := oneB.drop 61) (first := 7) (i := 0) (at_ := 0) (k := 6) (q := 1) (dt := 0) (by decide) (by decide) (by decide) hp (by decide) (by decide) (RowsOk.nil 1)
  last := by decide
  first := by decide
theorem oneB_reb : rebBytes oneB 0 0 = oneB := by decide
end Go.Proofs.YtciikcmiiebfpaaGreatDoor
end

/- PlogA -/
section
/- plog: End, active on a fresh log. -/
namespace Go.Proofs.YtciikcmiiebfpaaGreatDoor
open Go Go.RowKit Go.Maps Go.Proofs.YtciikcmiiebfpaaGreatDoorW.PrintWords Go.Proofs.YtciikcmiiebfpaaGreatDoor.PTopicsGets Go.Proofs.YtciikcmiiebfpaaGreatDoorW.PrintMore
set_option linter.unusedVariables false
set_option linter.unusedSimpArgs false

theorem LogB.below {w w' : World} {l d : Nat} {dir : ByteArray} {sz : Int} {v : Value} {t : Nat} {dead : Bool} (h : LogB w l d dir sz v t dead) (hb : Below w.heap.size w w') : LogB w' l d dir sz v t dead := blk_below h hb
set_option maxRecDepth 100000 in
theorem end_none {w : World} {l d t : Nat} {dir : ByteArray} {sz : Int} {dead : Bool} (h : LogB w l d dir sz (.slice none 0 0) t dead) :
    Calls Tryz.prog 27 #[.pointer (some ⟨l, 0, none⟩)] w fun r w' => r = .returned (.int .i64 0) ∧ w' = w := by
  have c3 : w.cell? ⟨l, 3, none⟩ = some (.slice none 0 0) := blk_cell h 3
  clear h
  go_enter Tryz.func27, Tryz.ntmps27
  go_wp2_with fail
  go_ret
  exact ⟨rfl, rfl⟩

theorem boxN_alloc {w w1 : World} {o : Obj} (hb : Below (w.alloc o).heap.size (w.alloc o) w1) : w1.heap[w.heap.size]? = some o := (hb.block _ (by rw [World.size_alloc]; omega)).trans (heap_alloc_new w o)
theorem boxN_drew {w w1 : World} {o : Obj} (hb : Below (w.alloc o).drew.heap.size (w.alloc o).drew w1) : w1.heap[w.heap.size]? = some o := (hb.block _ (by show _ < (w.alloc o).heap.size; rw [World.size_alloc]; omega)).trans (heap_alloc_new w o)
theorem two_0 {w : World} {g : Nat} {t : TypeId} {a b : Value} (h : w.heap[g]? = some (.cells #[a, b] t (0, 0))) : w.cell? ⟨g, 0, none⟩ = some a := blk_cell h 0
theorem two_1 {w : World} {g : Nat} {t : TypeId} {a b : Value} (h : w.heap[g]? = some (.cells #[a, b] t (0, 0))) : w.cell? ⟨g, 1, none⟩ = some b := blk_cell h 1
/-- An index with no entry. -/
def Ix0 (w : World) (g : Nat) : Prop := w.heap[g]? = some (.cells #[.int .i64 0, .slice none 0 0, .func (.func 127) #[] #[], .slice none 0 0, .func (.func 128) #[] #[]] 182 (0, 0))
theorem Ix0.of {w : World} {g : Nat} (h : Ix.IX w g 0 [] (.slice none 0 0) (.slice none 0 0)) : Ix0 w g := h.blk
theorem Ix0.ix {w : World} {g : Nat} (h : Ix0 w g) : Ix.IX w g 0 [] (.slice none 0 0) (.slice none 0 0) := ⟨Ix.Valid.nil (by decide) (by decide), h, Ix.Owns.nil _ _ _ _, Ix.Owns.nil _ _ _ _⟩
/-- A new segment's box. -/
def SegAt (w0 wx : World) (nm : ByteArray) (v : Value) : Prop :=
  ∃ g b, v = .pointer (some ⟨b, 0, none⟩) ∧ wx.heap[b]? = some (.cells #[.pointer (some ⟨g, 0, none⟩), .string nm] 100 (0, 0)) ∧ Ix0 wx g ∧ w0.heap.size ≤ g ∧ w0.heap.size ≤ b ∧ Below w0.heap.size w0 wx
theorem segAt_new {W wM : World} {g : Nat} {nm : ByteArray} (hI : Ix0 wM g) (hg : W.heap.size ≤ g) (hM : Below W.heap.size W wM) : SegAt W (wM.alloc (.cells #[.pointer (some ⟨g, 0, none⟩), .string nm] 100)) nm (.pointer (some ⟨wM.heap.size, 0, none⟩)) :=
  ⟨g, wM.heap.size, rfl, blk_new _ _, blk_alloc hI _, hg, hM.size, hM.alloc hM.size _⟩
theorem segAt_put {W wM : World} {g b : Nat} {nm : ByteArray} {x y : Value} (hI : Ix0 wM g) (hg : W.heap.size ≤ g) (hM : Below W.heap.size W wM) (hb : wM.heap[b]? = some (.cells #[x, y] 100 (0, 0))) (hbW : W.heap.size ≤ b) :
    SegAt W ((wM.setCell ⟨b, 0, none⟩ (.pointer (some ⟨g, 0, none⟩))).setCell ⟨b, 1, none⟩ (.string nm)) nm (.pointer (some ⟨b, 0, none⟩)) := by
  have hne : g ≠ b := blk_ne hI hb (by decide)
  exact ⟨g, b, rfl, blk_put (blk_put hb 0 _ rfl) 1 _ rfl, blk_far (blk_far hI (by exact hne) _) (by exact hne) _, hg, hbW, Below.setCell (Below.setCell hM (by exact hbW) _) (by exact hbW) _⟩

theorem info_seg : (Tryz.prog.info? 100).map (fun i => (i.zero, i.size, i.bytes)) = some (some (.agg #[.pointer none, .string ⟨#[]⟩]), 2, 24) := by kernel_rfl
theorem seg_put {w3 w8 : World} {l d t c8 : Nat} {A8 : Option Addr} {dir : ByteArray} {sz : Int} {dead : Bool} {xs : List Value} {o : Obj} (h3 : LogB w3 l d dir sz (.slice none 0 0) t dead)
    (ho : Ix.Owns w8 w3.heap.size 100 2 (.slice A8 (0 + 1) c8) (0 + 1) ([] ++ xs)) (ht : Tch (fun k => (Value.slice none 0 0).ownBlock = some k) (w3.alloc o).drew w8) (x7 : LogB w8 l d dir sz (.slice none 0 0) t dead) :
    ∃ A c, LogB (w8.setCell ⟨l, 3, none⟩ (.slice A8 1 c8)) l d dir sz (.slice A 1 c) t dead ∧ Ix.Owns (w8.setCell ⟨l, 3, none⟩ (.slice A8 1 c8)) w3.heap.size 100 2 (.slice A 1 c) 1 xs ∧ Tch (fun k => k = l) w3 (w8.setCell ⟨l, 3, none⟩ (.slice A8 1 c8)) := by
  have hll := blk_lt h3
  have h0 : Tch (fun k => k = l) w3 (w3.alloc o).drew := (Tch.of_below ((Below.refl w3.heap.size w3).alloc (Nat.le_refl _) o)).drew
  have h1 : Tch (fun k => k = l) (w3.alloc o).drew w8 := ht.mono (fun k e => by cases e)
  have h2 : Tch (fun k => k = l) w8 (w8.setCell ⟨l, 3, none⟩ (.slice A8 1 c8)) := Tch.set _ _ _ rfl
  exact ⟨A8, c8, blk_put x7 3 _ rfl, Owns_tch ho h2 (fun k hk e => Owns_ne ho x7 (by decide) k hk e), (h0.trans h1).trans h2⟩
theorem tch_drew {S : Nat → Prop} {w w' : World} (h : Tch S w.drew w') : Tch S w w' := ⟨h.os, h.tape, h.output, h.size, h.block⟩
def CrP (S : Nat → Prop) (d N : Nat) (wc : World) (k : Dk) (wx : World) : Prop := ∃ S', Disk wx d S' k (N + 1) ∧ Tch S wc wx ∧ ∀ b, S' b → S b ∨ wc.heap.size ≤ b
def ActPost (S : Nat → Prop) (w : World) (l d t N : Nat) (dir : ByteArray) (sz : Int) (dead : Bool) (k : Dk) (r : Ending) (w' : World) : Prop :=
  ∃ g A c S', r = .returned (.tuple #[.agg #[.pointer (some ⟨g, 0, none⟩), .string (nameS dir 0)], .int .i64 0]) ∧ LogB w' l d dir sz (.slice A 1 c) t dead ∧ Ix.Owns w' w.heap.size 100 2 (.slice A 1 c) 1 [.pointer (some ⟨g, 0, none⟩), .string (nameS dir 0)] ∧
    Ix0 w' g ∧ w.heap.size ≤ g ∧ ¬ S' g ∧ ¬ S' l ∧ (∀ q, (Value.slice A 1 c).ownBlock = some q → ¬ S' q) ∧ Disk w' d S' (stepD (createD (nameS dir 0).data.toList) (fun k _ => k) k).1 (N + 1) ∧ Tch (fun b => S b ∨ b = l) w w' ∧ ∀ b, S' b → S b ∨ w.heap.size ≤ b
theorem Owns_down {w : World} {B B' : Nat} {e : TypeId} {sz n : Nat} {v : Value} {xs : List Value} (h : Ix.Owns w B e sz v n xs) (hB : B' ≤ B) : Ix.Owns w B' e sz v n xs :=
  ⟨h.1, h.2.elim .inl (fun ⟨g, cap, cur, a1, a2, a3⟩ => .inr ⟨g, cap, cur, a1, Nat.le_trans hB a2, a3⟩)⟩
theorem Owns_ge {w : World} {B : Nat} {e : TypeId} {sz n : Nat} {v : Value} {xs : List Value} (h : Ix.Owns w B e sz v n xs) : ∀ k, v.ownBlock = some k → B ≤ k := by
  intro k hk
  rcases h.2 with ⟨rfl, _⟩ | ⟨g, cap, cur, rfl, hg, _⟩
  · cases hk
  · cases hk
    exact hg
set_option maxRecDepth 100000 in
set_option maxHeartbeats 4000000 in
theorem active_ok {w : World} {l d t N n : Nat} {S : Nat → Prop} {k : Dk} {dir : ByteArray} {sz : Int} {dead : Bool} (h : LogB w l d dir sz (.slice none 0 0) t dead) (hd : dir.size ≤ 1000) (hl : Lb.LibOk w) (hD : Disk w d S k N) (hN : N < 1000000000000) (hSl : ¬ S l) (hSlt : ∀ b, S b → b < w.heap.size) (hcode : (stepD (createD (nameS dir 0).data.toList) (fun k _ => k) k).2 = 0) :
    Calls Tryz.prog 30 #[.pointer (some ⟨l, 0, none⟩), .int .i64 n] w (ActPost S w l d t N dir sz dead k) := by
  have hll := blk_lt h
  have HN : Hid (∀ W, Below w.heap.size w W → Calls Tryz.prog 50 #[.string dir, .int .i64 0] W fun r w' => r = .returned (.string (nameS dir 0)) ∧ Below W.heap.size W w') := fun W hb => name_any dir hd 0 (by decide) W (hl.below hb)
  have HE : Hid (∀ W, Below w.heap.size w W → Calls Tryz.prog 27 #[.pointer (some ⟨l, 0, none⟩)] W fun r w' => r = .returned (.int .i64 0) ∧ w' = W) := fun W hb => end_none (h.below hb)
  have HCR : Hid (∀ W, Below w.heap.size w W → Calls Tryz.prog 72 #[.pointer (some ⟨d, 0, none⟩), .string (nameS dir 0)] W.drew (SPost S d (N + 1) W.drew (stepD (createD (nameS dir 0).data.toList) (fun k _ => k) k))) := fun W hb => create_any W.drew d N S k (nameS dir 0) (hD.below (hb.drew)) hN (by rw [nameS_size dir 0 (by decide)]; show _ ≤ maxLen; unfold maxLen; omega)
  have c0 : w.cell? ⟨l, 0, none⟩ = some (.pointer (some ⟨d, 0, none⟩)) := blk_cell h 0
  have c1 : w.cell? ⟨l, 1, none⟩ = some (.string dir) := blk_cell h 1
  have c3 : w.cell? ⟨l, 3, none⟩ = some (.slice none 0 0) := blk_cell h 3
  have HCode := Lib.hid hcode
  have HSL := Lib.hid hSl
  have HLG := Lib.hid h
  have HLL := Lib.hid hll
  clear h hl
  go_enter Tryz.func30, Tryz.ntmps30
  go_upto_region 6 with fail
  have HZ0 : Hid ((w.alloc (.cells #[.pointer none, .string ⟨#[]⟩] 100)).heap[w.heap.size]? = some (.cells #[.pointer none, .string ⟨#[]⟩] 100 (0, 0))) := blk_new _ _
  have HB0 : Hid (Below w.heap.size w (w.alloc (.cells #[.pointer none, .string ⟨#[]⟩] 100))) := (Below.refl _ _).alloc (Nat.le_refl _) _
  have d1 : (w.alloc (.cells #[.pointer none, .string ⟨#[]⟩] 100)).cell? ⟨l, 1, none⟩ = some (.string dir) := (HB0.out.cell (p := ⟨l, 1, none⟩) HLL.out).trans c1
  have HLW : Hid (l < (w.alloc (.cells #[.pointer none, .string ⟨#[]⟩] 100)).heap.size) := Nat.lt_of_lt_of_le HLL.out HB0.out.size
  clear c0 c1 c3 hll
  generalize w.alloc (.cells #[.pointer none, .string ⟨#[]⟩] 100) = W at *
  go_cut [8] from 42 to 52 (fun v wx => SegAt W wx (nameS dir 0) v)
  case first =>
    have hd' : Below W.heap.size W W.drew := Below.drew (Below.refl _ _)
    go_region_held3 (fun w' => w'.cell? ⟨l, 1, none⟩ = some (.string dir) ∧ Below W.heap.size W w') (first | (refine ⟨?_, ?_⟩ <;> first | (exact Below.alloc (by assumption) (Below.size (by assumption)) _) | (exact Below.setCell (Below.setCell (by assumption) (by dsimp only; omega) _) (by dsimp only; omega) _) | (exact (((Below.setCell (Below.setCell (by assumption) (by dsimp only; omega) _) (by dsimp only; omega) _ : Below W.heap.size W _)).cell (p := ⟨l, 1, none⟩) HLW.out).trans d1) | (go_keep; done)) | go_keep)
      (first
        | (go_at_call 27; refine (HE.out _ (HB0.out.trans ((‹_ ∧ Below W.heap.size W _›).2.mono HB0.out.size))).mono ?_; rintro r wE ⟨rfl, rfl⟩)
        | (go_at_call 71; refine (Ix.new_any 0 _ (by decide) (by decide)).mono ?_; rintro r wN ⟨rfl, hIX, hN1⟩; have hN2 : Below W.heap.size W wN := (‹_ ∧ Below W.heap.size W _›).2.trans (hN1.mono (‹_ ∧ Below W.heap.size W _›).2.size); have cN : wN.cell? ⟨l, 1, none⟩ = some (.string dir) := (hN2.cell (p := ⟨l, 1, none⟩) HLW.out).trans d1; have hNs := hN2.size; first | (have bx := boxN_drew hN1) | (have bx := boxN_alloc hN1) | skip)
        | (go_at_call 50; refine (HN.out _ (HB0.out.trans ((‹_ ∧ Below W.heap.size W _›).2.mono HB0.out.size))).mono ?_; rintro r wM ⟨rfl, hM1⟩; have hM2 : Below W.heap.size W wM := (‹_ ∧ Below W.heap.size W _›).2.trans (hM1.mono (‹_ ∧ Below W.heap.size W _›).2.size); have cM : wM.cell? ⟨l, 1, none⟩ = some (.string dir) := (hM2.cell (p := ⟨l, 1, none⟩) HLW.out).trans d1; have hMs := hM2.size; first | (have by_ := blk_below bx hM1; have y0 := two_0 by_; have y1 := two_1 by_; have g0 := blk_frozen by_ 0; have g1 := blk_frozen by_ 1) | (have by_ := boxN_alloc hM1; have y0 := two_0 by_; have y1 := two_1 by_; have g0 := blk_frozen by_ 0; have g1 := blk_frozen by_ 1) | skip))
    all_goals
      go_wp2_with fail
      go_meet
      have hq : ∀ (X : World), X.drew.heap.size = X.heap.size := fun _ => rfl
      simp only [hq, World.size_alloc] at hIX
      first
        | exact segAt_new (blk_below (Ix0.of hIX) hM1) (by omega) hM2
        | exact segAt_put (blk_below (Ix0.of hIX) hM1) (by omega) hM2 by_ (by omega)
        | exact segAt_put (blk_below (blk_alloc (Ix0.of hIX) _) hM1) (by omega) hM2 by_ (by omega)
  case rest =>
  obtain ⟨g, b, rfl, hbx, hIx, hg, hbW, hbl⟩ := hcut
  rename World => wc
  have hC := HCR.out wc (HB0.out.trans (hbl.mono HB0.out.size))
  have e0 : wc.cell? ⟨l, 0, none⟩ = some (.pointer (some ⟨d, 0, none⟩)) := blk_cell (HLG.out.below (HB0.out.trans (hbl.mono HB0.out.size))) 0
  have e1 : wc.cell? ⟨b, 1, none⟩ = some (.string (nameS dir 0)) := blk_cell hbx 1
  have HBX := Lib.hid hbx
  have HIX := Lib.hid hIx
  have HBL := Lib.hid hbl
  have HBW := Lib.hid hbW
  have HCR := Lib.hid hC
  have HG : Hid (W.heap.size ≤ g) := hg
  clear hbx hIx hbl hbW hC
  go_upto_region 7 with fail
  go_cut [9] from 53 to 59 (fun v wx => v = .int .i64 0 ∧ CrP S d N wc (stepD (createD (nameS dir 0).data.toList) (fun k _ => k) k).1 wx)
  case first =>
    go_region_with (go_at_call 72; refine HCR.out.mono ?_; rintro r w3 ⟨S', rfl, hD3, hT3, hS3⟩; rw [HCode.out])
    all_goals
      go_wp2_with fail
      go_meet
      exact ⟨rfl, S', hD3, tch_drew hT3, hS3⟩
  case rest =>
  obtain ⟨rfl, S', hD3, hT3, hS3⟩ := hcut
  rename World => w3
  have HLw : l < wc.heap.size := Nat.lt_of_lt_of_le HLW.out HBL.out.size
  have hLG3 : LogB w3 l d dir sz (.slice none 0 0) t dead := (hT3.block l HLw HSL.out).trans (HLG.out.below (HB0.out.trans (HBL.out.mono HB0.out.size)))
  have HBw : b < wc.heap.size := blk_lt HBX.out
  have hBX3 : w3.heap[b]? = some (.cells #[.pointer (some ⟨g, 0, none⟩), .string (nameS dir 0)] 100 (0, 0)) := (hT3.block b HBw (fun h => by have := hSlt b h; have h2 := HBW.out; have h3 := HB0.out.size; omega)).trans HBX.out
  have hIX3 : Ix0 w3 g := (hT3.block g (blk_lt HIX.out) (fun h => by have := hSlt g h; have h3 := HB0.out.size; omega)).trans HIX.out
  have hZ3 : w3.heap[w.heap.size]? = some (.cells #[.pointer none, .string ⟨#[]⟩] 100 (0, 0)) := (hT3.block w.heap.size (Nat.lt_of_lt_of_le (blk_lt HZ0.out) HBL.out.size) (fun h => by have := hSlt _ h; omega)).trans (blk_below HZ0.out HBL.out)
  have k3 : w3.cell? ⟨l, 3, none⟩ = some (.slice none 0 0) := blk_cell hLG3 3
  have k4 := two_0 hBX3
  have k5 := two_1 hBX3
  have HLG3 := Lib.hid hLG3
  have HBX3 := Lib.hid hBX3
  have HIX3 := Lib.hid hIX3
  have HZ3 := Lib.hid hZ3
  have HD3 := Lib.hid hD3
  have HT3 := Lib.hid hT3
  have HS3 := Lib.hid hS3
  have k3' : (w3.alloc (.cells #[.pointer (some ⟨g, 0, none⟩), .string (nameS dir 0)] 100)).cell? ⟨l, 3, none⟩ = some (.slice none 0 0) := blk_cell (blk_alloc hLG3 _) 3
  clear hLG3 hBX3 hIX3 hZ3 hD3 hT3 hS3 e0 e1 hg
  go_upto_region 10 with fail
  go_cut [] from 66 to 75 (fun wx => ∃ A c, LogB wx l d dir sz (.slice A 1 c) t dead ∧ Ix.Owns wx w3.heap.size 100 2 (.slice A 1 c) 1 [.pointer (some ⟨g, 0, none⟩), .string (nameS dir 0)] ∧ Tch (fun k => k = l) w3 wx)
  case first =>
    go_region_law (refine step_push rfl _ _ 82 100 2 24 (.agg #[.pointer none, .string ⟨#[]⟩]) rfl Tryz.underlying82 info_seg rfl (by decide) _ w3.heap.size w3.heap.size (.slice none 0 0) 0 [] [.pointer (some ⟨g, 0, none⟩), .string (nameS dir 0)] rfl rfl (blk_new _ _) rfl rfl (Ix.Owns.nil _ _ _ _) (by decide) (by decide) (by show _ ≤ (w3.alloc _).heap.size; rw [World.size_alloc]; omega) ?_; intro v8 w8 ho ht hs; obtain ⟨A8, c8, rfl⟩ := ho.slice; have x7 := (ht.block l (blk_lt (blk_alloc HLG3.out _)) (fun e => by cases e)).trans (blk_alloc HLG3.out _); have HO8 := Lib.hid ho; have HT8 := Lib.hid ht; have X7 := Lib.hid x7; have q7 : w8.cell? ⟨l, 3, none⟩ = some (.slice none 0 0) := blk_cell x7 3; have f7 := blk_frozen x7 3; clear ho ht hs x7)
    all_goals
      go_wp2_with fail
      go_meet
      exact seg_put HLG3.out HO8.out HT8.out X7.out
  case rest =>
  obtain ⟨A, c, hLG4, hO4, hT4⟩ := hcut
  rename World => w4
  have HLb : b < w3.heap.size := blk_lt HBX3.out
  have hlb : b ≠ l := blk_ne HBX3.out HLG3.out (by decide)
  have hlg : g ≠ l := blk_ne HIX3.out HLG3.out (by decide)
  have hlz : w.heap.size ≠ l := by have := HLL.out; omega
  have hBX4 := (hT4.block b HLb hlb).trans HBX3.out
  have hIX4 : Ix0 w4 g := (hT4.block g (blk_lt HIX3.out) hlg).trans HIX3.out
  have hZ4 := (hT4.block w.heap.size (blk_lt HZ3.out) hlz).trans HZ3.out
  have m0 := two_0 hBX4
  have m1 := two_1 hBX4
  have n0 := two_0 hZ4
  have n1 := two_1 hZ4
  have f0 := blk_frozen hZ4 0
  have f1 := blk_frozen hZ4 1
  have HLG4 := Lib.hid hLG4
  have HO4 := Lib.hid hO4
  have HT4 := Lib.hid hT4
  have HIX4 := Lib.hid hIX4
  have HZ4 := Lib.hid hZ4
  have HLN := Lib.hid (show l ≠ w.heap.size from fun e => hlz e.symm)
  clear hLG4 hO4 hT4 hIX4 hZ4 hBX4 k3 k3' k4 k5 hlz hlb
  go_wp2_with fail
  have y0 := blk_put HZ4.out 0 (.pointer (some ⟨g, 0, none⟩)) rfl
  have y1 := blk_put y0 1 (.string (nameS dir 0)) rfl
  refine bodyPost_ret (results_ct rfl _ _ w.heap.size _ rfl (run_loadVar_row _ w.heap.size 100 100 _ _ _ y1 Tryz.underlying100 rfl (by kernel_rfl))) rfl ?_
  have s0 := HB0.out.size
  have s1 := HBL.out.size
  have s2 := HT3.out.size
  have s3 : w.heap.size < W.heap.size := blk_lt HZ0.out
  have s4 := HG.out
  have s5 : g < wc.heap.size := blk_lt HIX.out
  have s6 := HLL.out
  have u0 : Tch (fun i => i = w.heap.size) w4 ((w4.setCell ⟨w.heap.size, 0, none⟩ (.pointer (some ⟨g, 0, none⟩))).setCell ⟨w.heap.size, 1, none⟩ (.string (nameS dir 0))) := (Tch.set (S := fun i => i = w.heap.size) _ ⟨w.heap.size, 0, none⟩ _ rfl).trans (Tch.set (S := fun i => i = w.heap.size) _ ⟨w.heap.size, 1, none⟩ _ rfl)
  have nS' : ∀ b, S' b → b < wc.heap.size → S b := fun b hb hlt => (HS3.out b hb).elim id (fun h => absurd h (by omega))
  refine ⟨g, A, c, S', rfl, ?_, ?_, ?_, by omega, ?_, ?_, ?_, ?_, ?_, ?_⟩
  · exact (u0.block l (blk_lt HLG4.out) HLN.out).trans HLG4.out
  · exact Owns_down (Owns_tch HO4.out u0 (fun k hk e => by have := Owns_ge HO4.out k hk; omega)) (by omega)
  · exact (u0.block g (blk_lt HIX4.out) (by show ¬ _ = _; omega)).trans HIX4.out
  · exact fun h => by have := hSlt g (nS' g h s5); omega
  · exact fun h => HSL.out (nS' l h (by omega))
  · exact fun q hq h => by have h1 := Owns_ge HO4.out q hq; have h2 := HD3.out.lt h; omega
  · refine (HD3.out.tch HT4.out (fun b e hb => ?_)).tch u0 (fun b e hb => ?_)
    · cases e; exact HSL.out (nS' l hb (by omega))
    · cases e; have := hSlt _ (nS' _ hb (by omega)); omega
  · have t0 : Tch (fun b => S b ∨ b = l) w wc := Tch.of_below (HB0.out.trans (HBL.out.mono s0))
    exact ((t0.then_ HT3.out (fun i h => .inl (.inl h))).then_ HT4.out (fun i e => .inl (.inr e))).then_ u0 (fun i e => .inr (Nat.le_of_eq e.symm))
  · intro b hb
    rcases HS3.out b hb with h | h
    · exact .inl h
    · exact .inr (by omega)
end Go.Proofs.YtciikcmiiebfpaaGreatDoor
end
