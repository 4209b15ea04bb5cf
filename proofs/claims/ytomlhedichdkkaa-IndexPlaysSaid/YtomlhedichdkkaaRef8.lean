/- The walk of the reference's Add where the place does not follow on, or the end is met. -/
import Derived.Test.YtomlhedichdkkaaRef7
namespace Go.Proofs.Ytomlhedichdkkaa
open Go Go.RowKit
set_option linter.unusedVariables false

section
variable (w : World) (base : Int) (L : List Ent) (A : Option Addr) (c n : Nat) (hn : L.length = n) (hm : n ≤ 1759218604390) (hr : Row w A L) (hv : Valid base L)
include hn hm hr hv

set_option maxRecDepth 20000 in
set_option maxHeartbeats 4000000 in
theorem radd_gap2 (e : Ent) (h : ¬ badE e) (hn1 : e.base = nextOf base L) (hn2 : e.at_ ≠ sizeOf L) :
    Calls Try.prog 30 #[.agg #[.int .i64 base, .slice A n c], e.val] w fun r w' => r = .returned (.tuple #[.agg #[.int .i64 base, .slice A n c], .int .i64 190]) ∧ Below w.heap.size w w' := by
  have HH := Lib.hid (heads w base (.slice A n c) e)
  have HNX := Lib.hid (fun (W : World) (hb : Below w.heap.size w W) => rnext_any W base L A c n hn (by omega) hv (hr.below' hb))
  have HSZ := Lib.hid (fun (W : World) (hb : Below w.heap.size w W) => rsize_any W base L A c n hn (by omega) hv (hr.below' hb))
  unfold Ent.val
  unfold badE at h
  have c1 : ¬ e.count < 1 := by omega
  have c2 : ¬ 256 < e.count := by omega
  have c3 : ¬ e.size < 1 := by omega
  have c4 : ¬ 36000 < e.size := by omega
  have hne : (e.base != nextOf base L) = false := by simp [hn1]
  have hne2 : (e.at_ != sizeOf L) = true := by rw [bne_iff_ne]; exact hn2
  clear h hn1 hn2 hn hr hv
  go_enter Try.func30, Try.ntmps30
  go_wp2_with fail
  generalize ((w.alloc (.cells #[.int .i64 base, .slice A n c] 47)).alloc (.cells #[.int .i64 e.base, .int .i64 e.count, .int .i64 e.at_, .int .i64 e.size, .int .i64 e.last, .int .i64 e.pid, .int .i16 e.pep, .int .i32 e.seq] 30)).alloc (.cells #[.int .i64 0, .slice none 0 0] 47) = W3 at *
  obtain ⟨x0, x1⟩ := HH.out.x.c
  obtain ⟨y0, y1, y2, y3, y4, y5, y6, y7⟩ := HH.out.e.ent
  go_wp2_with fail
  have hw0 : Below W3.heap.size W3 W3.drew := (Below.refl _ _).drew
  have hbx := HH.out.x.lt
  have hbe : w.heap.size + 1 < W3.heap.size := (Array.getElem?_eq_some_iff.1 HH.out.e).1
  have HB := Lib.hid (fun (W : World) (h : Below W3.heap.size W3 W) => HH.out.b.trans (h.mono HH.out.b.size))
  go_region_held3 (fun w' => w'.cell? ⟨w.heap.size + 1, 0, none⟩ = some (.int .i64 e.base) ∧ w'.cell? ⟨w.heap.size + 1, 2, none⟩ = some (.int .i64 e.at_) ∧ w'.cell? ⟨w.heap.size, 0, none⟩ = some (.int .i64 base) ∧ w'.cell? ⟨w.heap.size, 1, none⟩ = some (.slice A n c) ∧ Below W3.heap.size W3 w') (go_keep)
    (first
      | (go_at_call 22; refine (HNX.out _ (HB.out _ (‹_ ∧ _ ∧ _ ∧ _ ∧ Below W3.heap.size W3 _›).2.2.2.2)).mono ?_; rintro r w1 ⟨rfl, hb⟩; have hb1 : Below W3.heap.size W3 w1 := step_bel' (‹_ ∧ _ ∧ _ ∧ _ ∧ Below W3.heap.size W3 _›).2.2.2.2 hb; have m0 := keep_cell hb1 hbe y0; have m2 := keep_cell hb1 hbe y2; have m3 := keep_cell hb1 hbx x0; have m4 := keep_cell hb1 hbx x1)
      | (go_at_call 23; refine (HSZ.out _ (HB.out _ (‹_ ∧ _ ∧ _ ∧ _ ∧ Below W3.heap.size W3 _›).2.2.2.2)).mono ?_; rintro r w2 ⟨rfl, hc⟩; have hb2 : Below W3.heap.size W3 w2 := step_bel' (‹_ ∧ _ ∧ _ ∧ _ ∧ Below W3.heap.size W3 _›).2.2.2.2 hc; have l0 := keep_cell hb2 hbe y0; have l2 := keep_cell hb2 hbe y2; have l3 := keep_cell hb2 hbx x0; have l4 := keep_cell hb2 hbx x1))
  all_goals
    have hr4 := HH.out.r.below hb2 HH.out.r.lt
    obtain ⟨r0, r1⟩ := hr4.c
    have rf := hr4.free
    have HB2 := Lib.hid (HB.out _ hb2)
    clear hr4
    go_wp2_with fail
    refine bodyPost_ret (v := .tuple #[.agg #[.int .i64 base, .slice A n c], .int .i64 190]) ?_ rfl ⟨rfl, ?_⟩
    · rw [results_cell_tmp rfl]
      go_simp
      try rfl
    · iterate 2 refine Below.setCell ?_ (by show w.heap.size ≤ w.heap.size + 1 + 1; omega) _
      exact HB2.out
end
end Go.Proofs.Ytomlhedichdkkaa
