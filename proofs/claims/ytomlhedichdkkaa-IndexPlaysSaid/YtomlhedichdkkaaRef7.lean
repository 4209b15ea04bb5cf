/- The walk of the reference's Add where the entry does not follow on. -/
import Derived.Test.YtomlhedichdkkaaRef6
namespace Go.Proofs.Ytomlhedichdkkaa
open Go Go.RowKit
set_option linter.unusedVariables false

/-- The three boxes at the head of the reference's Add. -/
structure Heads (w W3 : World) (base : Int) (v : Value) (e : Ent) : Prop where
  x : RBox W3 w.heap.size base v
  e : BoxAt W3 (w.heap.size + 1) e
  r : RBox W3 (w.heap.size + 1 + 1) 0 (.slice none 0 0)
  b : Below w.heap.size w W3
theorem heads (w : World) (base : Int) (v : Value) (e : Ent) : Heads w (((w.alloc (.cells #[.int .i64 base, v] 47)).alloc (.cells #[.int .i64 e.base, .int .i64 e.count, .int .i64 e.at_, .int .i64 e.size, .int .i64 e.last, .int .i64 e.pid, .int .i16 e.pep, .int .i32 e.seq] 30)).alloc (.cells #[.int .i64 0, .slice none 0 0] 47)) base v e := by
  have hb1 := (Below.refl w.heap.size w).alloc (Nat.le_refl _) (.cells #[.int .i64 base, v] 47)
  have hb2 := hb1.alloc hb1.size (.cells #[.int .i64 e.base, .int .i64 e.count, .int .i64 e.at_, .int .i64 e.size, .int .i64 e.last, .int .i64 e.pid, .int .i16 e.pep, .int .i32 e.seq] 30)
  have hx := rbox w base v
  have he := boxAt (w.alloc (.cells #[.int .i64 base, v] 47)) e
  have hr := rbox ((w.alloc (.cells #[.int .i64 base, v] 47)).alloc (.cells #[.int .i64 e.base, .int .i64 e.count, .int .i64 e.at_, .int .i64 e.size, .int .i64 e.last, .int .i64 e.pid, .int .i16 e.pep, .int .i32 e.seq] 30)) 0 (.slice none 0 0)
  have s1 : (w.alloc (.cells #[.int .i64 base, v] 47)).heap.size = w.heap.size + 1 := by simp
  have s2 : ((w.alloc (.cells #[.int .i64 base, v] 47)).alloc (.cells #[.int .i64 e.base, .int .i64 e.count, .int .i64 e.at_, .int .i64 e.size, .int .i64 e.last, .int .i64 e.pid, .int .i16 e.pep, .int .i32 e.seq] 30)).heap.size = w.heap.size + 1 + 1 := by simp
  rw [s1] at he
  rw [s2] at hr
  have hx2 := hx.below ((Below.refl _ _).alloc (Nat.le_refl _) (.cells #[.int .i64 e.base, .int .i64 e.count, .int .i64 e.at_, .int .i64 e.size, .int .i64 e.last, .int .i64 e.pid, .int .i16 e.pep, .int .i32 e.seq] 30)) hx.lt
  exact ⟨hx2.below ((Below.refl _ _).alloc (Nat.le_refl _) _) hx2.lt, he.alloc _, hr, hb2.alloc hb2.size _⟩

section
variable (w : World) (base : Int) (L : List Ent) (A : Option Addr) (c n : Nat) (hn : L.length = n) (hm : n ≤ 1759218604390) (hr : Row w A L) (hv : Valid base L)
include hn hm hr hv

set_option maxRecDepth 20000 in
set_option maxHeartbeats 2000000 in
theorem radd_gap1 (e : Ent) (h : ¬ badE e) (hne0 : e.base ≠ nextOf base L) :
    Calls Try.prog 30 #[.agg #[.int .i64 base, .slice A n c], e.val] w fun r w' => r = .returned (.tuple #[.agg #[.int .i64 base, .slice A n c], .int .i64 190]) ∧ Below w.heap.size w w' := by
  have HH := Lib.hid (heads w base (.slice A n c) e)
  have HR := Lib.hid hr
  have HNX := Lib.hid (fun (W : World) (hb : Below w.heap.size w W) => rnext_any W base L A c n hn (by omega) hv (hr.below' hb))
  unfold Ent.val
  unfold badE at h
  have c1 : ¬ e.count < 1 := by omega
  have c2 : ¬ 256 < e.count := by omega
  have c3 : ¬ e.size < 1 := by omega
  have c4 : ¬ 36000 < e.size := by omega
  have hne : (e.base != nextOf base L) = true := by rw [bne_iff_ne]; exact hne0
  clear h hne0 hn hr hv
  go_enter Try.func30, Try.ntmps30
  go_wp2_with fail
  generalize ((w.alloc (.cells #[.int .i64 base, .slice A n c] 47)).alloc (.cells #[.int .i64 e.base, .int .i64 e.count, .int .i64 e.at_, .int .i64 e.size, .int .i64 e.last, .int .i64 e.pid, .int .i16 e.pep, .int .i32 e.seq] 30)).alloc (.cells #[.int .i64 0, .slice none 0 0] 47) = W3 at *
  obtain ⟨x0, x1⟩ := HH.out.x.c
  obtain ⟨y0, y1, y2, y3, y4, y5, y6, y7⟩ := HH.out.e.ent
  go_wp2_with fail
  have hw0 : Below W3.heap.size W3 W3.drew := (Below.refl _ _).drew
  have hbx := HH.out.x.lt
  have hbe : w.heap.size + 1 < W3.heap.size := (Array.getElem?_eq_some_iff.1 HH.out.e).1
  have HB := Lib.hid (fun (W : World) (h : Below W3.heap.size W3 W) => HH.out.b.trans (h.mono HH.out.b.size))
  go_wp2_with fail
  first
    | go_region_with (go_at_call 22; refine (HNX.out _ (HB.out _ hw0)).mono ?_; rintro r w1 ⟨rfl, hb⟩; have hb1 : Below W3.heap.size W3 w1 := step_bel' hw0 hb; have m0 := keep_cell hb1 hbx x0; have m1 := keep_cell hb1 hbx x1; have m2 := keep_cell hb1 hbe y0)
    | fail
  all_goals
    have hr4 := HH.out.r.below hb1 HH.out.r.lt
    obtain ⟨r0, r1⟩ := hr4.c
    have rf := hr4.free
    have HB1 := Lib.hid (HB.out _ hb1)
    clear hr4
    go_wp2_with fail
    refine bodyPost_ret (v := .tuple #[.agg #[.int .i64 base, .slice A n c], .int .i64 190]) ?_ rfl ⟨rfl, ?_⟩
    · rw [results_cell_tmp rfl]
      go_simp
      try rfl
    · iterate 2 refine Below.setCell ?_ (by show w.heap.size ≤ w.heap.size + 1 + 1; omega) _
      exact HB1.out
end
end Go.Proofs.Ytomlhedichdkkaa
