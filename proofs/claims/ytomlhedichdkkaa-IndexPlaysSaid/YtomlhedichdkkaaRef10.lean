/- The walk of the reference's Add where it adds. -/
import Derived.Test.YtomlhedichdkkaaRef9
namespace Go.Proofs.Ytomlhedichdkkaa
open Go Go.RowKit
set_option linter.unusedVariables false

/-- A new row of entries, answered in an index beside 0. -/
def AddedRow (base : Int) (L : List Ent) (w : World) (r : Ending) (w' : World) : Prop :=
  ∃ v, r = .returned (.tuple #[.agg #[.int .i64 base, v], .int .i64 0]) ∧ Owns w' w.heap.size 30 8 v L.length (entVals L) ∧ Below w.heap.size w w'

section
variable (w : World) (base : Int) (L : List Ent) (A : Option Addr) (c n : Nat) (hn : L.length = n) (hm : n ≤ 1759218604390) (hr : Row w A L) (hv : Valid base L)
include hn hm hr hv

set_option maxRecDepth 20000 in
set_option maxHeartbeats 4000000 in
theorem radd_ok (e : Ent) (h : ¬ badE e) (hn1 : e.base = nextOf base L) (hn2 : e.at_ = sizeOf L) (hE : ¬ 4611686018427387904 - e.count < e.base) :
    Calls Try.prog 30 #[.agg #[.int .i64 base, .slice A n c], e.val] w (AddedRow base (L ++ [e]) w) := by
  have HN := Lib.hid hn
  have HR := Lib.hid hr
  have HH := Lib.hid (heads w base (.slice A n c) e)
  have HNX := Lib.hid (fun (W : World) (hb : Below w.heap.size w W) => rnext_any W base L A c n hn (by omega) hv (hr.below' hb))
  have HSZ := Lib.hid (fun (W : World) (hb : Below w.heap.size w W) => rsize_any W base L A c n hn (by omega) hv (hr.below' hb))
  have HVS := Lib.hid (show entVals (L ++ [e]) = entVals L ++ e.vs from entVals_snoc L e)
  unfold Ent.val
  unfold badE at h
  have c1 : ¬ e.count < 1 := by omega
  have c2 : ¬ 256 < e.count := by omega
  have c3 : ¬ e.size < 1 := by omega
  have c4 : ¬ 36000 < e.size := by omega
  have hne : (e.base != nextOf base L) = false := by simp [hn1]
  have hne2 : (e.at_ != sizeOf L) = false := by simp [hn2]
  clear h hn1 hn2 hn hr hv
  go_enter Try.func30, Try.ntmps30
  go_wp2_with fail
  generalize ((w.alloc (.cells #[.int .i64 base, .slice A n c] 47)).alloc (.cells #[.int .i64 e.base, .int .i64 e.count, .int .i64 e.at_, .int .i64 e.size, .int .i64 e.last, .int .i64 e.pid, .int .i16 e.pep, .int .i32 e.seq] 30)).alloc (.cells #[.int .i64 0, .slice none 0 0] 47) = W3 at *
  obtain ⟨x0, x1⟩ := HH.out.x.c
  obtain ⟨y0, y1, y2, y3, y4, y5, y6, y7⟩ := HH.out.e.ent
  go_wp2_with fail
  have hw0 : Below W3.heap.size W3 W3.drew := (Below.refl _ _).drew
  have hbx := HH.out.x.lt
  have hbe : w.heap.size + 1 < W3.heap.size := (Array.getElem?_eq_some_iff.1 HH.out.e).1
  have HB := Lib.hid (fun (W : World) (h : Below W3.heap.size W3 W) => HH.out.b.trans (h.mono HH.out.b.size))
  go_region_held3 (fun w' => w'.cell? ⟨w.heap.size + 1, 0, none⟩ = some (.int .i64 e.base) ∧ w'.cell? ⟨w.heap.size + 1, 2, none⟩ = some (.int .i64 e.at_) ∧ w'.cell? ⟨w.heap.size, 0, none⟩ = some (.int .i64 base) ∧ w'.cell? ⟨w.heap.size, 1, none⟩ = some (.slice A n c) ∧ Below W3.heap.size W3 w') (go_keep)
    (first
      | (go_at_call 22; refine (HNX.out _ (HB.out _ (‹_ ∧ _ ∧ _ ∧ _ ∧ Below W3.heap.size W3 _›).2.2.2.2)).mono ?_; rintro r w1 ⟨rfl, hb⟩; have hb1 : Below W3.heap.size W3 w1 := step_bel' (‹_ ∧ _ ∧ _ ∧ _ ∧ Below W3.heap.size W3 _›).2.2.2.2 hb; have m0 := keep_cell hb1 hbe y0; have m2 := keep_cell hb1 hbe y2; have m3 := keep_cell hb1 hbx x0; have m4 := keep_cell hb1 hbx x1)
      | (go_at_call 23; refine (HSZ.out _ (HB.out _ (‹_ ∧ _ ∧ _ ∧ _ ∧ Below W3.heap.size W3 _›).2.2.2.2)).mono ?_; rintro r w2 ⟨rfl, hc⟩; have hb2 : Below W3.heap.size W3 w2 := step_bel' (‹_ ∧ _ ∧ _ ∧ _ ∧ Below W3.heap.size W3 _›).2.2.2.2 hc; have l0 := keep_cell hb2 hbe y0; have l2 := keep_cell hb2 hbe y2; have l3 := keep_cell hb2 hbx x0; have l4 := keep_cell hb2 hbx x1))
  all_goals
    have l1 := keep_cell hb2 hbe y1
    have HB2 := Lib.hid hb2
    have BT2 := Lib.hid (HB.out _ hb2)
    have hs5 : w2.heap.size < (w2.alloc (.cells #[] 30)).heap.size := by simp
    have BZ := Lib.hid (heap_alloc_new w2 (.cells #[] 30))
    have B5 := Lib.hid ((Below.refl w2.heap.size w2).alloc (Nat.le_refl _) (.cells #[] 30))
    have LT5 := Lib.hid hs5
    clear hs5
    go_wp2_with fail
    generalize w2.alloc (.cells #[] 30) = W5 at *
    have O5 : Hid (Owns W5 w2.heap.size 30 8 (.slice (some ⟨w2.heap.size, 0, none⟩) 0 0) 0 []) := ⟨by simp, .inr ⟨_, 0, #[], rfl, Nat.le_refl _, BZ.out, Nat.le_refl _, by simp [maxLen], by simp, by simp⟩⟩
    go_loopw [6, 7] (fun v i wr => ∃ m : Nat, i = .int .i64 (m : Int) ∧ m ≤ n ∧ Owns wr w2.heap.size 30 8 v m (entVals (L.take m)) ∧ Below w2.heap.size w2 wr ∧ W5.heap.size ≤ wr.heap.size) (fun _ i _ => n - (intOf i).toNat)
    case atStart => exact ⟨0, rfl, Nat.zero_le _, O5.out, B5.out, Nat.le_refl _⟩
    case round =>
      obtain ⟨m, rfl, hmn, hown, hbr, hsz⟩ := hrel
      have OWN := Lib.hid hown
      have BR := Lib.hid hbr
      have hle : w2.heap.size ≤ wr.heap.size := hbr.size
      have BA : Hid (Below W3.heap.size W3 wr) := step_bel' HB2.out hbr
      obtain ⟨q0, q1⟩ := (HH.out.x.below BA.out HH.out.x.lt).c
      clear hown hbr
      obtain ⟨A5, c5, rfl⟩ := OWN.out.slice
      by_cases hlt : m < n
      · obtain ⟨x, hx⟩ : ∃ x, L[m]? = some x := ⟨_, List.getElem?_eq_getElem (by rw [HN.out]; exact hlt)⟩
        obtain ⟨b, o, rfl, hbl, hc⟩ := HR.out (by rw [HN.out]; omega)
        obtain ⟨d0, d1, d2, d3, d4, d5, d6, d7⟩ := (hc m x hx).below (HB.out _ BA.out) hbl
        have HT := Lib.hid (show entVals (L.take (m + 1)) = entVals (L.take m) ++ x.vs by rw [take_snoc' hx, entVals_snoc])
        clear hc hx
        have hq1 : (0 : Int) ≤ (m : Int) := by omega
        have hq2 : (m : Int) < (n : Int) := by omega
        go_wp2_with (at_builtin; refine wpList_push_ent rfl _ _ rfl wr w2.heap.size hle (.slice A5 m c5) _ m x rfl rfl OWN.out (by omega) ?_; intro v4 w4 hown4 hk4 hs4; have BR4 := Lib.hid (BR.out.trans (hk4.below hle fun k hk => (OWN.out.lt k hk).1)); have SZ4 := Lib.hid (Nat.le_trans hsz hk4.size); rw [← HT.out] at hown4; have OWN4 := Lib.hid hown4; clear hown4 hk4 hs4)
        go_roundw
        case rel => exact ⟨m + 1, by go_num, by omega, OWN4.out, BR4.out, SZ4.out⟩
        case measure => simp [intOf]; omega
      · have hmn2 : m = n := by omega
        subst hmn2
        obtain ⟨e0, e1, e2, e3, e4, e5, e6, e7⟩ := (HH.out.e.below BA.out hbe).ent
        have HTK := Lib.hid (show L.take m = L by rw [← HN.out, List.take_length])
        go_wp2_with (at_builtin; refine wpList_push_ent rfl _ _ rfl wr w2.heap.size hle (.slice A5 m c5) _ m e rfl rfl OWN.out (by omega) ?_; intro v4 w4 hown4 hk4 hs4; obtain ⟨A6, c6, rfl⟩ := hown4.slice; have BR4 := Lib.hid (BR.out.trans (hk4.below hle fun k hk => (OWN.out.lt k hk).1)); have BA4 := Lib.hid (step_bel' HB2.out BR4.out); have hx4 := (HH.out.x.below BA4.out HH.out.x.lt).c; obtain ⟨p0, p1⟩ := hx4; have hr4 := HH.out.r.below BA4.out HH.out.r.lt; obtain ⟨r0, r1⟩ := hr4.c; have rf := hr4.free; have OWN4 := Lib.hid hown4; clear hown4 hk4 hs4 hr4)
        refine bodyPost_ret (v := .tuple #[.agg #[.int .i64 base, .slice A6 (m + 1) c6], .int .i64 0]) ?_ rfl ⟨.slice A6 (m + 1) c6, rfl, ?_, ?_⟩
        · rw [results_cell_tmp rfl]
          go_simp
          try rfl
        · have hk := Kept.setCell (S := fun j => j = w.heap.size + 1 + 1) (p := ⟨w.heap.size + 1 + 1, 1, none⟩) (Kept.setCell (S := fun j => j = w.heap.size + 1 + 1) (p := ⟨w.heap.size + 1 + 1, 0, none⟩) (Kept.refl _ w4) rfl (.int .i64 base)) rfl (.slice A6 (m + 1) c6)
          have hlt := HH.out.r.lt
          have hsz2 := HB2.out.size
          have hb0 := HH.out.b.size
          rw [HVS.out]
          have hl : (L ++ [e]).length = m + 1 := by rw [List.length_append, HN.out]; rfl
          rw [hl]
          have ho := OWN4.out
          rw [HTK.out] at ho
          exact (ho.kept hk fun j hj hj2 => by have := (ho.lt j hj).1; omega).mono (by omega)
        · iterate 2 refine Below.setCell ?_ (by show w.heap.size ≤ w.heap.size + 1 + 1; omega) _
          exact HB.out _ BA4.out
end
end Go.Proofs.Ytomlhedichdkkaa
