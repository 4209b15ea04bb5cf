/- The walk of the reference's Span. -/
import Derived.Test.YtomlhedichdkkaaRef3
namespace Go.Proofs.Ytomlhedichdkkaa
open Go Go.RowKit
set_option linter.unusedVariables false

set_option maxRecDepth 20000 in
set_option maxHeartbeats 2000000 in
theorem rspan_any (w : World) (base : Int) (L : List Ent) (A : Option Addr) (c n : Nat) (hn : L.length = n) (hm : n ≤ 2513175970000) (hr : Row w A L) (hv : Valid base L) (k most : Int) :
    Calls Try.prog 33 #[.agg #[.int .i64 base, .slice A n c], .int .i64 k, .int .i64 most] w fun r w' => r = .returned (spanAns (spanOf base L k most)) ∧ Below w.heap.size w w' := by
  have HN := Lib.hid hn
  have HV := Lib.hid hv
  have hb1 := (Below.refl w.heap.size w).alloc (Nat.le_refl _) (.cells #[.int .i64 base, .slice A n c] 47)
  have hbx := rbox w base (.slice A n c)
  have B1 := Lib.hid hb1
  have X1 := Lib.hid hbx
  have R1 := Lib.hid (hr.below' hb1)
  obtain ⟨k0, k1⟩ := hbx.c
  clear hn hr hv hb1 hbx
  go_enter Try.func33, Try.ntmps33
  go_wp2_with fail
  generalize w.alloc (.cells #[.int .i64 base, .slice A n c] 47) = W1 at *
  go_loopw [9, 10, 11, 12, 13] (fun sf st sb sd i wr => ∃ (m : Nat) (f t : Int) (b d : Bool), i = .int .i64 (m : Int) ∧ sf = .int .i64 f ∧ st = .int .i64 t ∧ sb = .bool b ∧ sd = .bool d ∧ m ≤ n ∧ SpanSeen base L k most m f t b d ∧ Below W1.heap.size W1 wr) (fun _ _ _ _ i _ => n - (intOf i).toNat)
  case atStart => exact ⟨0, 0, 0, false, false, rfl, rfl, rfl, rfl, rfl, Nat.zero_le _, .inl ⟨rfl, rfl, rfl, rfl, fun j x hj => absurd hj (by omega)⟩, Below.refl _ _⟩
  case round =>
    obtain ⟨m, f, t, b, d, rfl, rfl, rfl, rfl, rfl, hmn, hseen, hbr⟩ := hrel
    have BR := Lib.hid hbr
    have SEEN := Lib.hid hseen
    obtain ⟨q0, q1⟩ := (X1.out.below hbr X1.out.lt).c
    clear hseen
    by_cases hlt : m < n
    · obtain ⟨e, he⟩ : ∃ e, L[m]? = some e := ⟨_, List.getElem?_eq_getElem (by rw [HN.out]; exact hlt)⟩
      have HE := Lib.hid he
      obtain ⟨bb, o, rfl, hbl, hc⟩ := R1.out (by rw [HN.out]; omega)
      obtain ⟨d0, d1, d2, d3, d4, d5, d6, d7⟩ := (hc m e he).below hbr hbl
      have NB := Lib.hid (hbr.alloc hbr.size (.cells #[.int .i64 e.base, .int .i64 e.count, .int .i64 e.at_, .int .i64 e.size, .int .i64 e.last, .int .i64 e.pid, .int .i16 e.pep, .int .i32 e.seq] 30))
      obtain ⟨e1, e2, c1, c2, s1, s2, e7⟩ := HV.out.ent m e he
      have hsm := HV.out.sums m (by rw [HN.out]; exact hmn)
      have hlo := HV.out.lo
      have hs1 : -9223372036854775808 ≤ e.base := by omega
      have ha1 : 0 ≤ e.at_ := by omega
      have ha2 : e.at_ ≤ 36000 * (m : Int) := by omega
      have hB := fun (W : World) => rholds_any e k W hs1 e7 c1 c2
      simp only [Ent.val] at hB
      have HB := Lib.hid hB
      have ZB := Lib.hid (boxAt wr e)
      clear hB hc he hbr hsm e1 e2 hlo
      have hq1 : (0 : Int) ≤ (m : Int) := by omega
      have hq2 : (m : Int) < (n : Int) := by omega
      cases b with
      | false =>
        go_wp2_with fail
        generalize hW3 : wr.alloc (.cells #[.int .i64 e.base, .int .i64 e.count, .int .i64 e.at_, .int .i64 e.size, .int .i64 e.last, .int .i64 e.pid, .int .i16 e.pep, .int .i32 e.seq] 30) = W3 at *
        refine (HB.out W3).mono ?_
        rintro r w4 ⟨rfl, h4⟩
        have hz4 := ZB.out.below h4 (Array.getElem?_eq_some_iff.1 ZB.out).1
        obtain ⟨z0, z1, z2, z3, z4, z5, z6, z7⟩ := hz4.ent
        have NB4 := Lib.hid (step_bel' NB.out h4)
        clear h4 hz4 hW3
        cases hh : holdsB k e with
        | true =>
          have MT := Lib.hid (SEEN.out.meet HV.out HE.out hh)
          clear hh
          go_wp2_with fail
          go_roundw
          case rel => exact ⟨m + 1, _, _, _, _, by go_num, rfl, rfl, rfl, rfl, by omega, MT.out, NB4.out⟩
          case measure => simp [intOf]; omega
        | false =>
          have MT := Lib.hid (SEEN.out.skip HE.out hh)
          clear hh
          go_wp2_with fail
          go_roundw
          case rel => exact ⟨m + 1, _, _, _, _, by go_num, rfl, rfl, rfl, rfl, by omega, MT.out, NB4.out⟩
          case measure => simp [intOf]; omega
      | true =>
        cases d with
        | true =>
          have MT := Lib.hid SEEN.out.rest
          go_wp2_with fail
          go_roundw
          case rel => exact ⟨m + 1, _, _, _, _, by go_num, rfl, rfl, rfl, rfl, by omega, MT.out, NB.out⟩
          case measure => simp [intOf]; omega
        | false =>
          obtain ⟨f1, f2, t1, t2, m1, m2⟩ := SEEN.out.more HV.out HE.out
          have M1 := Lib.hid m1
          have M2 := Lib.hid m2
          have hNN := HN.out
          have hw1 : IntKind.i64.wrap (t - f) = t - f := IntWalk.i64_in _ (by omega)
          have hw2 : IntKind.i64.wrap (t - f + e.size) = t - f + e.size := IntWalk.i64_in _ (by omega)
          have hw3 : IntKind.i64.wrap (t + e.size) = t + e.size := IntWalk.i64_in _ (by omega)
          clear m1 m2 hNN
          by_cases hle : t - f + e.size ≤ most
          · go_wp2_with fail
            go_roundw
            case rel => exact ⟨m + 1, _, _, _, _, by go_num, rfl, rfl, rfl, rfl, by omega, M1.out hle, NB.out⟩
            case measure => simp [intOf]; omega
          · go_wp2_with fail
            go_roundw
            case rel => exact ⟨m + 1, _, _, _, _, by go_num, rfl, rfl, rfl, rfl, by omega, M2.out (by omega), NB.out⟩
            case measure => simp [intOf]; omega
    · have hmn2 : m = n := by omega
      subst hmn2
      have hd := SEEN.out
      rw [← HN.out] at hd
      have DN := Lib.hid (hd.done HV.out)
      clear hbr hd
      go_wp2_with fail
      go_ret3
      refine ⟨by rw [DN.out]; rfl, B1.out.trans (BR.out.mono B1.out.size)⟩
end Go.Proofs.Ytomlhedichdkkaa
