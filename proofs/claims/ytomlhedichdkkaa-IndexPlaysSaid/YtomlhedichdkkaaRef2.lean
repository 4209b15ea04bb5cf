/- The reference's At. -/
import Derived.Test.YtomlhedichdkkaaRef
namespace Go.Proofs.Ytomlhedichdkkaa
open Go Go.RowKit
set_option linter.unusedVariables false

theorem step_bel' {a b c : World} (h : Below a.heap.size a b) (k : Below b.heap.size b c) : Below a.heap.size a c := h.trans (k.mono h.size)
section
variable (w : World) (base : Int) (L : List Ent) (A : Option Addr) (c n : Nat) (hn : L.length = n) (hm : n ≤ 2513175970000) (hr : Row w A L)
include hn hm hr
set_option maxRecDepth 20000 in
set_option maxHeartbeats 2000000 in
theorem rat_any (hv : Valid base L) (k : Int) : Calls Try.prog 31 #[.agg #[.int .i64 base, .slice A n c], .int .i64 k] w fun r w' => r = .returned (optAns (L.find? (holdsB k))) ∧ Below w.heap.size w w' := by
  have HN := Lib.hid hn
  have HV := Lib.hid hv
  have hb1 := (Below.refl w.heap.size w).alloc (Nat.le_refl _) (.cells #[.int .i64 base, .slice A n c] 47)
  have hbx := rbox w base (.slice A n c)
  have hbz := boxAt (w.alloc (.cells #[.int .i64 base, .slice A n c] 47)) Ent.zero
  have hb2 := hb1.alloc hb1.size (.cells #[.int .i64 0, .int .i64 0, .int .i64 0, .int .i64 0, .int .i64 0, .int .i64 0, .int .i16 0, .int .i32 0] 30)
  have hs1 : (w.alloc (.cells #[.int .i64 base, .slice A n c] 47)).heap.size = w.heap.size + 1 := by simp
  simp only [Ent.zero] at hbz
  rw [hs1] at hbz
  have B2 := Lib.hid hb2
  have Z2 := Lib.hid hbz
  have X2 := Lib.hid (hbx.below ((Below.refl _ _).alloc (Nat.le_refl _) (.cells #[.int .i64 0, .int .i64 0, .int .i64 0, .int .i64 0, .int .i64 0, .int .i64 0, .int .i16 0, .int .i32 0] 30)) hbx.lt)
  have R2 := Lib.hid (hr.below' hb2)
  clear hn hr hv hb1 hbx hbz hb2 hs1
  go_enter Try.func31, Try.ntmps31
  go_wp2_with fail
  generalize (w.alloc (.cells #[.int .i64 base, .slice A n c] 47)).alloc (.cells #[.int .i64 0, .int .i64 0, .int .i64 0, .int .i64 0, .int .i64 0, .int .i64 0, .int .i16 0, .int .i32 0] 30) = W2 at *
  go_loopw [6] (fun i wr => ∃ m : Nat, i = .int .i64 (m : Int) ∧ m ≤ n ∧ Below W2.heap.size W2 wr ∧ ∀ (j : Nat) (x : Ent), j < m → L[j]? = some x → holdsB k x = false) (fun i _ => n - (intOf i).toNat)
  case atStart => exact ⟨0, rfl, Nat.zero_le _, Below.refl _ _, fun j x hj => absurd hj (by omega)⟩
  case round =>
    obtain ⟨m, rfl, hmn, hbr, hno⟩ := hrel
    have BR := Lib.hid hbr
    have NO := Lib.hid hno
    obtain ⟨q0, q1⟩ := (X2.out.below hbr X2.out.lt).c
    have hz := Z2.out.below hbr (Array.getElem?_eq_some_iff.1 Z2.out).1
    obtain ⟨z0, z1, z2, z3, z4, z5, z6, z7⟩ := hz.ent
    have zf := hz.free
    have BT := Lib.hid (B2.out.trans (hbr.mono B2.out.size))
    clear hno hz
    by_cases hlt : m < n
    · obtain ⟨e, he⟩ : ∃ e, L[m]? = some e := ⟨_, List.getElem?_eq_getElem (by rw [HN.out]; exact hlt)⟩
      have HE := Lib.hid he
      obtain ⟨b, o, rfl, hbl, hc⟩ := R2.out (by rw [HN.out]; omega)
      obtain ⟨d0, d1, d2, d3, d4, d5, d6, d7⟩ := (hc m e he).below hbr hbl
      clear hc he hbr
      have hq1 : (0 : Int) ≤ (m : Int) := by omega
      have hq2 : (m : Int) < (n : Int) := by omega
      obtain ⟨e1, e2, c1, c2, e5, e6, e7⟩ := HV.out.ent m e HE.out
      have hsm := HV.out.sums m (by rw [HN.out]; exact hmn)
      have hlo := HV.out.lo
      have hs1 : -9223372036854775808 ≤ e.base := by omega
      clear hsm e1 e2 hlo
      have hB := fun (W : World) => rholds_any e k W hs1 e7 c1 c2
      simp only [Ent.val] at hB
      have HB := Lib.hid hB
      clear hB
      have hbw : b < wr.heap.size := Nat.lt_of_lt_of_le hbl BR.out.size
      have hb1w : w.heap.size < wr.heap.size := Nat.lt_of_lt_of_le X2.out.lt BR.out.size
      have hb2w : w.heap.size + 1 < wr.heap.size := Nat.lt_of_lt_of_le (Array.getElem?_eq_some_iff.1 Z2.out).1 BR.out.size
      go_wp2_with fail
      refine (HB.out wr).mono ?_
      rintro r w3 ⟨rfl, h3⟩
      have BR3 := Lib.hid (step_bel' BR.out h3)
      have BT3 := Lib.hid (BT.out.trans (h3.mono BT.out.size))
      have g1 := keep_cell h3 hb1w q1
      have hz3 := (Z2.out.below BR3.out (Array.getElem?_eq_some_iff.1 Z2.out).1)
      obtain ⟨y0, y1, y2, y3, y4, y5, y6, y7⟩ := hz3.ent
      have yf := hz3.free
      have m0 := keep_cell h3 hbw d0
      have m1 := keep_cell h3 hbw d1
      have m2 := keep_cell h3 hbw d2
      have m3 := keep_cell h3 hbw d3
      have m4 := keep_cell h3 hbw d4
      have m5 := keep_cell h3 hbw d5
      have m6 := keep_cell h3 hbw d6
      have m7 := keep_cell h3 hbw d7
      clear h3 hz3 d0 d1 d2 d3 d4 d5 d6 d7 z0 z1 z2 z3 z4 z5 z6 z7 zf q0 q1
      cases hh : holdsB k e with
      | true =>
        have HF := Lib.hid (find_at (p := holdsB k) L m e HE.out hh NO.out)
        clear hh
        go_wp2_with fail
        refine bodyPost_ret (v := .tuple #[e.val, .bool true]) ?_ rfl ⟨?_, ?_⟩
        · rw [results_cell_tmp rfl]
          go_simp
          rfl
        · rw [HF.out]; rfl
        · iterate 8 refine Below.setCell ?_ (by show w.heap.size ≤ w.heap.size + 1; omega) _
          exact BT3.out
      | false =>
        have HH := Lib.hid hh
        clear hh
        go_wp2_with fail
        go_roundw
        case rel =>
          refine ⟨m + 1, by go_num, by omega, BR3.out, fun j x hj hx => ?_⟩
          rcases Nat.lt_or_ge j m with h | h
          · exact NO.out j x h hx
          · obtain rfl : j = m := by omega
            rw [HE.out] at hx
            injection hx with hx
            subst hx
            exact HH.out
        case measure => simp [intOf]; omega
    · have hmn2 : m = n := by omega
      subst hmn2
      have HF := Lib.hid (find_no (p := holdsB k) L fun j x hx => NO.out j x (by have := (List.getElem?_eq_some_iff.1 hx).1; rw [HN.out] at this; exact this) hx)
      clear hbr
      go_wp2_with fail
      refine bodyPost_ret (v := .tuple #[Ent.zero.val, .bool false]) ?_ rfl ⟨?_, ?_⟩
      · rw [results_cell_tmp rfl]
        go_simp
        rfl
      · rw [HF.out]; rfl
      · iterate 8 refine Below.setCell ?_ (by show w.heap.size ≤ w.heap.size + 1; omega) _
        exact BT.out
end
end Go.Proofs.Ytomlhedichdkkaa
