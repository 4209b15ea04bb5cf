/- The walk of IndexTimes. -/
import Derived.Test.YtomlhedichdkkaaFinds
namespace Go.Proofs.Ytomlhedichdkkaa
open Go Go.RowKit
set_option linter.unusedVariables false

theorem fr_len {w0 w : World} {g : Nat} {base : Int} {es : List Ent} (h : Fr w0 w g base es) : Calls Try.prog 9 #[.pointer (some ⟨g, 0, none⟩)] w fun r w' => r = .returned (.int .i64 (es.length : Int)) ∧ w = w' := by
  obtain ⟨ve, vp, hx, hf, h0⟩ := h
  exact len_any w g base es ve vp hx
theorem fr_base {w0 w : World} {g : Nat} {base : Int} {es : List Ent} (h : Fr w0 w g base es) : Calls Try.prog 13 #[.pointer (some ⟨g, 0, none⟩)] w fun r w' => r = .returned (.int .i64 base) ∧ w = w' := by
  obtain ⟨ve, vp, hx, hf, h0⟩ := h
  exact base_any w g base es ve vp hx
theorem fr_all {w0 w : World} {g : Nat} {base : Int} {es : List Ent} (h : Fr w0 w g base es) (hm : es.length * 56 ≤ 140737488355328) : Calls Try.prog 10 #[.pointer (some ⟨g, 0, none⟩)] w (CloneAns es w) := by
  obtain ⟨ve, vp, hx, hf, h0⟩ := h
  exact all_any w g base es ve vp hx hm

theorem optAns_some (e : Ent) : optAns (some e) = .tuple #[.agg #[.int .i64 e.base, .int .i64 e.count, .int .i64 e.at_, .int .i64 e.size, .int .i64 e.last, .int .i64 e.pid, .int .i16 e.pep, .int .i32 e.seq], .bool true] := rfl
theorem optAns_none : optAns none = .tuple #[.agg #[.int .i64 0, .int .i64 0, .int .i64 0, .int .i64 0, .int .i64 0, .int .i64 0, .int .i16 0, .int .i32 0], .bool false] := rfl

set_option maxHeartbeats 2000000 in
theorem times_any (w : World) (base : Int) (es : List Ent) (A : Option Addr) (c n : Nat) (t : Int) (hn : es.length = n) (hm : n ≤ 140737488355328) (hr : Row w A es) (lo : -9223372036854775808 ≤ base) (hi : base ≤ 9223372036854775807) :
    Calls Try.prog 4 #[.int .i64 base, .slice A n c, .int .i64 t] w fun r w' => r = .returned (.bool true) ∧ Below w.heap.size w w' := by
  have HAL := Lib.hid (alive_any w)
  have HBU := Lib.hid (fun (w' : World) (hb : Below w.heap.size w w') => built_any w' base es A c n hn hm (hr.below' hb) lo hi)
  have HL := Lib.hid (built_len base es)
  clear hn hr
  generalize hL : builtOf base es = L at *
  have hLl := HL.out
  go_enter Try.func4, Try.ntmps4
  go_wp2_with fail
  refine HAL.out.mono ?_
  rintro r w1 ⟨rfl, h1⟩
  have B1 := Lib.hid h1
  clear h1
  go_wp2_with fail
  refine (HBU.out w1 B1.out).mono ?_
  rintro r w2 ⟨g, rfl, h2⟩
  have F2 := Lib.hid h2
  clear h2
  go_wp2_with fail
  refine (fr_len F2.out).mono ?_
  rintro r w3 ⟨rfl, rfl⟩
  go_wp2_with fail
  refine (fr_since F2.out (by omega) t).mono ?_
  rintro r w3 ⟨rfl, h3⟩
  have F3 := Lib.hid (F2.out.below h3)
  clear h3
  have HSF := Lib.hid (since_find L t)
  have hans : optAns (sinceOf L t) = .tuple #[.agg #[.int .i64 ((sinceOf L t).getD Ent.zero).base, .int .i64 ((sinceOf L t).getD Ent.zero).count, .int .i64 ((sinceOf L t).getD Ent.zero).at_, .int .i64 ((sinceOf L t).getD Ent.zero).size, .int .i64 ((sinceOf L t).getD Ent.zero).last, .int .i64 ((sinceOf L t).getD Ent.zero).pid, .int .i16 ((sinceOf L t).getD Ent.zero).pep, .int .i32 ((sinceOf L t).getD Ent.zero).seq], .bool (sinceOf L t).isSome] := rfl
  rw [hans]
  clear hans
  generalize hX : (sinceOf L t).getD Ent.zero = X
  generalize hok : (sinceOf L t).isSome = ok
  have HX := Lib.hid hX
  have HOK := Lib.hid hok
  clear hX hok
  have F4 := Lib.hid (F3.out.below ((Below.refl w3.heap.size w3).alloc (Nat.le_refl _) (.cells #[.int .i64 X.base, .int .i64 X.count, .int .i64 X.at_, .int .i64 X.size, .int .i64 X.last, .int .i64 X.pid, .int .i16 X.pep, .int .i32 X.seq] 30)))
  have X4 := Lib.hid (boxAt w3 X)
  have L4 := Lib.hid (show w3.heap.size < (w3.alloc (.cells #[.int .i64 X.base, .int .i64 X.count, .int .i64 X.at_, .int .i64 X.size, .int .i64 X.last, .int .i64 X.pid, .int .i16 X.pep, .int .i32 X.seq] 30)).heap.size by simp)
  go_wp2_with fail
  generalize w3.alloc (.cells #[.int .i64 X.base, .int .i64 X.count, .int .i64 X.at_, .int .i64 X.size, .int .i64 X.last, .int .i64 X.pid, .int .i16 X.pep, .int .i32 X.seq] 30) = w4 at *
  refine (fr_all F4.out (by omega)).mono ?_
  rintro r w5 ⟨v, rfl, ho5, hb5⟩
  have F5 := Lib.hid (F4.out.below hb5)
  have X5 := Lib.hid (X4.out.below hb5 L4.out)
  have L5 := Lib.hid (Nat.lt_of_lt_of_le L4.out hb5.size)
  obtain ⟨A', c', rfl⟩ := ho5.slice
  have R5 := Lib.hid ho5.row
  clear ho5 hb5 F4 X4 L4
  generalize w3.heap.size = bx at *
  go_wp2_with fail
  go_loopw [38] (fun i wr => ∃ m : Nat, i = .int .i64 (m : Int) ∧ m ≤ L.length ∧ Below w5.heap.size w5 wr ∧ ∀ (j : Nat) (x : Ent), j < m → L[j]? = some x → isLate t x = false) (fun i _ => L.length - (intOf i).toNat)
  case atStart => exact ⟨0, rfl, Nat.zero_le _, Below.refl _ _, fun j x hj => absurd hj (by omega)⟩
  case round =>
    obtain ⟨m, rfl, hmn, hbr, hno⟩ := hrel
    have NO := Lib.hid hno
    have BR := Lib.hid hbr
    have hx := X5.out.below hbr L5.out
    obtain ⟨x0, x1, x2, x3, x4, x5, x6, x7⟩ := hx.ent
    clear hno hx
    by_cases hlt : m < L.length
    · obtain ⟨e, he⟩ : ∃ e, L[m]? = some e := ⟨_, List.getElem?_eq_getElem hlt⟩
      have HE := Lib.hid he
      obtain ⟨b, o, rfl, hbl, hc⟩ := R5.out (by omega)
      obtain ⟨d0, d1, d2, d3, d4, d5, d6, d7⟩ := (hc m e he).below hbr hbl
      clear hc he hbr
      have hq1 : (0 : Int) ≤ (m : Int) := by omega
      have hq2 : (m : Int) < (L.length : Int) := by omega
      have NB := Lib.hid ((BR.out).alloc BR.out.size (.cells #[.int .i64 e.base, .int .i64 e.count, .int .i64 e.at_, .int .i64 e.size, .int .i64 e.last, .int .i64 e.pid, .int .i16 e.pep, .int .i32 e.seq] 30))
      have hlb : bx < wr.heap.size := Nat.lt_of_lt_of_le L5.out BR.out.size
      by_cases hlate : t ≤ e.last
      · have hS : sinceOf L t = some e := by rw [HSF.out]; exact find_at L m e HE.out (by simp [isLate, hlate]) NO.out
        obtain rfl : e = X := by rw [← HX.out, hS]; rfl
        obtain rfl : true = ok := by rw [← HOK.out, hS]; rfl
        clear hS
        go_wp2_with fail
        go_ret
        exact ⟨rfl, B1.out.trans ((F5.out.below NB.out).bel.mono B1.out.size)⟩
      · go_wp2_with fail
        go_roundw
        case rel =>
          refine ⟨m + 1, by go_num, by omega, NB.out, fun j x hj hx => ?_⟩
          rcases Nat.lt_or_ge j m with h | h
          · exact NO.out j x h hx
          · obtain rfl : j = m := by omega
            rw [HE.out] at hx
            injection hx with hx
            subst hx
            simp [isLate]; omega
        case measure => simp [intOf]; omega
    · have hS : sinceOf L t = none := by rw [HSF.out]; exact find_no L fun j x hx => NO.out j x (by have := (List.getElem?_eq_some_iff.1 hx).1; omega) hx
      obtain rfl : Ent.zero = X := by rw [← HX.out, hS]; rfl
      obtain rfl : false = ok := by rw [← HOK.out, hS]; rfl
      have hmn2 : m = L.length := by omega
      subst hmn2
      clear hS hbr
      simp only [Ent.zero] at x0 x1 x2 x3 x4 x5 x6 x7
      go_wp2_with fail
      go_ret
      exact ⟨rfl, B1.out.trans ((F5.out.below BR.out).bel.mono B1.out.size)⟩
end Go.Proofs.Ytomlhedichdkkaa
