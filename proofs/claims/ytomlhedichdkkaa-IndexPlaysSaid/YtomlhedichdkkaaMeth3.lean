/- The walks of All and Span. -/
import Derived.Test.YtomlhedichdkkaaMeth2
namespace Go.Proofs.Ytomlhedichdkkaa
open Go Go.RowKit
set_option linter.unusedVariables false

theorem ent_info : (Try.prog.info? 30).map (fun i => (i.zero, i.size, i.bytes)) = some (some Ent.zero.val, 8, 56) := by kernel_rfl

theorem one_cell_ents (es : List Ent) : ∀ u ∈ entVals es, u.oneCell' = true := by
  intro u hu
  unfold entVals at hu
  obtain ⟨e, _, h⟩ := List.mem_flatMap.1 hu
  simp [Ent.vs] at h
  rcases h with rfl | rfl | rfl | rfl | rfl | rfl | rfl | rfl <;> rfl

/-- slices.Clone of a row. -/
def CloneAns (es : List Ent) (w : World) (r : Ending) (w' : World) : Prop :=
  ∃ v, r = .returned v ∧ Owns w' w.heap.size 30 8 v es.length (entVals es) ∧ Below w.heap.size w w'

set_option maxHeartbeats 400000 in
theorem clone_any (w : World) (es : List Ent) (v : Value) (B : Nat) (ho : Owns w B 30 8 v es.length (entVals es)) (hm : es.length * 56 ≤ 140737488355328) :
    Calls Try.prog 24 #[v] w (CloneAns es w) := by
  obtain ⟨i0, hi, hz0, hz1, hz2⟩ := info_parts ent_info
  have hml : es.length ≤ 140737488355328 := by omega
  rcases ho.2 with ⟨rfl, h0⟩ | ⟨g, cap, cur, rfl, hg, hh, hnc, hcm, hcs, ht⟩
  · have he : es = [] := List.eq_nil_of_length_eq_zero h0
    subst he
    have hq := Lib.run_eql_slice_nil (P := Try.prog) w 22 30 none 0 0 0 0 Try.underlying22
    go_enter Try.func24, Try.ntmps24
    go_wp2
    go_ret
    exact ⟨_, rfl, Owns.nil _ _ _ _, Below.refl _ _⟩
  · have hr := Lib.hid ho.rd
    have hq := Lib.run_eql_slice_nil (P := Try.prog) w 22 30 (some ⟨g, 0, none⟩) es.length cap 0 0 Try.underlying22
    clear ho hh hcs ht
    go_enter Try.func24, Try.ntmps24
    go_wp2_with (at_builtin; refine wpList_app _ rfl _ _ 22 rfl w.heap.size 30 i0 _ 8 56 Try.underlying22 hi hz0 hz1 hz2 rfl (by decide) (.slice (some ⟨w.heap.size, 0, none⟩) 0 0) 0 [] rfl ?_ (some ⟨g, 0, none⟩) es.length cap (entVals es) rfl ?_ (one_cell_ents es) ?_ ?_ ?_ ?_; rotate_left 5; intro v1 w1 hown1 hk1 hs1)
    · go_ret
      refine ⟨v1, rfl, ?_, ?_⟩
      · rw [Nat.zero_add, List.nil_append] at hown1
        exact hown1
      · exact ((Below.refl w.heap.size w).alloc (Nat.le_refl _) _).trans (hk1.below (by simp) (fun k hk => by simp [Value.ownBlock] at hk; omega))
    · exact ⟨by simp, .inr ⟨w.heap.size, 0, #[], rfl, Nat.le_refl _, heap_alloc_new w _, Nat.le_refl _, by simp [maxLen], by simp, by simp⟩⟩
    · exact hr.out.below ((Below.refl _ _).alloc (Nat.le_refl _) _)
    · simp only [maxLen]; omega
    · omega
    · simp

/-- How far the batches from an entry on go. -/
def spanTo : List Ent → Int → Int → Int → Int
  | [], _, to, _ => to
  | e :: r, from_, to, most => if most < e.at_ + e.size - from_ then to else spanTo r from_ (e.at_ + e.size) most

def spanOf (base : Int) (es : List Ent) (k most : Int) : Int × Int × Bool :=
  match atOf base es k with
  | none => (0, 0, false)
  | some e => (e.at_, spanTo (es.drop (fromE es k + 1)) e.at_ (e.at_ + e.size) most, true)

def spanAns (x : Int × Int × Bool) : Value := .tuple #[.int .i64 x.1, .int .i64 x.2.1, .bool x.2.2]

section
variable (w : World) (g : Nat) (base : Int) (es : List Ent) (ve vp : Value) (hx : IX w g base es ve vp)
include hx

theorem all_any (hm : es.length * 56 ≤ 140737488355328) : Calls Try.prog 10 #[.pointer (some ⟨g, 0, none⟩)] w (CloneAns es w) := by
  obtain ⟨c0, c1, c2, c3, c4⟩ := hx.c
  have HO := Lib.hid hx.own
  clear hx
  go_enter Try.func10, Try.ntmps10
  go_wp2_with fail
  refine (clone_any w es ve 0 HO.out hm).mono ?_
  rintro r w1 ⟨v, rfl, ho, hb⟩
  have HO1 := Lib.hid ho
  have HB1 := Lib.hid hb
  clear ho hb
  go_wp2_with fail
  go_ret
  exact ⟨v, rfl, HO1.out, HB1.out⟩

set_option maxHeartbeats 1000000 in
theorem span_any (hm : es.length ≤ 140737488355328) (k most : Int) (hmost : -9223372036854775808 ≤ most ∧ most ≤ 9223372036854775807) : Calls Try.prog 12 #[.pointer (some ⟨g, 0, none⟩), .int .i64 k, .int .i64 most] w fun r w' => r = .returned (spanAns (spanOf base es k most)) ∧ Below w.heap.size w w' := by
  obtain ⟨c0, c1, c2, c3, c4⟩ := hx.c
  have HPL := Lib.hid (place_any _ g base es ve vp hx hm k)
  have hg := hx.lt
  by_cases h1 : k < base ∨ nextOf base es ≤ k
  · have HA := Lib.hid (show spanOf base es k most = (0, 0, false) by unfold spanOf atOf; rw [if_pos h1])
    have hpl := HPL.out
    rw [show placeI base es k = -1 by unfold placeI; rw [if_pos h1]] at hpl
    have HPL := Lib.hid hpl
    clear hpl hx h1
    go_enter Try.func12, Try.ntmps12
    go_wp2_with fail
    refine HPL.out.mono ?_
    rintro r w1 ⟨rfl, hb⟩
    have HB := Lib.hid hb
    clear hb
    go_wp2_with fail
    go_ret3
    exact ⟨by rw [HA.out]; rfl, HB.out⟩
  · obtain ⟨e, hlt, he, _, _⟩ := fromE_in hx.val k (by omega) (by omega)
    have HA := Lib.hid (show spanOf base es k most = (e.at_, spanTo (es.drop (fromE es k + 1)) e.at_ (e.at_ + e.size) most, true) by unfold spanOf atOf; rw [if_neg h1, he])
    have hpl := HPL.out
    rw [show placeI base es k = fromE es k by unfold placeI; rw [if_neg h1]] at hpl
    have HPL := Lib.hid hpl
    obtain ⟨v1, v2, v3, v4, v5, v6, v7⟩ := hx.val.ent _ _ he
    have hs := hx.val.sums (fromE es k) (by omega)
    have hat : 0 ≤ e.at_ ∧ e.at_ ≤ 36000 * (es.length : Int) := by omega
    clear hpl h1 v1 v2 v3 v4 v7 hs
    generalize fromE es k = i at *
    have hi1 : (0 : Int) ≤ (i : Int) := by omega
    have hi2 : (i : Int) < (es.length : Int) := by omega
    have HX := Lib.hid hx
    obtain ⟨b, c, rfl, _, hbl, hc, hcm, hent⟩ := hx.own.ent (by omega)
    clear hx
    go_enter Try.func12, Try.ntmps12
    go_wp2_with fail
    refine HPL.out.mono ?_
    rintro r w1 ⟨rfl, hb⟩
    have HB := Lib.hid hb
    have c1' := keep_cell hb hg c1
    obtain ⟨d0, d1, d2, d3, d4, d5, d6, d7⟩ := hent i e he
    have d2' := keep_cell hb hbl d2
    have d3' := keep_cell hb hbl d3
    have HENT := Lib.hid hent
    have hg1 : g < w1.heap.size := Nat.lt_of_lt_of_le hg hb.size
    have hb1 : b < w1.heap.size := Nat.lt_of_lt_of_le hbl hb.size
    clear hb hent c0 c1 c2 c3 c4 d0 d1 d2 d3 d4 d5 d6 d7 he
    simp only [maxLen] at hcm
    by_cases hci : c = i + 1
    · subst hci
      have hlen : es.length = i + 1 := by omega
      have HD := Lib.hid (show es.drop (i + 1) = [] by rw [← hlen]; simp)
      go_wp2_with fail
      go_loopw [11, 48] (fun to j wr => j = .int .i64 0 ∧ to = .int .i64 (e.at_ + e.size) ∧ wr = w1) (fun _ _ _ => 0)
      case atStart => exact ⟨rfl, rfl, rfl⟩
      case round =>
        obtain ⟨rfl, rfl, rfl⟩ := hrel
        go_wp2_with fail
        go_ret3
        exact ⟨by rw [HA.out, HD.out]; rfl, HB.out⟩
    · go_wp2_with fail
      go_loopw [11, 48] (fun to j wr => ∃ (m : Nat) (t : Int), m ≤ es.length - (i + 1) ∧ j = .int .i64 (m : Int) ∧ to = .int .i64 t ∧ spanTo (es.drop (i + 1 + m)) e.at_ t most = spanTo (es.drop (i + 1)) e.at_ (e.at_ + e.size) most ∧ Below w1.heap.size w1 wr) (fun _ j _ => es.length - (i + 1) - (intOf j).toNat)
      case atStart => exact ⟨0, _, by omega, rfl, rfl, rfl, Below.refl _ _⟩
      case round =>
        obtain ⟨m, t, hmm, rfl, rfl, hsp, hbr⟩ := hrel
        have HSP := Lib.hid hsp
        have HBR := Lib.hid hbr
        by_cases hlt2 : m < es.length - (i + 1)
        · obtain ⟨x, hx0⟩ : ∃ x, es[i + 1 + m]? = some x := ⟨_, List.getElem?_eq_getElem (by omega)⟩
          have hent := HENT.out (i + 1 + m) x hx0
          rw [show (i + 1 + m) * 8 = (i + 1) * 8 + m * 8 by omega] at hent
          obtain ⟨d0, d1, d2, d3, d4, d5, d6, d7⟩ := hent
          obtain ⟨u1, u2, u3, u4, u5, u6, u7⟩ := HX.out.val.ent _ _ hx0
          have hs := HX.out.val.sums (i + 1 + m) (by omega)
          have hat2 : 0 ≤ x.at_ ∧ x.at_ ≤ 36000 * (es.length : Int) := by omega
          have q0 := keep_cell hbr hb1 (keep_cell HB.out hbl d0)
          have q1 := keep_cell hbr hb1 (keep_cell HB.out hbl d1)
          have q2 := keep_cell hbr hb1 (keep_cell HB.out hbl d2)
          have q3 := keep_cell hbr hb1 (keep_cell HB.out hbl d3)
          have q4 := keep_cell hbr hb1 (keep_cell HB.out hbl d4)
          have q5 := keep_cell hbr hb1 (keep_cell HB.out hbl d5)
          have q6 := keep_cell hbr hb1 (keep_cell HB.out hbl d6)
          have q7 := keep_cell hbr hb1 (keep_cell HB.out hbl d7)
          have hbr1 : b < wr.heap.size := Nat.lt_of_lt_of_le hb1 hbr.size
          have HDR := Lib.hid (show es.drop (i + 1 + m) = x :: es.drop (i + 1 + m + 1) by
            rw [List.drop_eq_getElem_cons (by omega)]
            congr 1
            rw [List.getElem?_eq_getElem (by omega)] at hx0
            injection hx0)
          have HNB := Lib.hid (hbr.alloc hbr.size (.cells #[.int .i64 x.base, .int .i64 x.count, .int .i64 x.at_, .int .i64 x.size, .int .i64 x.last, .int .i64 x.pid, .int .i16 x.pep, .int .i32 x.seq] 30))
          clear d0 d1 d2 d3 d4 d5 d6 d7 u1 u2 u3 u4 u7 hs hsp hbr hx0
          by_cases hbig : most < x.at_ + x.size - e.at_
          · go_wp2_with fail
            go_ret3
            refine ⟨?_, HB.out.trans (HNB.out.mono HB.out.size)⟩
            rw [HA.out, ← HSP.out, HDR.out]
            simp only [spanTo]
            rw [if_pos hbig]
            rfl
          · go_wp2_with fail
            go_roundw
            case rel =>
              refine ⟨m + 1, x.at_ + x.size, by omega, by go_num, rfl, ?_, HNB.out⟩
              rw [← HSP.out, HDR.out]
              simp only [spanTo]
              rw [if_neg hbig]
              rfl
            case measure => simp [intOf]; omega
        · go_wp2_with fail
          go_ret3
          refine ⟨?_, HB.out.trans (HBR.out.mono HB.out.size)⟩
          rw [HA.out, ← HSP.out, List.drop_eq_nil_of_le (by omega)]
          rfl
end
end Go.Proofs.Ytomlhedichdkkaa
