/- The law's own index: built of entries that follow on. -/
import Derived.Test.YtomlhedichdkkaaAlive
namespace Go.Proofs.Ytomlhedichdkkaa
open Go Go.RowKit
set_option linter.unusedVariables false

/-- The entry put to what follows on. -/
def follow (base : Int) (acc : List Ent) (e : Ent) : Ent := { e with base := nextOf base acc, at_ := sizeOf acc }
def builtFrom (base : Int) : List Ent → List Ent → List Ent
  | acc, [] => acc
  | acc, e :: r => if (addTo base acc (follow base acc e)).length = 1048576 then addTo base acc (follow base acc e) else builtFrom base (addTo base acc (follow base acc e)) r
def builtOf (base : Int) (es : List Ent) : List Ent := builtFrom base [] es

theorem cnt_le {base : Int} {es : List Ent} (h : Valid base es) : cntSum es ≤ 256 * (es.length : Int) := by
  have key : ∀ i, i ≤ es.length → cntSum (es.take i) ≤ 256 * (i : Int) := by
    intro i
    induction i with
    | zero => intro _; simp [cntSum]
    | succ i ih =>
      intro hi
      obtain ⟨e, he⟩ : ∃ e, es[i]? = some e := ⟨_, List.getElem?_eq_getElem (by omega)⟩
      obtain ⟨_, _, c1, c2, _⟩ := h.ent i e he
      have := ih (by omega)
      rw [take_snoc' he, cntSum_append, cntSum_one]
      omega
  have := key es.length (Nat.le_refl _)
  rwa [List.take_length] at this

theorem addTo_len (base : Int) (acc : List Ent) (e : Ent) : (addTo base acc e).length = if addE base acc e = 0 then acc.length + 1 else acc.length := by
  unfold addTo
  split
  · simp
  · rfl

/-- What Add says of an entry that follows on. -/
theorem addE_follow (base : Int) (acc : List Ent) (e : Ent) (hv : Valid base acc) (hl : acc.length < 1048576) :
    (badE e ∧ addE base acc (follow base acc e) = 3) ∨
    (¬ badE e ∧ addE base acc (follow base acc e) = 0) ∨
    (¬ badE e ∧ ¬ (0 ≤ base ∧ base < 1099511627776) ∧ addE base acc (follow base acc e) = 222) := by
  have hb : badE (follow base acc e) ↔ badE e := Iff.rfl
  unfold addE
  by_cases h : badE e
  · exact .inl ⟨h, if_pos (hb.2 h)⟩
  · rw [if_neg (fun h' => h (hb.1 h')), if_neg (by simp [follow])]
    by_cases h2 : 4611686018427387904 - (follow base acc e).count < (follow base acc e).base
    · refine .inr (.inr ⟨h, fun hc => ?_, if_pos h2⟩)
      have hs := cnt_le hv
      unfold badE at h
      simp only [follow, nextOf] at h2
      omega
    · exact .inr (.inl ⟨h, if_neg h2⟩)

theorem builtFrom_len (base : Int) : ∀ (es acc : List Ent), acc.length < 1048576 → (builtFrom base acc es).length ≤ 1048576 := by
  intro es
  induction es with
  | nil => intro acc h; simp only [builtFrom]; omega
  | cons e r ih =>
    intro acc h
    simp only [builtFrom]
    have hl := addTo_len base acc (follow base acc e)
    by_cases h1 : (addTo base acc (follow base acc e)).length = 1048576
    · rw [if_pos h1]; omega
    · rw [if_neg h1]
      refine ih _ ?_
      rw [hl] at h1 ⊢
      split at h1 <;> rename_i h2
      · rw [if_pos h2]; omega
      · rw [if_neg h2]; omega
theorem built_len (base : Int) (es : List Ent) : (builtOf base es).length ≤ 1048576 := builtFrom_len base es [] (by simp)

/-- An entry's box that may be written. -/
def BoxAt (w : World) (b : Nat) (e : Ent) : Prop := w.heap[b]? = some (.cells #[.int .i64 e.base, .int .i64 e.count, .int .i64 e.at_, .int .i64 e.size, .int .i64 e.last, .int .i64 e.pid, .int .i16 e.pep, .int .i32 e.seq] 30)
theorem boxAt (w : World) (e : Ent) : BoxAt (w.alloc (.cells #[.int .i64 e.base, .int .i64 e.count, .int .i64 e.at_, .int .i64 e.size, .int .i64 e.last, .int .i64 e.pid, .int .i16 e.pep, .int .i32 e.seq] 30)) w.heap.size e := heap_alloc_new w _
section
variable {w w' : World} {b : Nat} {e : Ent} (h : BoxAt w b e)
include h
theorem BoxAt.ent : EntAt w b 0 e := by
  have k := fun j => cell_of_row w b j _ _ _ h
  exact ⟨k 0, k 1, k 2, k 3, k 4, k 5, k 6, k 7⟩
theorem BoxAt.free (i : Nat) : w.frozen? ⟨b, i, none⟩ = false := by
  unfold BoxAt at h
  simp [World.frozen?, h]
theorem BoxAt.below {B : Nat} (hb : Below B w w') (hl : b < B) : BoxAt w' b e := (hb.block b hl).trans h
theorem BoxAt.set0 (x : Int) : BoxAt (w.setCell ⟨b, 0, none⟩ (.int .i64 x)) b { e with base := x } := heap_setCell_at (i := 0) h _
theorem BoxAt.set2 (x : Int) : BoxAt (w.setCell ⟨b, 2, none⟩ (.int .i64 x)) b { e with at_ := x } := heap_setCell_at (i := 2) h _
end

set_option maxHeartbeats 2000000 in
theorem built_any (w : World) (base : Int) (es : List Ent) (A : Option Addr) (c n : Nat) (hn : es.length = n) (hm : n ≤ 140737488355328) (hr : Row w A es) (lo : -9223372036854775808 ≤ base) (hi : base ≤ 9223372036854775807) :
    Calls Try.prog 8 #[.int .i64 base, .slice A n c] w fun r w' => ∃ g, r = .returned (.tuple #[.pointer (some ⟨g, 0, none⟩), .int .i64 ((builtOf base es).length : Nat)]) ∧ Fr w w' g base (builtOf base es) := by
  have HN := Lib.hid hn
  have HR := Lib.hid hr
  have HNEW := Lib.hid (fr_new base w lo hi)
  clear hn hr
  generalize hg0 : w.heap.size = g at HNEW
  have HG0 := Lib.hid hg0
  clear hg0
  go_enter Try.func8, Try.ntmps8
  go_wp2_with fail
  refine HNEW.out.mono ?_
  rintro r w1 ⟨rfl, h1⟩
  have F1 := Lib.hid h1
  clear h1 HNEW
  go_wp2_with fail
  go_loopw [7, 18] (fun k i wr => ∃ (m : Nat) (acc : List Ent), i = .int .i64 (m : Int) ∧ k = .int .i64 (acc.length : Nat) ∧ m ≤ n ∧ acc.length < 1048576 ∧ Fr w wr g base acc ∧ builtFrom base acc (es.drop m) = builtOf base es) (fun _ i _ => n - (intOf i).toNat)
  case atStart => exact ⟨0, [], rfl, rfl, Nat.zero_le _, by decide, F1.out, by simp [builtOf]⟩
  case round =>
    obtain ⟨m, acc, rfl, rfl, hmn, hal, hfr, hbf⟩ := hrel
    have FR := Lib.hid hfr
    have BF := Lib.hid hbf
    clear hfr hbf
    by_cases hlt : m < n
    · obtain ⟨e, he⟩ : ∃ e, es[m]? = some e := ⟨_, List.getElem?_eq_getElem (by rw [HN.out]; exact hlt)⟩
      obtain ⟨b, o, rfl, hbl, hc⟩ := HR.out (by rw [HN.out]; omega)
      obtain ⟨d0, d1, d2, d3, d4, d5, d6, d7⟩ := (hc m e he).below FR.out.bel hbl
      have HDR := Lib.hid (show es.drop m = e :: es.drop (m + 1) by
        rw [List.drop_eq_getElem_cons (by rw [HN.out]; exact hlt)]
        congr 1
        rw [List.getElem?_eq_getElem (by rw [HN.out]; exact hlt)] at he
        injection he)
      clear hc he
      have hq1 : (0 : Int) ≤ (m : Int) := by omega
      have hq2 : (m : Int) < (n : Int) := by omega
      have hBox0 := boxAt wr e
      have hB0 := (Below.refl wr.heap.size wr).alloc (Nat.le_refl _) (.cells #[.int .i64 e.base, .int .i64 e.count, .int .i64 e.at_, .int .i64 e.size, .int .i64 e.last, .int .i64 e.pid, .int .i16 e.pep, .int .i32 e.seq] 30)
      have hl0 : wr.heap.size < (wr.alloc (.cells #[.int .i64 e.base, .int .i64 e.count, .int .i64 e.at_, .int .i64 e.size, .int .i64 e.last, .int .i64 e.pid, .int .i16 e.pep, .int .i32 e.seq] 30)).heap.size := by simp
      have HB0 := Lib.hid hB0
      have HX0 := Lib.hid hBox0
      have HL0 := Lib.hid hl0
      clear hB0 hBox0 hl0
      go_wp2_with fail
      generalize wr.alloc (.cells #[.int .i64 e.base, .int .i64 e.count, .int .i64 e.at_, .int .i64 e.size, .int .i64 e.last, .int .i64 e.pid, .int .i16 e.pep, .int .i32 e.seq] 30) = W0 at *
      refine (fr_next (FR.out.below HB0.out) (by omega)).mono ?_
      rintro r w1 ⟨rfl, hb1⟩
      have HB1 := Lib.hid (HB0.out.trans (hb1.mono HB0.out.size))
      have hx1 := HX0.out.below hb1 HL0.out
      have HX1 := Lib.hid hx1
      have HL1 := Lib.hid (Nat.lt_of_lt_of_le HL0.out hb1.size)
      have x10 := hx1.ent.c0
      have x1f := hx1.free 0
      clear hb1 hx1 d0 d1 d2 d3 d4 d5 d6 d7 HB0 HX0 HL0
      have HB2 := Lib.hid (Below.setCell HB1.out (p := ⟨wr.heap.size, 0, none⟩) (Nat.le_refl _) (.int .i64 (nextOf base acc)))
      have HX2 := Lib.hid (HX1.out.set0 (nextOf base acc))
      have HL2 := Lib.hid (show wr.heap.size < (w1.setCell ⟨wr.heap.size, 0, none⟩ (.int .i64 (nextOf base acc))).heap.size by simpa [World.setCell] using HL1.out)
      go_wp2_with fail
      generalize w1.setCell ⟨wr.heap.size, 0, none⟩ (.int .i64 (nextOf base acc)) = W2 at *
      refine (fr_size (FR.out.below HB2.out) (by omega)).mono ?_
      rintro r w3 ⟨rfl, hb3⟩
      have HB3 := Lib.hid (HB2.out.trans (hb3.mono HB2.out.size))
      have hx3 := HX2.out.below hb3 HL2.out
      have HX3 := Lib.hid hx3
      have x32 := hx3.ent.c2
      have x3f := hx3.free 2
      clear hb3 hx3 x10 x1f HB1 HX1 HL1 HB2 HX2 HL2
      have HB4 := Lib.hid (Below.setCell HB3.out (p := ⟨wr.heap.size, 2, none⟩) (Nat.le_refl _) (.int .i64 (sizeOf acc)))
      have HX4 := Lib.hid (HX3.out.set2 (sizeOf acc))
      obtain ⟨y0, y1, y2, y3, y4, y5, y6, y7⟩ := HX4.out.ent
      simp only at y0 y1 y2 y3 y4 y5 y6 y7
      have hne : (((acc.length : Nat) : Int) == 1048576) = false := by simp; omega
      rcases addE_follow base acc e FR.out.val hal with ⟨hbad, hE⟩ | ⟨hok, hE⟩ | ⟨hok, hnb, hE⟩
      · have HT : Hid (addTo base acc (follow base acc e) = acc) := by unfold addTo; rw [hE]; rfl
        have HE := Lib.hid hE
        have h4 : e.count < 1 ∨ (¬ e.count < 1 ∧ 256 < e.count) ∨ (¬ e.count < 1 ∧ ¬ 256 < e.count ∧ e.size < 1) ∨ (¬ e.count < 1 ∧ ¬ 256 < e.count ∧ ¬ e.size < 1 ∧ 36000 < e.size) := by unfold badE at hbad; omega
        clear hbad hE
        rcases h4 with j1 | ⟨j1, j2⟩ | ⟨j1, j2, j3⟩ | ⟨j1, j2, j3, j4⟩
        all_goals
          go_wp2_with fail
          refine (fr_add (FR.out.below HB4.out) (follow base acc e) (by omega)).mono ?_
          rintro r w5 ⟨rfl, h5⟩
          rw [HE.out]
          rw [HT.out] at h5
          have F5 := Lib.hid h5
          clear h5
          go_wp2_with fail
          go_roundw
          case rel => exact ⟨m + 1, acc, by go_num, rfl, by omega, hal, F5.out, by rw [← BF.out, HDR.out]; simp only [builtFrom]; rw [HT.out, if_neg (by omega)]⟩
          case measure => simp [intOf]; omega
      · have HT : Hid (addTo base acc (follow base acc e) = acc ++ [follow base acc e]) := by unfold addTo; rw [hE]; rfl
        have HE := Lib.hid hE
        unfold badE at hok
        have j1 : ¬ e.count < 1 := by omega
        have j2 : ¬ 256 < e.count := by omega
        have j3 : ¬ e.size < 1 := by omega
        have j4 : ¬ 36000 < e.size := by omega
        clear hok hE
        by_cases hk : acc.length + 1 = 1048576
        · have hk2 : acc.length = 1048575 := by omega
          go_wp2_with fail
          refine (fr_add (FR.out.below HB4.out) (follow base acc e) (by omega)).mono ?_
          rintro r w5 ⟨rfl, h5⟩
          rw [HE.out]
          rw [HT.out] at h5
          have F5 := Lib.hid h5
          clear h5
          go_wp2_with fail
          all_goals
            go_ret2
            have HQ : builtOf base es = acc ++ [follow base acc e] := by rw [← BF.out, HDR.out]; simp only [builtFrom]; rw [HT.out, if_pos (by simp; omega)]
            rw [HQ]
            exact ⟨g, by simp [hk2], F5.out⟩
        · have hk2 : (((acc.length : Nat) : Int) + 1 == 1048576) = false := by simp; omega
          go_wp2_with fail
          refine (fr_add (FR.out.below HB4.out) (follow base acc e) (by omega)).mono ?_
          rintro r w5 ⟨rfl, h5⟩
          rw [HE.out]
          rw [HT.out] at h5
          have F5 := Lib.hid h5
          clear h5
          go_wp2_with fail
          all_goals
            go_roundw
            case rel => exact ⟨m + 1, acc ++ [follow base acc e], by go_num, by simp, by omega, by simp; omega, F5.out, by rw [← BF.out, HDR.out]; simp only [builtFrom]; rw [HT.out, if_neg (by simp; omega)]⟩
            case measure => simp [intOf]; omega
      · have HT : Hid (addTo base acc (follow base acc e) = acc) := by unfold addTo; rw [hE]; rfl
        have HE := Lib.hid hE
        unfold badE at hok
        have j1 : ¬ e.count < 1 := by omega
        have j2 : ¬ 256 < e.count := by omega
        have j3 : ¬ e.size < 1 := by omega
        have j4 : ¬ 36000 < e.size := by omega
        clear hok hE
        have hb2 : base < 0 ∨ (0 ≤ base ∧ 1099511627776 ≤ base) := by omega
        clear hnb
        rcases hb2 with hb2 | ⟨hb2, hb3⟩
        all_goals
          go_wp2_with fail
          refine (fr_add (FR.out.below HB4.out) (follow base acc e) (by omega)).mono ?_
          rintro r w5 ⟨rfl, h5⟩
          rw [HE.out]
          rw [HT.out] at h5
          have F5 := Lib.hid h5
          clear h5
          go_wp2_with fail
          go_roundw
          case rel => exact ⟨m + 1, acc, by go_num, rfl, by omega, hal, F5.out, by rw [← BF.out, HDR.out]; simp only [builtFrom]; rw [HT.out, if_neg (by omega)]⟩
          case measure => simp [intOf]; omega
    · have hmn2 : m = n := by omega
      subst hmn2
      go_wp2_with fail
      go_ret2
      refine ⟨g, ?_, ?_⟩
      · rw [← BF.out, List.drop_eq_nil_of_le (by rw [HN.out]; omega)]; rfl
      · rw [← BF.out, List.drop_eq_nil_of_le (by rw [HN.out]; omega)]; exact FR.out
end Go.Proofs.Ytomlhedichdkkaa
