/- RefT, TopQ as one text (a claim holds at most 60 files). -/
import Derived.Test.YtciikcmiiebfpaaGreatDoorRefC
import Derived.Test.YtciikcmiiebfpaaGreatDoorRefO
import Derived.Test.YtciikcmiiebfpaaGreatDoorPlogA
import Derived.Test.YtciikcmiiebfpaaGreatDoorTopP
import Derived.Test.YtciikcmiiebfpaaGreatDoorPlogO

/- RefT -/
section
/- The reference's Find and Open of topics, where there is no file. -/
namespace Go.Proofs.YtciikcmiiebfpaaGreatDoor
open Go Go.RowKit Go.Maps Go.Proofs.YtciikcmiiebfpaaGreatDoorW.PrintWords Go.Proofs.YtciikcmiiebfpaaGreatDoor.PTopicsGets Go.Proofs.YtciikcmiiebfpaaGreatDoorW.PrintMore
set_option linter.unusedVariables false
set_option linter.unusedSimpArgs false

/-- A part's cells. -/
def ptCells (x : ByteArray × Nat) : List Value := [.string x.1, .int .i32 (x.2 : Int), .string (Lb.dirS x.1 x.2), .int .i64 100, .slice none 0 0, .slice none 0 0, .bool false]
theorem ptCells_get : ∀ (l : List (ByteArray × Nat)) (i : Nat) (x : ByteArray × Nat), l[i]? = some x → ∀ j, j < 7 → (l.flatMap ptCells)[i * 7 + j]? = (ptCells x)[j]?
  | y :: r, 0, x, h, j, hj => by
    obtain rfl : y = x := Option.some.inj h
    rw [List.flatMap_cons, Nat.zero_mul, Nat.zero_add, List.getElem?_append_left (by show j < 7; exact hj)]
  | y :: r, i + 1, x, h, j, hj => by
    rw [List.flatMap_cons, List.getElem?_append_right (by show 7 ≤ _; omega)]
    have := ptCells_get r i x h j hj
    rw [show (i + 1) * 7 + j - (ptCells y).length = i * 7 + j by show _ - 7 = _; omega]
    exact this
def findE (pl : List (ByteArray × Nat)) (s : ByteArray) (p : Int) : Int := if Lb.topicE s = 0 then (if hasPl pl s p then 0 else 230) else 40

set_option maxRecDepth 100000 in
set_option maxHeartbeats 2000000 in
theorem rfind_any {w : World} {B n cp nc cc : Nat} {Ac Ap : Option Addr} {pl : List (ByteArray × Nat)} (h : Ix.Owns w B 78 7 (.slice Ap n cp) pl.length (pl.flatMap ptCells)) (hn : n = pl.length) (hl : pl.length ≤ 1000) (s : ByteArray) (hs : s.size ≤ 140737488351232) (p : Int) :
    Calls Tryz.prog 11 #[.agg #[.slice Ac nc cc, .slice Ap n cp], .string s, .int .i32 p] w fun r w' => (∃ i : Int, r = .returned (.tuple #[.int .i64 i, .int .i64 (findE pl s p)]) ∧ decide (0 ≤ i) = (decide (Lb.topicE s = 0) && hasPl pl s p)) ∧ Below w.heap.size w w' := by
  have HB0 : Hid (Below w.heap.size w (w.alloc (.cells #[.slice Ac nc cc, .slice Ap n cp] 37))) := (Below.refl _ _).alloc (Nat.le_refl _) _
  have HX0 : Hid ((w.alloc (.cells #[.slice Ac nc cc, .slice Ap n cp] 37)).heap[w.heap.size]? = some (.cells #[.slice Ac nc cc, .slice Ap n cp] 37 (0, 0))) := blk_new _ _
  have HT := Lib.hid (fun (W : World) => Lb.rtopic_any s W hs)
  have HO := Lib.hid (Owns_below h HB0.out)
  have HN := Lib.hid hn
  have HL := Lib.hid hl
  clear h hn hl
  by_cases ht : Lb.topicE s = 0
  · have HE : Hid (findE pl s p = if hasPl pl s p then 0 else 230) := by show _ = _; unfold findE; rw [if_pos ht]
    have HTE := Lib.hid ht
    rw [ht] at HT
    go_enter Tryz.func11, Tryz.ntmps11
    go_wp2_with fail
    refine (HT.out _).mono ?_
    rintro r w1 ⟨rfl, rfl⟩
    generalize w.alloc (.cells #[.slice Ac nc cc, .slice Ap n cp] 37) = W0 at *
    go_wp2_with fail
    go_loopw [8] (fun jj wx => ∃ j : Nat, j ≤ n ∧ jj = .int .i64 j ∧ wx = W0 ∧ Hid (hasPl (pl.take j) s p = false)) (fun jj _ => n - (intOf jj).toNat)
    case atStart => exact ⟨0, Nat.zero_le _, rfl, rfl, by show _ = _; rw [List.take_zero]; rfl⟩
    case round =>
      obtain ⟨j, hj, rfl, hwx, HQ⟩ := hrel
      subst hwx
      have q1 : wr.cell? ⟨w.heap.size, 1, none⟩ = some (.slice Ap n cp) := blk_cell HX0.out 1
      by_cases hjn : j < n
      · obtain ⟨x, hx⟩ : ∃ x, pl[j]? = some x := ⟨_, List.getElem?_eq_getElem (by have := HN.out; omega)⟩
        obtain ⟨g, cap, e, _, hgl, hcap, _, hxx⟩ := HO.out.form (by have := HN.out; omega)
        injection e with e1 e2 e3
        subst e1
        have k0 : wr.cell? ⟨g, j * 7, none⟩ = some (.string x.1) := hxx (j * 7) _ (by have := ptCells_get pl j x hx 0 (by decide); rw [Nat.add_zero] at this; rw [this]; rfl)
        have k1 : wr.cell? ⟨g, j * 7 + 1, none⟩ = some (.int .i32 (x.2 : Int)) := hxx (j * 7 + 1) _ (by rw [ptCells_get pl j x hx 1 (by decide)]; rfl)
        have HT2 : Hid (hasPl (pl.take (j + 1)) s p = (x.1.toList == s.toList && decide ((x.2 : Int) = p))) := by
          show _ = _
          have hq := HQ.out
          unfold hasPl at hq ⊢
          rw [List.take_add_one, hx, List.any_append, hq]; simp
        have HM : Hid ((x.1.toList == s.toList && decide ((x.2 : Int) = p)) = true → hasPl pl s p = true) := fun hh => List.any_eq_true.2 ⟨x, List.mem_of_getElem? hx, hh⟩
        clear hx hxx e2 e3
        obtain ⟨nm, pp⟩ := x
        dsimp only at k0 k1 HT2 HM
        have hll := HL.out
        have hnn := HN.out
        obtain ⟨v, hv⟩ : ∃ v, (nm.toList == s.toList) = v := ⟨_, rfl⟩
        rw [hv] at HT2 HM
        cases v with
        | false =>
          go_wp2_with fail
          go_roundw
          case rel => exact ⟨j + 1, by omega, by go_num, by first | rfl | trivial, by show _ = _; rw [HT2.out]; rfl⟩
          case measure => simp [intOf]; omega
        | true =>
          by_cases hpp : (pp : Int) = p
          · have hb : ((pp : Int) == p) = true := by rw [beq_iff_eq]; exact hpp
            have HH : Hid (hasPl pl s p = true) := HM.out (by simp [hpp])
            go_wp2_with fail
            go_ret2
            exact ⟨⟨_, by rw [HE.out, HH.out]; rfl, by rw [HTE.out, HH.out]; simp⟩, HB0.out⟩
          · have hb : ((pp : Int) == p) = false := by rw [beq_eq_false_iff_ne]; exact hpp
            go_wp2_with fail
            go_roundw
            case rel => exact ⟨j + 1, by omega, by go_num, by first | rfl | trivial, by show _ = _; rw [HT2.out]; simp [hpp]⟩
            case measure => simp [intOf]; omega
      · obtain rfl : j = n := by omega
        have HH : Hid (hasPl pl s p = false) := by
          have := HQ.out
          rw [HN.out, List.take_length] at this
          exact this
        go_wp2_with fail
        go_ret2
        exact ⟨⟨_, by rw [HE.out, HH.out]; rfl, by rw [HTE.out, HH.out]; rfl⟩, HB0.out⟩
  · have HE : Hid (findE pl s p = 40) := by show _ = _; unfold findE; rw [if_neg ht]
    have hne : (((Lb.topicE s : Nat) : Int) != 0) = true := by rw [bne_iff_ne]; omega
    have HTE : Hid (decide (Lb.topicE s = 0) = false) := decide_eq_false ht
    go_enter Tryz.func11, Tryz.ntmps11
    go_wp2_with fail
    refine (HT.out _).mono ?_
    rintro r w1 ⟨rfl, rfl⟩
    go_wp2_with fail
    go_ret2
    exact ⟨⟨_, by rw [HE.out]; rfl, by rw [HTE.out]; rfl⟩, HB0.out⟩
end Go.Proofs.YtciikcmiiebfpaaGreatDoor
end

/- TopQ -/
section
/- Plain: the files of a topic's parts can be named. -/
namespace Go.Proofs.YtciikcmiiebfpaaGreatDoor
open Go Go.RowKit Go.Maps Go.Proofs.YtciikcmiiebfpaaGreatDoorW.PrintWords Go.Proofs.YtciikcmiiebfpaaGreatDoor.PTopicsGets
set_option linter.unusedVariables false

theorem dg_good (n k : Nat) : badC (Lib.dg n k) = false := by
  have h : (Lib.dg n k).toNat = 48 + n / 10 ^ k % 10 := by
    unfold Lib.dg
    exact Lb.digit_toNat _ (by omega)
  unfold badC
  simp only [Bool.not_eq_false', Bool.or_eq_true, decide_eq_true_eq, beq_iff_eq, h]
  omega
theorem dec_good (n k : Nat) : (Lb.dec n k).any badC = false := by
  unfold Lb.dec
  rw [List.any_map, List.any_eq_false]
  intro x _
  simp [dg_good]
theorem dig_good (p : Nat) (hp : p < 16) : (Lib.decDigits p).any badC = false ∧ (Lib.decDigits p).length ≤ 2 := by
  refine ⟨by rw [← Lb.dec_one]; exact dec_good p 1, ?_⟩
  rw [Lib.decDigits_length]
  exact Lb.nDigits_le 1 p (by omega)
theorem let_good (c : UInt8) (h : Lb.letN (c.toNat : Int) = true) : badC c = false := by
  unfold Lb.letN at h
  rw [decide_eq_true_eq] at h
  unfold badC
  simp only [Bool.not_eq_false', Bool.or_eq_true, decide_eq_true_eq, beq_iff_eq]
  omega
theorem topic_good {s : ByteArray} (h : Lb.topicE s = 0) : s.data.toList.any badC = false ∧ s.size ≤ 64 := by
  refine ⟨?_, Lb.topic_short h⟩
  unfold Lb.topicE at h
  split at h
  · cases h
  · split at h
    · cases h
    · split at h
      · rename_i hl
        rw [List.any_eq_false]
        intro c hc
        obtain ⟨i, hi, e⟩ := List.getElem_of_mem hc
        have hi' : i < s.size := by rw [Array.length_toList] at hi; exact hi
        unfold Lb.letsB at hl
        rw [List.all_eq_true] at hl
        have h1 := hl i (List.mem_range.2 hi')
        have h2 := let_good (s[i]'hi') (by rw [Lb.get_bat s i hi']; exact h1)
        have h3 : s[i]'hi' = c := by rw [← e]; simp; rfl
        rw [h3] at h2
        simp [h2]
      · cases h
theorem dir_good {s : ByteArray} (h : Lb.topicE s = 0) (p : Nat) (hp : p < 16) : badN (nameS (Lb.dirS s p) 0).data.toList = false ∧ (Lb.dirS s p).size ≤ 1000 := by
  obtain ⟨h1, h2⟩ := topic_good h
  obtain ⟨h3, h4⟩ := dig_good p hp
  have hs : (Lb.dirS s p).size = s.size + 1 + (Lib.decDigits p).length := by
    unfold Lb.dirS
    rw [Lb.strOf_size, List.length_append, Array.length_toList, List.length_cons]
    show s.size + _ = _
    omega
  have hz := nameS_size (Lb.dirS s p) 0 (by decide)
  refine ⟨?_, by omega⟩
  have hl : (nameS (Lb.dirS s p) 0).data.toList.length = (nameS (Lb.dirS s p) 0).size := Array.length_toList
  have hd : (nameS (Lb.dirS s p) 0).data.toList = (s.data.toList ++ 45 :: Lib.decDigits p) ++ [47] ++ (Lb.dec 0 20 ++ Lb.logB) := by
    unfold nameS Lb.dirS Lb.fileS
    simp [Lb.strOf, ByteArray.data_append]
  unfold badN
  rw [Bool.or_eq_false_iff, Bool.or_eq_false_iff]
  refine ⟨⟨?_, ?_⟩, ?_⟩
  · cases hx : (nameS (Lb.dirS s p) 0).data.toList with
    | nil => rw [hx] at hl; simp at hl; omega
    | cons a r => rfl
  · rw [decide_eq_false_iff_not, hl]; omega
  · rw [hd]
    simp only [List.any_append, List.any_cons, h1, h3, dec_good]
    decide
end Go.Proofs.YtciikcmiiebfpaaGreatDoor
end
