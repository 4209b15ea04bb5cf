/- Fold in both texts. -/
import Derived.Test.YtjiblegnknhghaaDoorTopic
import Derived.Test.YtjiblegnknhghaaDoorFoldP
import Derived.Test.YtjiblegnknhghaaDoorShelf
import Derived.Lib.AppendIntMem
namespace Go.Proofs.YtjiblegnknhghaaDoor
open Go Go.RowKit
set_option linter.unusedVariables false

/-- What the library's code reads of its own variables. -/
structure LibOk (w : World) : Prop where
  tab : Lib.TabIs Tryd.prog w "internal/strconv.uint64pow10" .u64 Lib.pow10Tab
  max : ∃ m : Int, w.cell? ⟨0, 0, none⟩ = some (.int .i64 m)
theorem LibOk.below {w w' : World} (h : LibOk w) (hb : Below w.heap.size w w') : LibOk w' := by
  obtain ⟨m, hm⟩ := h.max
  have hl : 0 < w.heap.size := World.block_lt_of_cell? w _ hm
  exact ⟨(Lib.tabBelow_of_tabIs h.tab) w' hb, m, (hb.cell (p := ⟨0, 0, none⟩) hl).trans hm⟩

/-- The first k bytes folded. -/
def foldK (s : ByteArray) (k : Nat) : ByteArray := ⟨((s.data.toList.take k).map sub1).toArray⟩
def foldS (s : ByteArray) : ByteArray := ⟨(s.data.toList.map sub1).toArray⟩
theorem foldK_all (s : ByteArray) : foldK s s.size = foldS s := by
  unfold foldK foldS
  rw [List.take_of_length_le (by simp)]
theorem foldK_zero (s : ByteArray) : foldK s 0 = ByteArray.empty := rfl
theorem foldK_size (s : ByteArray) (k : Nat) (h : k ≤ s.size) : (foldK s k).size = k := by
  show (((s.data.toList.take k).map sub1).toArray).size = k
  simp
  omega
theorem foldK_succ (s : ByteArray) (k : Nat) (h : k < s.size) : foldK s (k + 1) = (foldK s k).push (sub1 (s.get! k)) := by
  have hl := get_at_data s k h
  have ht : s.data.toList.take (k + 1) = s.data.toList.take k ++ [s.get! k] := by
    rw [List.take_add_one, hl]; rfl
  unfold foldK
  rw [ht, List.map_append]
  simp [ByteArray.push]

/-- What Fold answers. -/
def foldAns (s : ByteArray) : Value := .tuple #[.string (if topicE s = 0 then foldS s else ByteArray.empty), .int .i64 (topicE s : Nat)]
theorem topic_short {s : ByteArray} (h : topicE s = 0) : s.size ≤ 64 := by
  unfold topicE at h
  split at h
  · cases h
  · split at h
    · cases h
    · omega

set_option maxRecDepth 100000 in
set_option maxHeartbeats 1000000 in
theorem fold_any (s : ByteArray) (w : World) (hm : s.size ≤ 140737488351232) (hl : LibOk w) : Calls Tryd.prog 12 #[.string s] w fun r w' => r = .returned (foldAns s) ∧ Below w.heap.size w w' := by
  have HL := Lib.hid hl
  have HT := Lib.hid (topic_any s w hm)
  clear hl
  by_cases he : topicE s = 0
  · have HE := Lib.hid he
    have hsz := topic_short he
    have hr := fun (W : World) (m : Int) (hW : W.cell? ⟨0, 0, none⟩ = some (.int .i64 m)) => Tryd.strings_ReplaceAll s ⟨#[46]⟩ ⟨#[95]⟩ m W (by omega) hW (by decide) (by
      have := Lib.countB_le ⟨#[46]⟩ (by decide) s.size s (Nat.le_refl _)
      have h1 : (⟨#[95]⟩ : ByteArray).size = 1 := rfl
      rw [h1]
      omega)
    have HR := Lib.hid hr
    have HA := Lib.hid (show foldAns s = .tuple #[.string (foldS s), .int .i64 0] by unfold foldAns; rw [if_pos he, he]; rfl)
    clear hr he
    go_enter Tryd.func12, Tryd.ntmps12
    go_wp2_with fail
    refine HT.out.mono ?_
    rintro r w1 ⟨rfl, h1⟩
    rw [HE.out]
    obtain ⟨m, hmx⟩ := (HL.out.below h1).max
    have HM := Lib.hid hmx
    have B1 := Lib.hid h1
    clear h1 hmx
    go_wp2_with fail
    refine (HR.out w1 m HM.out).mono ?_
    rintro r w2 ⟨rfl, h2⟩
    have B2 : Hid (Below w.heap.size w w2) := B1.out.trans (h2.mono B1.out.size)
    clear h2
    go_wp2_with fail
    go_ret2
    refine ⟨?_, B2.out⟩
    rw [HA.out]
    have e : Lib.replaceAll s.data.toList [46] [95] = s.data.toList.map sub1 := replaceAll_dot _
    show Ending.returned (.tuple #[.string ⟨(Lib.replaceAll s.data.toList [46] [95]).toArray⟩, .int .i64 0]) = _
    rw [e]
    rfl
  · have HE := Lib.hid he
    have hne : (((topicE s : Nat) : Int) != 0) = true := by rw [bne_iff_ne]; omega
    have HA := Lib.hid (show foldAns s = .tuple #[.string ByteArray.empty, .int .i64 (topicE s : Nat)] by unfold foldAns; rw [if_neg he])
    clear he
    go_enter Tryd.func12, Tryd.ntmps12
    go_wp2_with fail
    refine HT.out.mono ?_
    rintro r w1 ⟨rfl, h1⟩
    have B1 := Lib.hid h1
    clear h1
    go_wp2_with fail
    go_ret2
    exact ⟨by rw [HA.out]; rfl, B1.out⟩

set_option maxRecDepth 100000 in
set_option maxHeartbeats 1000000 in
theorem rfold_any (s : ByteArray) (w : World) (hm : s.size ≤ 140737488351232) : Calls Tryd.prog 13 #[.string s] w fun r w' => r = .returned (foldAns s) ∧ Below w.heap.size w w' := by
  have HT := Lib.hid (rtopic_any s w hm)
  by_cases he : topicE s = 0
  · have HE := Lib.hid he
    have hsz := topic_short he
    have HA := Lib.hid (show foldAns s = .tuple #[.string (foldS s), .int .i64 0] by unfold foldAns; rw [if_pos he, he]; rfl)
    clear he
    go_enter Tryd.func13, Tryd.ntmps13
    go_wp2_with fail
    refine HT.out.mono ?_
    rintro r w1 ⟨rfl, rfl⟩
    rw [HE.out]
    go_wp2_with fail
    go_loopw [5, 6] (fun v i wr => ∃ k : Nat, k ≤ s.size ∧ i = .int .i64 (k : Int) ∧ OB wr w.heap.size v (foldK s k) ∧ Below w.heap.size w wr) (fun _ i _ => s.size - (intOf i).toNat)
    case atStart => exact ⟨0, by omega, rfl, by rw [foldK_zero]; exact OB.nil w, (Below.refl _ _).alloc (Nat.le_refl _) _⟩
    case round =>
      obtain ⟨k, hk, rfl, hown, hb⟩ := hrel
      by_cases hp : k < s.size
      · have HF := Lib.hid (foldK_size s k hk)
        have HS := Lib.hid (foldK_succ s k hp)
        have hgb := get_bat s k hp
        have hge : s.get! k = s[k]'hp := by simp [ByteArray.get!, getElem!_pos, hp]; rfl
        by_cases h46 : bat s k = 46
        · have hq : (((s[k]'hp).toNat : Int) == 46) = true := by rw [hgb, h46]; rfl
          have hsub : sub1 (s.get! k) = 95 := by
            have : s.get! k = 46 := UInt8.toNat_inj.1 h46
            rw [this]; rfl
          have HSUB := Lib.hid hsub
          clear hgb hge hsub
          go_wp2_with (at_builtin; refine wpList_push rfl _ _ rfl _ _ _ _ _ 95 rfl rfl rfl hown hb.size (by rw [HF.out]; omega) ?_; intro v1 w1 hown1 hb1)
          go_roundw
          case rel => exact ⟨k + 1, by omega, by go_num, by rw [HS.out, HSUB.out]; exact hown1, hb.trans hb1⟩
          case measure => simp [intOf]; omega
        · have hq : (((s[k]'hp).toNat : Int) == 46) = false := by rw [hgb, beq_eq_false_iff_ne]; omega
          have hsub : sub1 (s.get! k) = s.get! k := by
            unfold sub1
            rw [if_neg (fun h => h46 (by unfold bat; rw [h]; rfl))]
          have HSUB := Lib.hid hsub
          have HGE := Lib.hid hge
          clear hgb hge hsub
          go_wp2_with (at_builtin; refine wpList_push rfl _ _ rfl _ _ _ _ _ (s.get! k) rfl rfl (by rw [HGE.out]; rfl) hown hb.size (by rw [HF.out]; omega) ?_; intro v1 w1 hown1 hb1)
          go_roundw
          case rel => exact ⟨k + 1, by omega, by go_num, by rw [HS.out, HSUB.out]; exact hown1, hb.trans hb1⟩
          case measure => simp [intOf]; omega
      · have hks : k = s.size := by omega
        subst hks
        rw [foldK_all] at hown
        obtain ⟨A, c, rfl, hrb⟩ := hown.form
        have hcv := run_string (P := Tryd.prog) hrb c 49 5 9 Tryd.underlying49 Tryd.underlying5 Tryd.underlying9
        have HB := Lib.hid hb
        clear hown hrb hb
        go_wp2_with fail
        go_ret2
        exact ⟨by rw [HA.out]; rfl, HB.out⟩
  · have HE := Lib.hid he
    have hne : (((topicE s : Nat) : Int) != 0) = true := by rw [bne_iff_ne]; omega
    have HA := Lib.hid (show foldAns s = .tuple #[.string ByteArray.empty, .int .i64 (topicE s : Nat)] by unfold foldAns; rw [if_neg he])
    clear he
    go_enter Tryd.func13, Tryd.ntmps13
    go_wp2_with fail
    refine HT.out.mono ?_
    rintro r w1 ⟨rfl, rfl⟩
    go_wp2_with fail
    go_ret2
    exact ⟨by rw [HA.out]; rfl, Below.refl _ _⟩
end Go.Proofs.YtjiblegnknhghaaDoor
