/- The walks of the label package's Utf and Runes, and of the document's. -/
import Derived.Test.YtjiblegnknhghaaDoorBase
import Derived.Test.YtjiblegnknhghaaDoorPlain
import Derived.Lib.Strings
import Derived.Lib.IndexBytes
namespace Go.Proofs.YtjiblegnknhghaaDoor
open Go Go.RowKit

/-- Does the text begin so? -/
def pre (s p : ByteArray) : Bool := decide (p.size ≤ s.size) && ((s.extract 0 p.size).toList == p.toList)

set_option maxHeartbeats 400000 in
theorem hasPrefix_lite (s p : ByteArray) (w : World) :
    Calls Tryd.prog 69 #[.string s, .string p] w fun e w' => e = .returned (.bool (pre s p)) ∧ w = w' := by
  by_cases h : p.size ≤ s.size
  · have h1 : decide ((p.size : Int) ≤ (s.size : Int)) = true := by simp; omega
    go_enter Tryd.func69, Tryd.ntmps69
    go_wp2
    go_ret
    exact ⟨by simp [pre, h], rfl⟩
  · have h1 : decide ((p.size : Int) ≤ (s.size : Int)) = false := by simp; omega
    go_enter Tryd.func69, Tryd.ntmps69
    go_wp2
    go_ret
    exact ⟨by simp [pre, h], rfl⟩

theorem hasPrefix_any (s p : ByteArray) (w : World) :
    Calls Tryd.prog 48 #[.string s, .string p] w fun e w' => e = .returned (.bool (pre s p)) ∧ w = w' := by
  go_enter Tryd.func48, Tryd.ntmps48
  go_wp2_with (go_at_call 69; refine (hasPrefix_lite _ _ _).mono ?_; rintro e w' ⟨rfl, rfl⟩)
  go_ret
  exact ⟨rfl, rfl⟩

/-- The first place where no character begins (or the end), from place i on. -/
def utfGo (s : ByteArray) : Nat → Nat → Nat × Bool
  | 0, i => (i, true)
  | k + 1, i => if i < s.size then (if chr s i = 0 then (i, false) else utfGo s k (i + chr s i)) else (i, true)
def utf (s : ByteArray) : Nat × Bool := utfGo s s.size 0

theorem get_at_data (s : ByteArray) (k : Nat) (h : k < s.size) : s.data.toList[k]? = some (s.get! k) := by
  have e : s.get! k = s[k]'h := by simp [ByteArray.get!, getElem!_pos, h]; rfl
  rw [e, Array.getElem?_toList, Array.getElem?_eq_getElem h]
  rfl

theorem take_drop3 (l : List UInt8) (i : Nat) (a b c : UInt8) : ((l.drop i).take 3 = [a, b, c]) ↔ (l[i]? = some a ∧ l[i + 1]? = some b ∧ l[i + 2]? = some c) := by
  have h : ∀ m : List UInt8, (m.take 3 = [a, b, c]) ↔ (m[0]? = some a ∧ m[1]? = some b ∧ m[2]? = some c) := by
    intro m
    match m with
    | [] => simp
    | [_] => simp
    | [_, _] => simp
    | x :: y :: z :: m => simp
  rw [h]
  simp

theorem pre_rep (s : ByteArray) (i : Nat) (h : i < s.size) : pre (s.extract i s.size) { data := #[239, 191, 189] } = isRep s i := by
  have hsz : (s.extract i s.size).size = s.size - i := by simp
  have hl : ((s.extract i s.size).extract 0 3).toList = (s.data.toList.drop i).take 3 := by
    rw [Lib.toList_data, ByteArray.data_extract, Array.toList_extract, Lib.extract_to_end]
    simp [List.extract]
  show (decide (3 ≤ (s.extract i s.size).size) && (((s.extract i s.size).extract 0 3).toList == ({ data := #[239, 191, 189] } : ByteArray).toList)) = _
  rw [hsz, hl, Bool.eq_iff_iff, Lib.toList_data]
  have hb : ∀ k : UInt8, ∀ m, (s.get! m = k) ↔ (bat s m = k.toNat) := fun k m => by
    unfold bat
    exact ⟨fun e => by rw [e], fun e => UInt8.toNat_inj.1 e⟩
  simp only [isRep, Bool.and_eq_true, decide_eq_true_eq, beq_iff_eq]
  constructor
  · rintro ⟨h1, h2⟩
    obtain ⟨g0, g1, g2⟩ := (take_drop3 _ _ _ _ _).1 h2
    rw [get_at_data s _ (by omega)] at g0 g1 g2
    exact ⟨by omega, (hb 239 _).1 (by simpa using g0), (hb 191 _).1 (by simpa using g1), (hb 189 _).1 (by simpa using g2)⟩
  · rintro ⟨h1, g0, g1, g2⟩
    refine ⟨by omega, (take_drop3 _ _ _ _ _).2 ⟨?_, ?_, ?_⟩⟩
    · rw [get_at_data s _ (by omega), (hb 239 _).2 g0]
    · rw [get_at_data s _ (by omega), (hb 191 _).2 g1]
    · rw [get_at_data s _ (by omega), (hb 189 _).2 g2]

theorem bytes_ret {a b : Nat} {x y : Bool} (h : a = b) (k : x = y) : Ending.returned (.tuple #[.int .i64 (a : Int), .bool x]) = .returned (.tuple #[.int .i64 (b : Int), .bool y]) := by rw [h, k]

set_option maxRecDepth 100000 in
set_option maxHeartbeats 400000 in
theorem labelUtf_any (A : Option Addr) (c : Nat) (s : ByteArray) (w : World) (hs : RB w A s) (hm : s.size ≤ 140737488351232) :
    Calls Tryd.prog 40 #[.slice A s.size c] w fun e w' => e = .returned (.tuple #[.int .i64 ((utf s).1 : Int), .bool (utf s).2]) ∧ Below w.heap.size w w' := by
  have hcv := run_string (P := Tryd.prog) hs c 49 5 9 Tryd.underlying49 Tryd.underlying5 Tryd.underlying9
  go_enter Tryd.func40, Tryd.ntmps40
  go_wp2
  go_loopw [5] (fun _ w' => ∃ (pos k : Nat), w' = w.iter s pos ∧ pos ≤ s.size ∧ utfGo s k pos = utf s ∧ s.size ≤ pos + k) (fun _ w' => s.size - w'.iterPos w.heap.size)
  case atStart => exact ⟨0, s.size, rfl, by omega, rfl, by omega⟩
  case round =>
    obtain ⟨pos, k, rfl, hpos, hu, hk⟩ := hrel
    have HU := Lib.hid hu
    clear hu
    have HB := Lib.hid (fun p : Nat => ((Below.refl w.heap.size w).alloc (Nat.le_refl _) (.stringIter s p)))
    by_cases hp : pos < s.size
    · have hnx : ∀ ty, (Instr.next (.pointer (some ⟨w.heap.size, 0, none⟩)) true ty).run Tryd.prog (w.iter s pos) = _ := fun ty => run_next_any w s pos ty hp
      have HD := Lib.hid (decode_chr s pos)
      have HL := Lib.hid (chr_le s pos hp)
      have HP := Lib.hid (pre_rep s pos hp)
      obtain ⟨k, rfl⟩ : ∃ m, k = m + 1 := ⟨k - 1, by omega⟩
      go_wp2_with (go_at_call 48; refine (hasPrefix_any _ _ _).mono ?_; rintro e w' ⟨rfl, rfl⟩)
      · have h1 : (((Utf8.decode s pos).1 : Nat) : Int) = 65533 := by assumption
        have h2 : (!pre (s.extract pos s.size) { data := #[239, 191, 189] }) = true := by assumption
        go_ret2
        rw [HP.out] at h2
        have hz : chr s pos = 0 := by
          rcases Nat.eq_zero_or_pos (chr s pos) with h | h
          · exact h
          · have := (HD.out.2 h).1 (by omega)
            rw [this] at h2
            cases h2
        refine ⟨?_, HB.out _⟩
        rw [← HU.out]
        simp [utfGo, hp, hz]
      all_goals
        have hd : (Utf8.decode s pos).2 = chr s pos ∧ 0 < chr s pos := by
          rcases Nat.eq_zero_or_pos (chr s pos) with h | h
          · have h1 := HD.out.1 h
            rw [← HP.out] at h1
            simp_all
          · exact ⟨(HD.out.2 h).2, h⟩
        have hl := HL.out
        go_roundw
        case rel =>
          refine ⟨pos + chr s pos, k, by rw [hd.1], hl.2, ?_, by omega⟩
          rw [← HU.out]
          simp only [utfGo]
          rw [if_pos hp, if_neg (by omega)]
        case measure =>
          rw [World.iterPos_iter, World.iterPos_iter]
          omega
    · have hnx : ∀ ty, (Instr.next (.pointer (some ⟨w.heap.size, 0, none⟩)) true ty).run Tryd.prog (w.iter s pos) = _ := fun ty => run_next_end w s pos ty hp
      go_wp2
      go_ret2
      refine ⟨?_, HB.out _⟩
      rw [← HU.out]
      have : pos = s.size := by omega
      subst this
      cases k <;> simp [utfGo]
end Go.Proofs.YtjiblegnknhghaaDoor
