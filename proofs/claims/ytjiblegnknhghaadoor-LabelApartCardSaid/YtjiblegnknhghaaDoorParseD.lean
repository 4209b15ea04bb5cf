/- strconv.ParseInt and strings.CutSuffix, in the shape in which the walks want them. -/
import Derived.Test.YtjiblegnknhghaaDoorNumber
namespace Go.Proofs.YtjiblegnknhghaaDoor
open Go Go.RowKit
set_option linter.unusedVariables false

/-- The two variables that hold strconv's errors: each some error. -/
structure ErrOk (w : World) : Prop where
  e1 : ∃ e, w.cell? ⟨1, 0, none⟩ = some e ∧ (e = .nilIface ∨ ∃ te pe, e = .iface te pe)
  e2 : ∃ e, w.cell? ⟨2, 0, none⟩ = some e ∧ (e = .nilIface ∨ ∃ te pe, e = .iface te pe)
theorem ErrOk.below {w w' : World} (h : ErrOk w) (hb : Below w.heap.size w w') : ErrOk w' := by
  obtain ⟨e1, c1, f1⟩ := h.e1
  obtain ⟨e2, c2, f2⟩ := h.e2
  have l1 : 1 < w.heap.size := World.block_lt_of_cell? w _ c1
  have l2 : 2 < w.heap.size := World.block_lt_of_cell? w _ c2
  exact ⟨⟨e1, (hb.cell (p := ⟨1, 0, none⟩) l1).trans c1, f1⟩, ⟨e2, (hb.cell (p := ⟨2, 0, none⟩) l2).trans c2, f2⟩⟩

theorem bytes_below (w : World) (t : TypeId) (s : ByteArray) : Below w.heap.size w (Lib.bytesWorld w t s) := ⟨rfl, rfl, rfl, by rw [Lib.bytesWorld_size]; omega, fun k hk => Lib.bytesWorld_at_old w _ s k hk⟩

theorem p64_ok (s : ByteArray) (hs : s.size ≤ 140737488351232) (v : Int) (h : Lib.parseIntB 64 s.data.toList = .ok v) (w : World) :
    Calls Tryd.prog 34 #[.string s, .int .i64 10, .int .i64 64] w fun r w' => r = .returned (.tuple #[.int .i64 v, .nilIface]) ∧ Below w.heap.size w w' := by
  refine (Tryd.strconv_ParseInt_10_at64_ok s (by omega) v h w).mono ?_
  rintro r w' ⟨rfl, rfl | ⟨t, rfl⟩⟩
  · exact ⟨rfl, Below.refl _ _⟩
  · exact ⟨rfl, bytes_below _ _ _⟩
theorem p32_ok (s : ByteArray) (hs : s.size ≤ 140737488351232) (v : Int) (h : Lib.parseIntB 32 s.data.toList = .ok v) (w : World) :
    Calls Tryd.prog 34 #[.string s, .int .i64 10, .int .i64 32] w fun r w' => r = .returned (.tuple #[.int .i64 v, .nilIface]) ∧ Below w.heap.size w w' := by
  refine (Tryd.strconv_ParseInt_10_at32_ok s (by omega) v h w).mono ?_
  rintro r w' ⟨rfl, rfl | ⟨t, rfl⟩⟩
  · exact ⟨rfl, Below.refl _ _⟩
  · exact ⟨rfl, bytes_below _ _ _⟩
theorem p64_bad (s : ByteArray) (hs : s.size ≤ 140737488351232) (h : ∀ v, Lib.parseIntB 64 s.data.toList ≠ .ok v) (w : World) (he : ErrOk w) :
    Calls Tryd.prog 34 #[.string s, .int .i64 10, .int .i64 64] w fun r w' => ∃ n N, r = .returned (.tuple #[.int .i64 n, .iface 91 (.pointer (some ⟨N, 0, none⟩))]) ∧ Below w.heap.size w w' := by
  obtain ⟨e1, c1, f1⟩ := he.e1
  obtain ⟨e2, c2, f2⟩ := he.e2
  exact Tryd.strconv_ParseInt_10_at64_bad s (by omega) h e1 e2 w c1 f1 c2 f2
theorem p32_bad (s : ByteArray) (hs : s.size ≤ 140737488351232) (h : ∀ v, Lib.parseIntB 32 s.data.toList ≠ .ok v) (w : World) (he : ErrOk w) :
    Calls Tryd.prog 34 #[.string s, .int .i64 10, .int .i64 32] w fun r w' => ∃ n N, r = .returned (.tuple #[.int .i64 n, .iface 91 (.pointer (some ⟨N, 0, none⟩))]) ∧ Below w.heap.size w w' := by
  obtain ⟨e1, c1, f1⟩ := he.e1
  obtain ⟨e2, c2, f2⟩ := he.e2
  exact Tryd.strconv_ParseInt_10_at32_bad s (by omega) h e1 e2 w c1 f1 c2 f2

theorem p_range (B : Nat) (hB : B ≤ 64) (h1 : 1 ≤ B) (l : List UInt8) (v : Int) (h : Lib.parseIntB B l = .ok v) : -(2 ^ (B - 1) : Nat) ≤ v ∧ v < (2 ^ (B - 1) : Nat) := by
  have hp : 0 < 2 ^ (B - 1) := Nat.two_pow_pos _
  unfold Lib.parseIntB at h
  generalize 2 ^ (B - 1) = M at *
  split at h
  · cases h
  · split at h
    · cases h
    · cases h
    · rename_i u hu
      simp only at h
      split at h
      · cases h
      · split at h
        · cases h
        · injection h with h
          split at h <;> (subst h; rename_i a b c; omega)

/-- A segment's file's name, read: its base. -/
def ufN (s : ByteArray) : Option Nat :=
  match refNum 4611686018427387904 0 (s.data.toList.take 20) with
  | none => none
  | some n => if s.data.toList = dec n 20 ++ logB then some n else none
def ufAns (s : ByteArray) : Value := match ufN s with | some n => .tuple #[.int .i64 (n : Int), .int .i64 0] | none => .tuple #[.int .i64 0, .int .i64 43]
theorem dec20 {n : Nat} (h : n ≤ 4611686018427387904) : (dec n 20).length = 20 := by
  rw [dec_length]
  have := nd19 h
  unfold decLen
  omega
theorem fileS_data (n : Nat) : (fileS n).data.toList = dec n 20 ++ logB := by simp [fileS, strOf]
theorem eq_strOf {s : ByteArray} {l : List UInt8} (h : s.data.toList = l) : s = strOf l := by
  rw [← strOf_data s, h]
theorem refNum_dec20 {n : Nat} (h : n ≤ 4611686018427387904) : refNum 4611686018427387904 0 (dec n 20) = some n := by
  rw [dec_pad n 20 (by have := nd19 h; omega), refNum_zeros _ (by decide), refNum_dec _ _ h]
theorem uf_some {s : ByteArray} {n : Nat} (h : ufN s = some n) : n ≤ 4611686018427387904 ∧ s = fileS n := by
  unfold ufN at h
  split at h
  · cases h
  · rename_i m hm
    split at h
    · rename_i he
      injection h with h
      subst h
      exact ⟨refNum_le _ (by decide) _ _ _ (by decide) hm, eq_strOf he⟩
    · cases h
theorem uf_file {n : Nat} (h : n ≤ 4611686018427387904) : ufN (fileS n) = some n := by
  unfold ufN
  rw [fileS_data, List.take_left' (dec20 h), refNum_dec20 h]
  simp
theorem fileS_size {n : Nat} (h : n ≤ 4611686018427387904) : (fileS n).size = 24 := by
  unfold fileS
  rw [strOf_size, List.length_append, dec20 h]
  rfl
theorem p64_dec20 {n : Nat} (h : n ≤ 4611686018427387904) : Lib.parseIntB 64 (dec n 20) = .ok (n : Int) := by
  rw [dec_pad n 20 (by have := nd19 h; omega)]
  exact parseInt_zeros 64 n _ (by decide) (by decide) (by omega)
end Go.Proofs.YtjiblegnknhghaaDoor
