/- The walks of the document's Utf, and of the helpers Copy, Same, Wide, Intact. -/
import Derived.Test.YtjiblegnknhghaaDoorChar
namespace Go.Proofs.YtjiblegnknhghaaDoor
open Go Go.RowKit

theorem utfGo_le (s : ByteArray) : ∀ k i, i ≤ s.size → (utfGo s k i).1 ≤ s.size
  | 0, i, h => h
  | k + 1, i, h => by
    unfold utfGo
    split
    · split
      · exact h
      · exact utfGo_le s k _ (chr_le s i ‹_›).2
    · exact h

set_option maxHeartbeats 400000 in
theorem refUtf_any (A : Option Addr) (c : Nat) (s : ByteArray) (w : World) (hs : RB w A s) (hm : s.size ≤ 140737488351232) :
    Calls Tryd.prog 41 #[.slice A s.size c] w fun e w' => e = .returned (.tuple #[.int .i64 ((utf s).1 : Int), .bool (utf s).2]) ∧ w = w' := by
  have HS := Lib.hid hs
  clear hs
  go_enter Tryd.func41, Tryd.ntmps41
  go_wp2
  go_loop [4] (fun v => ∃ (pos k : Nat), v = .int .i64 (pos : Int) ∧ pos ≤ s.size ∧ utfGo s k pos = utf s ∧ s.size ≤ pos + k) (fun v => s.size - (intOf v).toNat)
  case atStart => exact ⟨0, s.size, rfl, by omega, rfl, by omega⟩
  case round =>
    obtain ⟨pos, k, rfl, hpos, hu, hk⟩ := hrel
    have HU := Lib.hid hu
    clear hu
    by_cases hp : pos < s.size
    · have HL := Lib.hid (chr_le s pos hp)
      obtain ⟨k, rfl⟩ : ∃ m, k = m + 1 := ⟨k - 1, by omega⟩
      rcases Nat.eq_zero_or_pos (chr s pos) with hz | hz
      · have HZ := Lib.hid hz
        have hz1 : (((chr s pos : Nat) : Int) == 0) = true := by simp [hz]
        clear hz
        go_wp2_with (go_at_call 57; refine (char_any _ _ _ _ _ HS.out hp hm).mono ?_; rintro e w' ⟨rfl, rfl⟩)
        go_ret2
        refine ⟨?_, rfl⟩
        rw [← HU.out]
        simp [utfGo, hp, HZ.out]
      · have hl1 := HL.out.1
        have hl2 := HL.out.2
        have hz1 : (((chr s pos : Nat) : Int) == 0) = false := by simp; omega
        go_wp2_with (go_at_call 57; refine (char_any _ _ _ _ _ HS.out hp hm).mono ?_; rintro e w' ⟨rfl, rfl⟩)
        go_round
        case rel =>
          refine ⟨pos + chr s pos, k, by go_num, hl2, ?_, by omega⟩
          rw [← HU.out]
          simp only [utfGo]
          rw [if_pos hp, if_neg (by omega)]
        case measure =>
          simp [intOf]
          omega
    · go_wp2
      go_ret2
      refine ⟨?_, rfl⟩
      rw [← HU.out]
      have : pos = s.size := by omega
      subst this
      cases k <;> simp [utfGo]

theorem u8_info : (Tryd.prog.info? 5).map (fun i => (i.zero, i.size, i.bytes)) = some (some (.int .u8 0), 1, 1) := by kernel_rfl

/-- The bytes with one more. -/
theorem take_succ_bytes (s : ByteArray) (k : Nat) (h : k < s.size) : (bvs s).take (k + 1) = (bvs s).take k ++ [bv (s.get! k)] := by
  have hl : k < (bvs s).length := by rw [bvs_length]; exact h
  rw [List.take_succ_eq_append_getElem hl]
  congr 1
  have := bvs_get s k h
  rw [List.getElem?_eq_getElem hl] at this
  injection this with this
  rw [this]

/-- A row of bytes of the call's own. -/
def OB (w : World) (B : Nat) (v : Value) (s : ByteArray) : Prop := w.ownsRow B 5 1 v s.size (bvs s)

theorem bvs_push (s : ByteArray) (b : UInt8) : bvs (s.push b) = bvs s ++ [bv b] := by simp only [bvs, ByteArray.push, Array.toList_push, List.map_append, List.map_cons, List.map_nil]
theorem size_push (s : ByteArray) (b : UInt8) : (s.push b).size = s.size + 1 := by simp only [ByteArray.push, ByteArray.size, Array.size_push]

theorem OB.push {w : World} {B : Nat} {v : Value} {s : ByteArray} {b : UInt8} (h : w.ownsRow B 5 1 v (s.size + 1) (bvs s ++ [.int .u8 (b.toNat : Int)])) : OB w B v (s.push b) := by
  unfold OB
  rw [bvs_push, size_push]
  exact h

theorem OB.rb {w : World} {B : Nat} {A : Option Addr} {c n : Nat} {s : ByteArray} (h : OB w B (.slice A n c) s) : n = s.size ∧ RB w A s := by
  unfold OB at h
  rcases h.2 with ⟨hv, hn⟩ | ⟨g, cap, cur, hv, hg, hh, hnc, hcm, hsz, ht⟩
  · injection hv with e1 e2 e3
    refine ⟨by rw [e2, hn], by rw [bvs_length]; omega, fun hp => by omega⟩
  · have e := hv
    injection e with e1 e2 e3
    subst e1
    refine ⟨e2, by rw [bvs_length]; omega, fun hp => ⟨_, rfl, ?_, ?_⟩⟩
    · exact (Array.getElem?_eq_some_iff.1 hh).1
    · exact World.ownsRow.cells (g := g) h rfl

/-- A slice of the call's own is a slice. -/
theorem OB.form {w : World} {B : Nat} {v : Value} {s : ByteArray} (h : OB w B v s) : ∃ A c, v = .slice A s.size c ∧ RB w A s := by
  have h0 := h
  unfold OB at h
  rcases h.2 with ⟨hv, hn⟩ | ⟨g, cap, cur, hv, hg, hh, hnc, hcm, hsz, ht⟩
  · subst hv
    exact ⟨none, 0, by rw [hn], (OB.rb h0).2⟩
  · subst hv
    exact ⟨_, cap, rfl, (OB.rb h0).2⟩

theorem OB.lt {w : World} {B : Nat} {v : Value} {s : ByteArray} (h : OB w B v s) : ∀ k, v.ownBlock = some k → B ≤ k := fun k hk => (World.ownsRow.lt h k hk).1

theorem bv_oneCell (n : Int) : ∀ u ∈ [Value.int .u8 n], u.oneCell' = true := by
  intro u hu
  simp at hu
  subst hu
  rfl

/-- The first k bytes. -/
def front (s : ByteArray) (k : Nat) : ByteArray := s.extract 0 k
theorem front_size (s : ByteArray) (k : Nat) (h : k ≤ s.size) : (front s k).size = k := by simp [front]; omega
theorem front_all (s : ByteArray) : front s s.size = s := by simp [front]
theorem front_zero (s : ByteArray) : front s 0 = ByteArray.empty := by
  apply ByteArray.ext
  simp [front]
theorem front_succ (s : ByteArray) (k : Nat) (h : k < s.size) : front s (k + 1) = (front s k).push (s.get! k) := by
  have e : s.get! k = s[k]'h := by simp [ByteArray.get!, getElem!_pos, h]; rfl
  rw [e]
  apply ByteArray.ext
  apply Array.toList_inj.1
  rw [show ((front s k).push s[k]).data.toList = (front s k).data.toList ++ [s[k]] by simp [ByteArray.push]]
  simp only [front, ByteArray.data_extract, Array.toList_extract, List.extract_eq_take_drop, List.drop_zero, Nat.sub_zero]
  rw [List.take_succ_eq_append_getElem (by rw [Array.length_toList]; exact h)]
  rfl

theorem OB.nil (w : World) : OB (w.alloc (.cells #[] 5)) w.heap.size (.slice (some ⟨w.heap.size, 0, none⟩) 0 0) ByteArray.empty := by
  unfold OB
  have := World.ownsRow_made (base := w.heap.size) (e := 5) (size := 1) w #[] 0 (Nat.le_refl _) (by simp [maxLen]) (by simp)
  simpa [bvs] using this

theorem grown_below {B : Nat} {w w' : World} {row : Option Nat} (o : Obj) (hg : (w.alloc o).grownBy w' row) (hB : B ≤ w.heap.size) (hr : ∀ k, row = some k → B ≤ k) : Below B w w' :=
  ((Below.refl B w).alloc hB o).grown hg (by simp; omega) hr

/-- 'out = append(out, b)' of one byte, out the call's own. -/
theorem wpList_push {ops : Array Oper} {rest : List Oper} {o : Oper} {a : Act} {Q : Exit → Act → World → Prop} (hgd : o.guard = none) (x y : Operand)
    (ho : o.op = .call { callee := .builtin .append, args := #[x, y], argTypes := #[49, 49] })
    (w : World) (B : Nat) (v : Value) (t : ByteArray) (val : Value) (b : UInt8) (hx : a.eval x = v) (hy : a.eval y = .slice (some ⟨w.heap.size, 0, none⟩) 1 1) (hv : val = bv b)
    (hown : OB w B v t) (hB : B ≤ w.heap.size) (hm : t.size < 140737488355328)
    (h : ∀ v' w', OB w' B v' (t.push b) → Below B w w' → wpList Tryd.prog ops Q rest (a.put o.dst v') w') : wpList Tryd.prog ops Q (o :: rest) a (w.alloc (.cells #[val] 5)) := by
  obtain ⟨i0, hi, hz0, hz1, hz2⟩ := info_parts u8_info
  subst hv
  refine wpList_append_own _ hgd x y 49 ho B 5 i0 (.int .u8 0) 1 1 Tryd.underlying49 hi hz0 hz1 hz2 rfl (by decide) v t.size (bvs t) hx (World.ownsRow.alloc hown _) ⟨w.heap.size, 0, none⟩ 1 1 [bv b] hy rfl (cell_one_new _ _ _) (bv_oneCell _)
    (by simp only [maxLen]; omega) (by omega) (by simp; omega) ?_
  intro v' w' h1 h2 _
  exact h v' w' (OB.push h1) (grown_below _ h2 hB (fun k hk => OB.lt hown k hk))
end Go.Proofs.YtjiblegnknhghaaDoor
