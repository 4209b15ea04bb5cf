/- LbBase, LbPlain, LbUtf, LbChar, LbRefD, LbRunesD as one text (a claim holds at most 60 files). -/
import Derived.Test.YtciikcmiiebfpaaGreatDoorChecked
import Derived.WalkKit
import Derived.WalkLawsBesides
import Derived.WalkSpells
import Derived.BigQuiet
import Derived.Deep.QuietTactic
import Derived.Deep.LoopGhost
import Derived.Deep.DeepMust
import Derived.Lib.Hide
import Derived.Lib.ConvBytes
import Derived.Laws.BytesArg
import GoSem.Core.Utf8
import Derived.Lib.Strings
import Derived.Lib.IndexBytes

/- LbBase -/
section
/- Words for what a call finds in memory and leaves: a slice that reads as a list of cells; a slice of bytes. Conditions: none. -/
namespace Go.Proofs.YtciikcmiiebfpaaGreatDoor.Lb
open Go Go.RowKit

theorem add_block (a : Addr) (n : Nat) : (a.add n).block = a.block := by unfold Addr.add; split <;> rfl

/-- The cells from an address on read as the list. -/
def At (w : World) (a : Addr) (xs : List Value) : Prop := ∀ j u, xs[j]? = some u → w.cell? (a.add j) = some u

/-- A slice's address and length read as the list of cells (`sz` cells an element), all in blocks that are there. -/
def Rd (w : World) (sz : Nat) (A : Option Addr) (n : Nat) (xs : List Value) : Prop :=
  xs.length = n * sz ∧ (0 < n → ∃ a, A = some a ∧ a.block < w.heap.size ∧ At w a xs)

theorem Rd.below {w w' : World} {sz n : Nat} {A : Option Addr} {xs : List Value} (h : Rd w sz A n xs) (hb : Below w.heap.size w w') : Rd w' sz A n xs :=
  ⟨h.1, fun hn => by
    obtain ⟨a, e, hl, hc⟩ := h.2 hn
    exact ⟨a, e, Nat.lt_of_lt_of_le hl hb.size, fun j u hu => (hb.cell (by rw [add_block]; exact hl)).trans (hc j u hu)⟩⟩

/-- A byte as a cell holds it. -/
def bv (b : UInt8) : Value := .int .u8 (b.toNat : Int)
def bvs (s : ByteArray) : List Value := s.data.toList.map bv
theorem bvs_length (s : ByteArray) : (bvs s).length = s.size := by simp [bvs]
theorem bvs_get (s : ByteArray) (i : Nat) (h : i < s.size) : (bvs s)[i]? = some (bv (s.get! i)) := by
  have e : s.get! i = s[i]'h := by simp [ByteArray.get!, getElem!_pos, h]; rfl
  rw [e]
  simp [bvs, h]
  rfl

/-- A slice of bytes that reads as the text. -/
def RB (w : World) (A : Option Addr) (s : ByteArray) : Prop := Rd w 1 A s.size (bvs s)

theorem RB.below {w w' : World} {A : Option Addr} {s : ByteArray} (h : RB w A s) (hb : Below w.heap.size w w') : RB w' A s := Rd.below h hb
theorem RB.cell {w : World} {A : Option Addr} {s : ByteArray} (h : RB w A s) {i : Nat} (hi : i < s.size) :
    ∃ a, A = some a ∧ w.cell? (a.add i) = some (.int .u8 ((s.get! i).toNat : Int)) := by
  obtain ⟨a, e, _, hc⟩ := h.2 (by omega)
  exact ⟨a, e, hc i _ (bvs_get s i hi)⟩

theorem strOfNums_bytes (s : ByteArray) : strOfNums (s.data.toList.map fun b => (b.toNat : Int)) = s := by
  unfold strOfNums
  have : (s.data.toList.map fun b => (b.toNat : Int)).map (fun n => UInt8.ofNat n.toNat) = s.data.toList := by
    rw [List.map_map]
    conv => rhs; rw [← List.map_id s.data.toList]
    apply List.map_congr_left
    intro b _
    simp
  rw [this]

/-- 'string(b)'. -/
theorem run_string {P : Program} {w : World} {A : Option Addr} {s : ByteArray} (h : RB w A s) (c : Nat) (src e dst : TypeId) (hs : P.underlying src = some (.slice e)) (he : P.underlying e = some (.int .u8)) (hd : P.underlying dst = some .string) :
    (convert src dst (.slice A s.size c)).run P w = .ok (.string s) w := by
  rcases Nat.eq_zero_or_pos s.size with h0 | h0
  · have hs0 : s = ByteArray.empty := by
      rcases s with ⟨d⟩
      have : d = #[] := Array.eq_empty_of_size_eq_zero h0
      subst this; rfl
    rcases A with _ | a
    · rw [run_convert_bytes_nil w src e hs he _ _ dst hd, hs0]
    · rw [run_convert_bytes_string w src dst e _ _ c hs he hd, h0]
      have := run_bytesToString (P := P) w a 0 c [] (by simp [loadCells, loadCellsFrom])
      rw [this, hs0]
      rfl
  · obtain ⟨a, rfl, _, hc⟩ := h.2 h0
    have hl : (loadCells a s.size).run P w = .ok ((s.data.toList.map fun b => (b.toNat : Int)).map (Value.int .u8)).toArray w := by
      have := run_loadCells_list (P := P) w a (bvs s) hc
      rw [bvs_length] at this
      rw [this]
      simp [bvs, bv, List.map_map]
    have e : ∀ xs : List Int, (⟨ByteArray.empty.data ++ (xs.map fun n => UInt8.ofNat n.toNat).toArray⟩ : ByteArray) = strOfNums xs := by
      intro xs
      simp [strOfNums, ByteArray.empty, ByteArray.emptyWithCapacity]
      rfl
    rw [run_convert_bytes_string w src dst _ _ _ c hs he hd, run_bytesToString w a s.size c _ hl, foldl_push_bytes, e, strOfNums_bytes]
end Go.Proofs.YtciikcmiiebfpaaGreatDoor.Lb
end

/- LbPlain -/
section
/- Plain facts: the model's way of reading one character of a text, against the document's bytes. -/
namespace Go.Proofs.YtciikcmiiebfpaaGreatDoor.Lb
open Go

/-- A byte of a text, as a number (0 behind the end). -/
def bat (s : ByteArray) (i : Nat) : Nat := (s.get! i).toNat
theorem bat_lt (s : ByteArray) (i : Nat) : bat s i < 256 := (s.get! i).toNat_lt

def decN (a b c d : Nat) (x y z : Bool) : Nat × Nat :=
  if a < 0x80 then (a, 1)
  else if a / 32 == 6 && (x && b / 64 == 2) then
    if (a % 32) * 64 + b % 64 ≥ 0x80 then ((a % 32) * 64 + b % 64, 2) else (65533, 1)
  else if a / 16 == 14 && (x && b / 64 == 2) && (y && c / 64 == 2) then
    if (a % 16) * 4096 + (b % 64) * 64 + c % 64 ≥ 0x800 && Utf8.valid (((a % 16) * 4096 + (b % 64) * 64 + c % 64 : Nat) : Int) then ((a % 16) * 4096 + (b % 64) * 64 + c % 64, 3) else (65533, 1)
  else if a / 8 == 30 && (x && b / 64 == 2) && (y && c / 64 == 2) && (z && d / 64 == 2) then
    if (a % 8) * 262144 + (b % 64) * 4096 + (c % 64) * 64 + d % 64 ≥ 0x10000 && Utf8.valid (((a % 8) * 262144 + (b % 64) * 4096 + (c % 64) * 64 + d % 64 : Nat) : Int) then ((a % 8) * 262144 + (b % 64) * 4096 + (c % 64) * 64 + d % 64, 4) else (65533, 1)
  else (65533, 1)

theorem decode_decN (s : ByteArray) (i : Nat) : Utf8.decode s i = decN (bat s i) (bat s (i + 1)) (bat s (i + 2)) (bat s (i + 3)) (decide (i + 1 < s.size)) (decide (i + 2 < s.size)) (decide (i + 3 < s.size)) := rfl

end Go.Proofs.YtciikcmiiebfpaaGreatDoor.Lb
end

/- LbUtf -/
section
/- The walks of the label package's Utf and Runes, and of the document's. -/
namespace Go.Proofs.YtciikcmiiebfpaaGreatDoor.Lb
open Go Go.RowKit

/-- Does the text begin so? -/
def pre (s p : ByteArray) : Bool := decide (p.size ≤ s.size) && ((s.extract 0 p.size).toList == p.toList)

theorem get_at_data (s : ByteArray) (k : Nat) (h : k < s.size) : s.data.toList[k]? = some (s.get! k) := by
  have e : s.get! k = s[k]'h := by simp [ByteArray.get!, getElem!_pos, h]; rfl
  rw [e, Array.getElem?_toList, Array.getElem?_eq_getElem h]
  rfl

end Go.Proofs.YtciikcmiiebfpaaGreatDoor.Lb
end

/- LbChar -/
section
/- The walks of the document's within, Char and Utf: Utf answers the first place at which no character begins. -/
namespace Go.Proofs.YtciikcmiiebfpaaGreatDoor.Lb
open Go Go.RowKit

theorem RB.bat {w : World} {A : Option Addr} {s : ByteArray} (h : RB w A s) {i : Nat} (hi : i < s.size) :
    ∃ a, A = some a ∧ w.cell? (a.add i) = some (.int .u8 ((bat s i : Nat) : Int)) := h.cell hi

section more
variable (a : Addr) (c : Nat) (s : ByteArray) (i n : Nat) (w : World) (hs : RB w (some a) s) (h : i < s.size) (hm : s.size ≤ 140737488351232) (hc : w.cell? (a.add i) = some (.int .u8 (n : Int)))
include hs h hm hc
end more

end Go.Proofs.YtciikcmiiebfpaaGreatDoor.Lb
end

/- LbRefD -/
section
/- The walks of the document's Utf, and of the helpers Copy, Same, Wide, Intact. -/
namespace Go.Proofs.YtciikcmiiebfpaaGreatDoor.Lb
open Go Go.RowKit

theorem u8_info : (Tryz.prog.info? 5).map (fun i => (i.zero, i.size, i.bytes)) = some (some (.int .u8 0), 1, 1) := by kernel_rfl

/-- A row of bytes of the call's own. -/
def OB (w : World) (B : Nat) (v : Value) (s : ByteArray) : Prop := w.ownsRow B 5 1 v s.size (bvs s)

theorem bvs_push (s : ByteArray) (b : UInt8) : bvs (s.push b) = bvs s ++ [bv b] := by simp only [bvs, ByteArray.push, Array.toList_push, List.map_append, List.map_cons, List.map_nil]
theorem size_push (s : ByteArray) (b : UInt8) : (s.push b).size = s.size + 1 := by simp only [ByteArray.push, ByteArray.size, Array.size_push]

theorem OB.push {w : World} {B : Nat} {v : Value} {s : ByteArray} {b : UInt8} (h : w.ownsRow B 5 1 v (s.size + 1) (bvs s ++ [.int .u8 (b.toNat : Int)])) : OB w B v (s.push b) := by
  unfold OB
  rw [bvs_push, size_push]
  exact h

theorem OB.rb {w : World} {B : Nat} {A : Option Addr} {c n : Nat} {s : ByteArray} (h : OB w B (.slice A n c) s) : n = s.size ∧ RB w A s := by
  unfold OB at h
  rcases h.2 with ⟨hv, hn⟩ | ⟨g, cap, cur, hv, hg, hh, hnc, hcm, hsz, ht⟩
  · injection hv with e1 e2 e3
    refine ⟨by rw [e2, hn], by rw [bvs_length]; omega, fun hp => by omega⟩
  · have e := hv
    injection e with e1 e2 e3
    subst e1
    refine ⟨e2, by rw [bvs_length]; omega, fun hp => ⟨_, rfl, ?_, ?_⟩⟩
    · exact (Array.getElem?_eq_some_iff.1 hh).1
    · exact World.ownsRow.cells (g := g) h rfl

/-- A slice of the call's own is a slice. -/
theorem OB.form {w : World} {B : Nat} {v : Value} {s : ByteArray} (h : OB w B v s) : ∃ A c, v = .slice A s.size c ∧ RB w A s := by
  have h0 := h
  unfold OB at h
  rcases h.2 with ⟨hv, hn⟩ | ⟨g, cap, cur, hv, hg, hh, hnc, hcm, hsz, ht⟩
  · subst hv
    exact ⟨none, 0, by rw [hn], (OB.rb h0).2⟩
  · subst hv
    exact ⟨_, cap, rfl, (OB.rb h0).2⟩

theorem OB.lt {w : World} {B : Nat} {v : Value} {s : ByteArray} (h : OB w B v s) : ∀ k, v.ownBlock = some k → B ≤ k := fun k hk => (World.ownsRow.lt h k hk).1

theorem bv_oneCell (n : Int) : ∀ u ∈ [Value.int .u8 n], u.oneCell' = true := by
  intro u hu
  simp at hu
  subst hu
  rfl

theorem OB.nil (w : World) : OB (w.alloc (.cells #[] 5)) w.heap.size (.slice (some ⟨w.heap.size, 0, none⟩) 0 0) ByteArray.empty := by
  unfold OB
  have := World.ownsRow_made (base := w.heap.size) (e := 5) (size := 1) w #[] 0 (Nat.le_refl _) (by simp [maxLen]) (by simp)
  simpa [bvs] using this

theorem grown_below {B : Nat} {w w' : World} {row : Option Nat} (o : Obj) (hg : (w.alloc o).grownBy w' row) (hB : B ≤ w.heap.size) (hr : ∀ k, row = some k → B ≤ k) : Below B w w' :=
  ((Below.refl B w).alloc hB o).grown hg (by simp; omega) hr

/-- 'out = append(out, b)' of one byte, out the call's own. -/
theorem wpList_push {ops : Array Oper} {rest : List Oper} {o : Oper} {a : Act} {Q : Exit → Act → World → Prop} (hgd : o.guard = none) (x y : Operand)
    (ho : o.op = .call { callee := .builtin .append, args := #[x, y], argTypes := #[51, 51] })
    (w : World) (B : Nat) (v : Value) (t : ByteArray) (val : Value) (b : UInt8) (hx : a.eval x = v) (hy : a.eval y = .slice (some ⟨w.heap.size, 0, none⟩) 1 1) (hv : val = bv b)
    (hown : OB w B v t) (hB : B ≤ w.heap.size) (hm : t.size < 140737488355328)
    (h : ∀ v' w', OB w' B v' (t.push b) → Below B w w' → wpList Tryz.prog ops Q rest (a.put o.dst v') w') : wpList Tryz.prog ops Q (o :: rest) a (w.alloc (.cells #[val] 5)) := by
  obtain ⟨i0, hi, hz0, hz1, hz2⟩ := info_parts u8_info
  subst hv
  refine wpList_append_own _ hgd x y 51 ho B 5 i0 (.int .u8 0) 1 1 Tryz.underlying51 hi hz0 hz1 hz2 rfl (by decide) v t.size (bvs t) hx (World.ownsRow.alloc hown _) ⟨w.heap.size, 0, none⟩ 1 1 [bv b] hy rfl (cell_one_new _ _ _) (bv_oneCell _)
    (by simp only [maxLen]; omega) (by omega) (by simp; omega) ?_
  intro v' w' h1 h2 _
  exact h v' w' (OB.push h1) (grown_below _ h2 hB (fun k hk => OB.lt hown k hk))
end Go.Proofs.YtciikcmiiebfpaaGreatDoor.Lb
end

/- LbRunesD -/
section
/- The number of characters: plain facts, and the walks of Runes in both texts. -/
namespace Go.Proofs.YtciikcmiiebfpaaGreatDoor.Lb
open Go Go.RowKit

end Go.Proofs.YtciikcmiiebfpaaGreatDoor.Lb
end
