/- Words for what a call finds in memory and leaves: a slice that reads as a list of cells; a slice of bytes. Conditions: none. -/
import Derived.Test.YtjiblegnknhghaaDoorChecked
import Derived.WalkKit
import Derived.WalkLawsBesides
import Derived.WalkSpells
import Derived.BigQuiet
import Derived.Deep.QuietTactic
import Derived.Deep.LoopGhost
import Derived.Deep.DeepMust
import Derived.Lib.Hide
import Derived.Lib.ConvBytes
import Derived.Laws.BytesArg
namespace Go.Proofs.YtjiblegnknhghaaDoor
open Go Go.RowKit

theorem add_block (a : Addr) (n : Nat) : (a.add n).block = a.block := by unfold Addr.add; split <;> rfl

/-- The cells from an address on read as the list. -/
def At (w : World) (a : Addr) (xs : List Value) : Prop := ∀ j u, xs[j]? = some u → w.cell? (a.add j) = some u

/-- A slice's address and length read as the list of cells (`sz` cells an element), all in blocks that are there. -/
def Rd (w : World) (sz : Nat) (A : Option Addr) (n : Nat) (xs : List Value) : Prop :=
  xs.length = n * sz ∧ (0 < n → ∃ a, A = some a ∧ a.block < w.heap.size ∧ At w a xs)

theorem Rd.below {w w' : World} {sz n : Nat} {A : Option Addr} {xs : List Value} (h : Rd w sz A n xs) (hb : Below w.heap.size w w') : Rd w' sz A n xs :=
  ⟨h.1, fun hn => by
    obtain ⟨a, e, hl, hc⟩ := h.2 hn
    exact ⟨a, e, Nat.lt_of_lt_of_le hl hb.size, fun j u hu => (hb.cell (by rw [add_block]; exact hl)).trans (hc j u hu)⟩⟩

/-- A byte as a cell holds it. -/
def bv (b : UInt8) : Value := .int .u8 (b.toNat : Int)
def bvs (s : ByteArray) : List Value := s.data.toList.map bv
theorem bvs_length (s : ByteArray) : (bvs s).length = s.size := by simp [bvs]
theorem bvs_get (s : ByteArray) (i : Nat) (h : i < s.size) : (bvs s)[i]? = some (bv (s.get! i)) := by
  have e : s.get! i = s[i]'h := by simp [ByteArray.get!, getElem!_pos, h]; rfl
  rw [e]
  simp [bvs, h]
  rfl

/-- A slice of bytes that reads as the text. -/
def RB (w : World) (A : Option Addr) (s : ByteArray) : Prop := Rd w 1 A s.size (bvs s)

theorem RB.below {w w' : World} {A : Option Addr} {s : ByteArray} (h : RB w A s) (hb : Below w.heap.size w w') : RB w' A s := Rd.below h hb
theorem RB.cell {w : World} {A : Option Addr} {s : ByteArray} (h : RB w A s) {i : Nat} (hi : i < s.size) :
    ∃ a, A = some a ∧ w.cell? (a.add i) = some (.int .u8 ((s.get! i).toNat : Int)) := by
  obtain ⟨a, e, _, hc⟩ := h.2 (by omega)
  exact ⟨a, e, hc i _ (bvs_get s i hi)⟩

theorem strOfNums_bytes (s : ByteArray) : strOfNums (s.data.toList.map fun b => (b.toNat : Int)) = s := by
  unfold strOfNums
  have : (s.data.toList.map fun b => (b.toNat : Int)).map (fun n => UInt8.ofNat n.toNat) = s.data.toList := by
    rw [List.map_map]
    conv => rhs; rw [← List.map_id s.data.toList]
    apply List.map_congr_left
    intro b _
    simp
  rw [this]

/-- 'string(b)'. -/
theorem run_string {P : Program} {w : World} {A : Option Addr} {s : ByteArray} (h : RB w A s) (c : Nat) (src e dst : TypeId) (hs : P.underlying src = some (.slice e)) (he : P.underlying e = some (.int .u8)) (hd : P.underlying dst = some .string) :
    (convert src dst (.slice A s.size c)).run P w = .ok (.string s) w := by
  rcases Nat.eq_zero_or_pos s.size with h0 | h0
  · have hs0 : s = ByteArray.empty := by
      rcases s with ⟨d⟩
      have : d = #[] := Array.eq_empty_of_size_eq_zero h0
      subst this; rfl
    rcases A with _ | a
    · rw [run_convert_bytes_nil w src e hs he _ _ dst hd, hs0]
    · rw [run_convert_bytes_string w src dst e _ _ c hs he hd, h0]
      have := run_bytesToString (P := P) w a 0 c [] (by simp [loadCells, loadCellsFrom])
      rw [this, hs0]
      rfl
  · obtain ⟨a, rfl, _, hc⟩ := h.2 h0
    have hl : (loadCells a s.size).run P w = .ok ((s.data.toList.map fun b => (b.toNat : Int)).map (Value.int .u8)).toArray w := by
      have := run_loadCells_list (P := P) w a (bvs s) hc
      rw [bvs_length] at this
      rw [this]
      simp [bvs, bv, List.map_map]
    have e : ∀ xs : List Int, (⟨ByteArray.empty.data ++ (xs.map fun n => UInt8.ofNat n.toNat).toArray⟩ : ByteArray) = strOfNums xs := by
      intro xs
      simp [strOfNums, ByteArray.empty, ByteArray.emptyWithCapacity]
      rfl
    rw [run_convert_bytes_string w src dst _ _ _ c hs he hd, run_bytesToString w a s.size c _ hl, foldl_push_bytes, e, strOfNums_bytes]
end Go.Proofs.YtjiblegnknhghaaDoor
