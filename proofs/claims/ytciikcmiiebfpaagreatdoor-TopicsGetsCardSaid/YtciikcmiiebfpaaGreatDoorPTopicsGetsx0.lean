-- PRINTED BY print.sh 35421559b90ae4d0a3588c463048766b98c2df88dd9212a6774a882060cdf62d: not written by this session
import Derived.Test.YtciikcmiiebfpaaGreatDoorProg
import Derived.Below
import Derived.Deep.Draws
import Derived.Deep.AppendLies
import Derived.Maps.AppendAt
import Derived.OwnWalk
import Derived.Laws.BytesArg
import Derived.Laws.MakeOwn
import Derived.Laws.OwnMore
import Derived.Deep.OwnRows
import Derived.Tactics
import Derived.Lib.ConvBytes
import Derived.Laws.Slices
import Derived.WalkKit
import Derived.KernelRfl
import Derived.RowKit3
import Derived.Deep.LoopGhost
import Derived.Deep.QuietTactic
import Derived.BigQuiet
import Derived.WideLaws
import Derived.Deep.DeepCutAuto
import Derived.Deep.CutBlock
import Derived.Deep.RegionHeld3
import Derived.Laws.Rows
import Derived.Lib.AppendStr
import Derived.ArgAppend
import Derived.Laws.IdiomCopy
import Derived.OrdersHeld
import Derived.Laws.BitsLemmas
import Derived.RowKit
import Derived.Test.YtciikcmiiebfpaaGreatDoorWMore
namespace Go.Proofs.YtciikcmiiebfpaaGreatDoor.PTopicsGets
open Go.RowKit Go.Proofs.YtciikcmiiebfpaaGreatDoorW.PrintWords Go.Proofs.YtciikcmiiebfpaaGreatDoorW.PrintLast Go.Proofs.YtciikcmiiebfpaaGreatDoorW.PrintMore
attribute [local go_sem] max2_int min2_int max_two min_two max_three min_three max_four min_four   -- for this text's walks alone
set_option linter.unusedVariables false
set_option linter.unusedSimpArgs false



def errW : Option Int → Value
  | none => .nilIface
  | some c => .iface 386 (.int .i64 c)
theorem errW_none : errW none = .nilIface := rfl
theorem errW_some (c : Int) : errW (some c) = .iface 386 (.int .i64 c) := rfl

theorem info5 : (Tryz.prog.info? 5).map (fun i => (i.zero, i.size, i.bytes)) = some (some (.int .u8 0), 1, 1) := by kernel_rfl
theorem info48 : (Tryz.prog.info? 48).map (fun i => (i.zero, i.size, i.bytes)) = some (some (.agg #[(.string ⟨#[]⟩), (.int .i64 0)]), 2, 24) := by kernel_rfl
theorem info118 : (Tryz.prog.info? 118).map (fun i => (i.zero, i.size, i.bytes)) = some (some (.agg #[(.int .i64 0), (.bool false), (.slice none 0 0), (.bool false), (.slice none 0 0), (.slice none 0 0)]), 6, 96) := by kernel_rfl
-- the values' own types
structure S48 where
  f0 : ByteArray
  f1 : Int
def z48 : S48 := ⟨(⟨#[]⟩ : ByteArray), (0 : Int)⟩
def k48 : Kd S48 := Kd.iso (Kd.pair Kd.string (Kd.int .i64)) (fun x : S48 => (x.f0, x.f1))
theorem k48_open {w : World} {x : S48} {cs : List Value} (h : k48.K w x cs) : cs = [.string x.f0, .int .i64 x.f1] := by
  obtain ⟨_, _, rfl, rfl, rfl⟩ := h
  exact rfl
theorem k48_mk (w : World) (x : S48)  : k48.K w x [.string x.f0, .int .i64 x.f1] := ⟨[.string x.f0], [.int .i64 x.f1], rfl, rfl, rfl⟩
theorem k48_mkM (w : World) (base : Nat) (ok : Nat → Prop) (x : S48)  : k48.M w base ok x [.string x.f0, .int .i64 x.f1] := ⟨[.string x.f0], [.int .i64 x.f1], rfl, rfl, rfl⟩
def rd_T48 (xs : List S48) (i : Int) : S48 := xs.getD i.toNat z48
theorem at_T48 {w : World} {A : Option Addr} {n : Nat} {xs : List S48} (h : Kd.C k48 w A n xs) (i : Int) (h0 : 0 ≤ i) (h1 : i < n) : ∃ ad , A = some ad ∧ w.cell? (ad.add (i.toNat * 2)) = some (.string (rd_T48 xs i).f0) ∧ w.cell? ⟨(ad.add (i.toNat * 2)).block, (ad.add (i.toNat * 2)).off + 1, none⟩ = some (.int .i64 (rd_T48 xs i).f1) := by
  obtain ⟨ad, c, e, _, hK, hc0⟩ := Kd.C_get h z48 i h0 h1
  have hc : ∀ j u, c[j]? = some u → w.cell? (ad.add (i.toNat * 2 + j)) = some u := hc0
  obtain rfl := k48_open hK
  exact ⟨ad, e, hc 0 _ rfl, by rw [← add_field _ _ 1 (by omega)]; exact hc 1 _ rfl⟩

def rd_L4 (xs : List (List Int)) (i : Int) : (List Int) := xs.getD i.toNat ([] : List Int)
theorem at_L4 {w : World} {A : Option Addr} {n : Nat} {xs : List (List Int)} (h : Kd.C (Kd.slice 5 (Kd.int .u8)) w A n xs) (i : Int) (h0 : 0 ≤ i) (h1 : i < n) : ∃ ad A0 c0, A = some ad ∧ w.cell? (ad.add i.toNat) = some (.slice A0 (rd_L4 xs i).length c0) ∧ (rd_L4 xs i).length ≤ c0 ∧ (Kd.int .u8).C w A0 (rd_L4 xs i).length (rd_L4 xs i) := by
  obtain ⟨ad, c, e, _, hK, hc0⟩ := Kd.C_get h ([] : List Int) i h0 h1
  have hc : ∀ j u, c[j]? = some u → w.cell? (ad.add (i.toNat * 1 + j)) = some u := hc0
  obtain ⟨A0, c0, rfl, l0, g0⟩ := hK
  exact ⟨ad, A0, c0, e, by have hq := hc 0 _ rfl; rwa [Nat.mul_one, Nat.add_zero] at hq, l0, g0⟩

structure S115 where
  f0 : Bool
  f1 : (List Int)
def z115 : S115 := ⟨false, ([] : List Int)⟩
def k115 : Kd S115 := Kd.iso (Kd.pair Kd.bool (Kd.slice 5 (Kd.int .u8))) (fun x : S115 => (x.f0, x.f1))
structure S365 where
  f0 : ByteArray
  f1 : S115
def k365 : Kd S365 := Kd.iso (Kd.pair Kd.string k115) (fun x : S365 => (x.f0, x.f1))
structure S118 where
  f0 : Int
  f1 : S115
  f2 : S115
  f3 : (List S365)
def z118 : S118 := ⟨(0 : Int), z115, z115, ([] : List S365)⟩
def k118 : Kd S118 := Kd.iso (Kd.pair (Kd.int .i64) (Kd.pair k115 (Kd.pair k115 (Kd.slice 365 k365)))) (fun x : S118 => (x.f0, x.f1, x.f2, x.f3))
def rd_T118 (xs : List S118) (i : Int) : S118 := xs.getD i.toNat z118
structure S95 where
  f0 : Int
  f1 : Int
  f2 : Int
  f3 : Int
  f4 : Int
  f5 : (List S118)
def z95 : S95 := ⟨(0 : Int), (0 : Int), (0 : Int), (0 : Int), (0 : Int), ([] : List S118)⟩
def k95 : Kd S95 := Kd.iso (Kd.pair (Kd.int .i64) (Kd.pair (Kd.int .i32) (Kd.pair (Kd.int .i64) (Kd.pair (Kd.int .i16) (Kd.pair (Kd.int .i32) (Kd.slice 118 k118)))))) (fun x : S95 => (x.f0, x.f1, x.f2, x.f3, x.f4, x.f5))
theorem k95_open {w : World} {x : S95} {cs : List Value} (h : k95.K w x cs) : ∃ A5 c5, cs = [.int .i64 x.f0, .int .i32 x.f1, .int .i64 x.f2, .int .i16 x.f3, .int .i32 x.f4, .slice A5 x.f5.length c5] ∧ x.f5.length ≤ c5 ∧ k118.C w A5 x.f5.length x.f5 := by
  obtain ⟨_, _, rfl, rfl, ⟨_, _, rfl, rfl, ⟨_, _, rfl, rfl, ⟨_, _, rfl, rfl, ⟨_, _, rfl, rfl, ⟨A5, c5, rfl, l5, g5⟩⟩⟩⟩⟩⟩ := h
  exact ⟨A5, c5, rfl, l5, g5⟩
def rd_T95 (xs : List S95) (i : Int) : S95 := xs.getD i.toNat z95
theorem at_T95 {w : World} {A : Option Addr} {n : Nat} {xs : List S95} (h : Kd.C k95 w A n xs) (i : Int) (h0 : 0 ≤ i) (h1 : i < n) : ∃ ad A5 c5, A = some ad ∧ w.cell? (ad.add (i.toNat * 6)) = some (.int .i64 (rd_T95 xs i).f0) ∧ w.cell? ⟨(ad.add (i.toNat * 6)).block, (ad.add (i.toNat * 6)).off + 1, none⟩ = some (.int .i32 (rd_T95 xs i).f1) ∧ w.cell? ⟨(ad.add (i.toNat * 6)).block, (ad.add (i.toNat * 6)).off + 2, none⟩ = some (.int .i64 (rd_T95 xs i).f2) ∧ w.cell? ⟨(ad.add (i.toNat * 6)).block, (ad.add (i.toNat * 6)).off + 3, none⟩ = some (.int .i16 (rd_T95 xs i).f3) ∧ w.cell? ⟨(ad.add (i.toNat * 6)).block, (ad.add (i.toNat * 6)).off + 4, none⟩ = some (.int .i32 (rd_T95 xs i).f4) ∧ w.cell? ⟨(ad.add (i.toNat * 6)).block, (ad.add (i.toNat * 6)).off + 5, none⟩ = some (.slice A5 (rd_T95 xs i).f5.length c5) ∧ (rd_T95 xs i).f5.length ≤ c5 ∧ k118.C w A5 (rd_T95 xs i).f5.length (rd_T95 xs i).f5 := by
  obtain ⟨ad, c, e, _, hK, hc0⟩ := Kd.C_get h z95 i h0 h1
  have hc : ∀ j u, c[j]? = some u → w.cell? (ad.add (i.toNat * 6 + j)) = some u := hc0
  obtain ⟨A5, c5, rfl, l5, g5⟩ := k95_open hK
  exact ⟨ad, A5, c5, e, hc 0 _ rfl, by rw [← add_field _ _ 1 (by omega)]; exact hc 1 _ rfl, by rw [← add_field _ _ 2 (by omega)]; exact hc 2 _ rfl, by rw [← add_field _ _ 3 (by omega)]; exact hc 3 _ rfl, by rw [← add_field _ _ 4 (by omega)]; exact hc 4 _ rfl, by rw [← add_field _ _ 5 (by omega)]; exact hc 5 _ rfl, l5, g5⟩

structure S374 where
  f0 : (List Int)
  f1 : Int
  f2 : Int
def z374 : S374 := ⟨([] : List Int), (0 : Int), (0 : Int)⟩
def rd_T374 (xs : List S374) (i : Int) : S374 := xs.getD i.toNat z374
end Go.Proofs.YtciikcmiiebfpaaGreatDoor.PTopicsGets
