/- DiskSafe: its walk. -/
import Derived.Test.YtkhopknpadncdaaBx
namespace Go.Proofs.Ytkhopknpadncdaa
open Go Go.RowKit Go.Maps Go.Proofs.YtkhopknpadncdaaW.PrintWords Go.Proofs.Ytkhopknpadncdaa.PDiskFails Go.Proofs.YtkhopknpadncdaaW.PrintMore
set_option linter.unusedVariables false

def sF : ByteArray := ⟨#[102]⟩
theorem copyS_any (A : Option Addr) (n c : Nat) (l : List Int) (w : World) (hC : (Kd.int .u8).C w A n l) (hc : n ≤ c) (hl : l.length ≤ big) :
    Calls Try.prog 29 #[.slice A n c] w fun e w' => ∃ A' q, e = .returned (.slice A' n q) ∧ (Kd.int .u8).R 5 w' w.heap.size (fun _ => True) (.slice A' n q) l ∧ Below w.heap.size w w' := by
  have hn : n = l.length := (Kd.C_len hC).symm
  subst hn
  refine (PDiskSafe.leatref01_Copy.calls (l.length + 1) A c l l w hC hc (copy_f (by unfold big at hl; omega) (Nat.lt_succ_self _))).mono ?_
  rintro e w' ⟨v, rfl, hr, hb⟩
  obtain ⟨A', q, rfl⟩ := Kd.R_slice hr
  exact ⟨A', q, rfl, hr, hb⟩
theorem catS_any (A B : Option Addr) (n c m q : Nat) (a b : List Int) (w : World) (hA : (Kd.int .u8).C w A n a) (hc : n ≤ c) (hB : (Kd.int .u8).C w B m b) (hq : m ≤ q) (hl : a.length + b.length ≤ big) :
    Calls Try.prog 31 #[.slice A n c, .slice B m q] w fun e w' => ∃ A' q, e = .returned (.slice A' (n + m) q) ∧ (Kd.int .u8).R 5 w' w.heap.size (fun _ => True) (.slice A' (n + m) q) (a ++ b) ∧ Below w.heap.size w w' := by
  have hn : n = a.length := (Kd.C_len hA).symm
  have hm : m = b.length := (Kd.C_len hB).symm
  subst hn hm
  refine (PDiskSafe.leatref01_Cat.calls (a.length + b.length + 1) A c a B q b (a ++ b) w hA hc hB hq (cat_f (by unfold big at hl; omega) (Nat.lt_succ_self _))).mono ?_
  rintro e w' ⟨v, rfl, hr, hb⟩
  obtain ⟨A', q, rfl⟩ := Kd.R_slice hr
  rw [List.length_append] at hr ⊢
  exact ⟨A', q, rfl, hr, hb⟩
theorem pieceS_any (A : Option Addr) (n c : Nat) (l : List Int) (w : World) (T : Nat) (u : Int) (hu : (T : Int) = u) (hC : (Kd.int .u8).C w A n l) (hc : n ≤ c) (hT : T ≤ l.length) (hl : l.length ≤ big) :
    Calls Try.prog 37 #[.slice A n c, .int .i64 0, .int .i64 u] w fun e w' => ∃ A' q, e = .returned (.slice A' T q) ∧ (Kd.int .u8).C w' A' T (l.take T) ∧ T ≤ q ∧ Below w.heap.size w w' := by
  have hn : n = l.length := (Kd.C_len hC).symm
  subst hn hu
  refine (PDiskSafe.leatref01_Piece.calls (l.length + 2) A c l 0 T (l.take T) w hC hc (piece_f (by unfold big at hl; omega) hT (Nat.lt_succ_self _))).mono ?_
  rintro e w' ⟨v, rfl, hr, hb⟩
  obtain ⟨A', q, rfl⟩ := Kd.R_slice hr
  have h := Kd.R_reads' hr
  rw [List.length_take, Nat.min_eq_left hT] at h ⊢
  exact ⟨A', q, rfl, h.2.2, h.2.1, hb⟩
theorem sameS_any (A B : Option Addr) (n c q : Nat) (l : List Int) (w : World) (hA : (Kd.int .u8).C w A n l) (hc : n ≤ c) (hB : (Kd.int .u8).C w B n l) (hq : n ≤ q) (hl : l.length ≤ big) :
    Calls Try.prog 36 #[.slice A n c, .slice B n q] w fun e w' => e = .returned (.bool true) ∧ Below w.heap.size w w' := by
  have hn : n = l.length := (Kd.C_len hA).symm
  subst hn
  refine (PDiskSafe.leatref01_Same.calls (l.length + 1) A c l B q l true w hA hc hB hq (same_f (by unfold big at hl; omega) (Nat.lt_succ_self _))).mono ?_
  rintro e w' ⟨rfl, hd⟩
  refine ⟨rfl, ?_⟩
  first
    | exact hd.below
    | (obtain ⟨m, rfl⟩ := hd; exact pw_below_drewN (Below.refl _ _) m)
    | exact below_drawn0 hd
end Go.Proofs.Ytkhopknpadncdaa
