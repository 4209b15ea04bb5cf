/- fault.Wrap: a chain over the places turned about. -/
import Derived.Test.YtclinofekgpfaaaDoorAs
namespace Go.Proofs.YtclinofekgpfaaaDoor
open Go Go.RowKit
set_option linter.unusedVariables false

/-- A row of ints that is read only. -/
def IRow (w : World) (A : Option Addr) (xs : List Int) : Prop :=
  0 < xs.length → ∃ b o, A = some ⟨b, o, none⟩ ∧ b < w.heap.size ∧ ∀ i x, xs[i]? = some x → w.cell? ⟨b, o + i, none⟩ = some (.int .i64 x)
theorem IRow.below {w w' : World} {A : Option Addr} {xs : List Int} (h : IRow w A xs) (hb : Below w.heap.size w w') : IRow w' A xs := fun hn => by
  obtain ⟨b, o, rfl, hlt, hc⟩ := h hn
  exact ⟨b, o, rfl, Nat.lt_of_lt_of_le hlt hb.size, fun i x hx => keep_cell hb hlt (hc i x hx)⟩
theorem IRow.take {w : World} {A : Option Addr} {xs : List Int} (h : IRow w A xs) (k : Nat) : IRow w A (xs.take k) := fun hn => by
  rw [List.length_take] at hn
  obtain ⟨b, o, e, hlt, hc⟩ := h (by omega)
  refine ⟨b, o, e, hlt, fun i x hx => hc i x ?_⟩
  rw [List.getElem?_take] at hx
  split at hx
  · exact hx
  · cases hx

theorem take_snoc' {α : Type} {l : List α} {k : Nat} {x : α} (h : l[k]? = some x) : l.take (k + 1) = l.take k ++ [x] := by
  obtain ⟨hk, rfl⟩ := List.getElem?_eq_some_iff.1 h
  rw [List.take_succ_eq_append_getElem hk]
theorem rev_snoc {α : Type} {l : List α} {k : Nat} {x : α} (h : l[k]? = some x) : (l.take (k + 1)).reverse = x :: (l.take k).reverse := by
  rw [take_snoc' h, List.reverse_append]; rfl

/-- One place more. -/
theorem Chain.more {w : World} {e p : Int} {ps : List Int} {v : Value} (h : Chain w w.heap.size e ps v) : Chain (w.alloc (.cells #[.int .i64 p, v] 45)) (w.alloc (.cells #[.int .i64 p, v] 45)).heap.size e (p :: ps) (.iface 43 (.pointer (some ⟨w.heap.size, 0, none⟩))) := by
  have hb : Below w.heap.size w (w.alloc (.cells #[.int .i64 p, v] 45)) := (Below.refl _ _).alloc (Nat.le_refl _) _
  exact ⟨w.heap.size, v, rfl, by simp, heap_alloc_new w _, (h.below hb).mono hb.size⟩

theorem wrap_nil (w : World) (A : Option Addr) (n c : Nat) : Calls Tryd.prog 8 #[.int .i64 0, .slice A n c] w fun r w' => r = .returned .nilIface ∧ w = w' := by
  go_enter Tryd.func8, Tryd.ntmps8
  go_wp2
  go_ret
  exact ⟨rfl, rfl⟩

def Wrapped (w : World) (e : Int) (ps : List Int) (r : Ending) (w' : World) : Prop := ∃ v, r = .returned v ∧ Chain w' w'.heap.size e ps v ∧ Below w.heap.size w w'

set_option maxHeartbeats 1000000 in
theorem wrap_any (w : World) (e : Int) (he : e ≠ 0) (ps : List Int) (A : Option Addr) (c n : Nat) (hn : ps.length = n) (hm : n ≤ 140737488355328) (hr : IRow w A ps) :
    Calls Tryd.prog 8 #[.int .i64 e, .slice A n c] w (Wrapped w e ps.reverse) := by
  have HN := Lib.hid hn
  have HR := Lib.hid hr
  have hq : (e == 0) = false := by simpa using he
  clear hn hr he
  go_enter Tryd.func8, Tryd.ntmps8
  go_wp2_with fail
  go_loopw [5, 14] (fun v i wr => ∃ k : Nat, i = .int .i64 (k : Int) ∧ k ≤ n ∧ Chain wr wr.heap.size e (ps.take k).reverse v ∧ Below w.heap.size w wr) (fun _ i _ => n - (intOf i).toNat)
  case atStart => exact ⟨0, rfl, Nat.zero_le _, rfl, Below.refl _ _⟩
  case round =>
    obtain ⟨k, rfl, hkn, hch, hbr⟩ := hrel
    have BR := Lib.hid hbr
    have HCH := Lib.hid hch
    by_cases hlt : k < n
    · obtain ⟨x, hx⟩ : ∃ x, ps[k]? = some x := ⟨_, List.getElem?_eq_getElem (by rw [HN.out]; exact hlt)⟩
      obtain ⟨b, o, rfl, hbl, hc⟩ := HR.out (by rw [HN.out]; omega)
      have hcell := keep_cell hbr hbl (hc k x hx)
      have HV := Lib.hid (rev_snoc hx)
      have hq1 : (0 : Int) ≤ (k : Int) := by omega
      have hq2 : (k : Int) < (n : Int) := by omega
      rcases hch.form with rfl | ⟨b', rfl⟩
      all_goals
        have HM := Lib.hid (HCH.out.more (p := x))
        clear hch hc hx hbr
        go_wp2_with fail
        go_roundw
        case rel => exact ⟨k + 1, by go_num, by omega, by rw [HV.out]; exact HM.out, BR.out.alloc BR.out.size _⟩
        case measure => simp [intOf]; omega
    · have : k = n := by omega
      subst this
      have HK := Lib.hid (show ps.take k = ps by rw [← HN.out, List.take_length])
      clear hbr hch
      go_wp2_with fail
      go_ret
      exact ⟨_, rfl, by have h := HCH.out; rw [HK.out] at h; exact h, BR.out⟩
end Go.Proofs.YtclinofekgpfaaaDoor
