/- slices.Backward at the remembered batches: its contract, after the kit's worked slices.All. -/
import Derived.RangeFuncBox
import Derived.RangeFuncLeaves
import Derived.RangeFuncFrom
import Derived.Shelf.Abstract
import Derived.WalkKit
import Derived.OwnWalkIn
import Derived.TacticsInMore
import Derived.LoopNIn
import Derived.LoopIn
import Derived.Test.YtnooekflmjebiaaNote2
namespace Go.Proofs.Ytnooekflmjebiaa
open Go Go.RowKit Go.Shelf
set_option linter.unusedVariables false

attribute [local go_sem] Oper.semAt_some

/-- What has come when k rounds are over. -/
def upto {α : Type} (f : Nat → α) (k : Nat) : List α := (List.range k).map f
theorem upto_succ {α : Type} (f : Nat → α) (k : Nat) : upto f (k + 1) = upto f k ++ [f k] := by simp [upto, List.range_succ]
theorem upto_length {α : Type} (f : Nat → α) (k : Nat) : (upto f k).length = k := by simp [upto]

/-- The k-th from behind. -/
def back (ms : List Mk) (k : Nat) : Nat × Mk := (ms.length - 1 - k, (ms[ms.length - 1 - k]?).getD ⟨0, 0, 0⟩)
def encB (x : Nat × Mk) : Array Value := #[.int .i64 (x.1 : Int), x.2.val]

set_option maxRecDepth 100000 in
set_option maxHeartbeats 2000000 in
theorem back1_in (F : Fence) (n : Nat) (h7 : F.fn 35) (hro : F.round = none) (hn : 1 ≤ n) (l Bs n₀ b off cap : Nat) (ms : List Mk) (hreach : ms.length ≤ 5) (hb : b < n₀) (hBn : Bs < n₀) (J Jx : List (Nat × Mk) → World → Prop)
    (hY : ∀ pre x W, J pre W → pre.length < ms.length → YieldAt F (n - 1) Try.prog l (encB x) W fun e W' =>
      (e = .returned (.bool true) ∧ J (pre ++ [x]) W' ∧ Below n₀ W W') ∨ (e = .returned (.bool false) ∧ Jx (pre ++ [x]) W'))
    (W : World) (hBs : W.cell? ⟨Bs, 0, none⟩ = some (.slice (some ⟨b, off, none⟩) ms.length cap)) (hc : ∀ j m, ms[j]? = some m → MkAt W b (off + j * 3) m) (h0 : J [] W) :
    CallsIn F n Try.prog 35 #[.func (.yield l) #[] #[], .pointer (some ⟨Bs, 0, none⟩)] W fun e W' => (∃ v, e = .returned v) ∧
      ((∃ ys, ys = upto (back ms) ms.length ∧ J ys W') ∨ (∃ pre, (∃ k, k ≤ ms.length ∧ pre = upto (back ms) k) ∧ Jx pre W')) := by
  obtain ⟨len, hlen⟩ : ∃ len, len = ms.length := ⟨_, rfl⟩
  have HLEN := Lib.hid hlen
  rw [← hlen] at hY hBs hreach ⊢
  have HC := Lib.hid hc
  clear hlen hc
  refine callsIn_of_wp Try.func35 rfl h7 ?_ hro
  simp only [Try.ntmps35, List.size_toArray, List.length_cons, List.length_nil, Nat.reduceAdd, Nat.reduceSub, Array.replicate_succ, Array.replicate_zero, List.push_toArray, List.append_toArray, List.nil_append, List.cons_append]
  gi_wp2
  gi_loopw [3] (fun i wr => ∃ (k : Nat) (z : Int), k ≤ len ∧ i = .int .i64 z ∧ Hid (z = (len : Int) - 1 - (k : Int)) ∧ J (upto (back ms) k) wr ∧ Below n₀ W wr)
    (fun i _ => (intOf i + 1).toNat)
  case atStart => exact ⟨0, _, Nat.zero_le _, rfl, by show _ = _; simp, h0, Below.refl _ _⟩
  case round =>
    obtain ⟨k, z, hk, rfl, HZ, hJs, hnx⟩ := hrel
    have hBs' : wr.cell? ⟨Bs, 0, none⟩ = some (.slice (some ⟨b, off, none⟩) len cap) := (hnx.cell (p := ⟨Bs, 0, none⟩) hBn).trans hBs
    by_cases hlt : k < len
    · obtain ⟨j, hj⟩ : ∃ j : Nat, j = len - 1 - k := ⟨_, rfl⟩
      have hjl : j < len := by omega
      obtain rfl : z = (j : Int) := by have := HZ.out; omega
      have hjm : j < ms.length := by rw [← HLEN.out]; exact hjl
      obtain ⟨m, hm⟩ : ∃ m, ms[j]? = some m := ⟨_, List.getElem?_eq_getElem hjm⟩
      have hback : back ms k = (j, m) := by
        unfold back
        rw [← HLEN.out, ← hj, hm]
        rfl
      have hat := HC.out j m hm
      have k0 := (hnx.cell (p := ⟨b, off + j * 3, none⟩) hb).trans hat.c0
      have k1 := (hnx.cell (p := ⟨b, off + j * 3 + 1, none⟩) hb).trans hat.c1
      have k2 := (hnx.cell (p := ⟨b, off + j * 3 + 2, none⟩) hb).trans hat.c2
      obtain ⟨fn, tmps, assign, body, hy, hR⟩ := hY _ (j, m) wr hJs (by rw [upto_length]; exact hlt)
      unfold encB Mk.val at hy
      dsimp only at hy
      have HB := Lib.hid hback
      have HJ := Lib.hid hj
      clear hback hat hm hj
      gi_wp2
      refine hR.mono ?_
      rintro e W3 (⟨rfl, hJ3, hk3⟩ | ⟨rfl, hJx3⟩)
      · gi_wp2
        go_roundw
        case rel => exact ⟨k + 1, _, by omega, rfl, by show _ = _; have := HJ.out; omega, by rw [upto_succ, HB.out]; exact hJ3, hnx.trans hk3⟩
        case measure => simp [intOf]
      · gi_wp2
        refine bodyPost_ret (results_none rfl _ _ _) rfl ?_
        exact ⟨⟨_, rfl⟩, .inr ⟨_, ⟨k + 1, by omega, by rw [upto_succ, HB.out]⟩, hJx3⟩⟩
    · obtain rfl : k = len := by omega
      obtain rfl : z = -1 := by have := HZ.out; omega
      gi_wp2
      go_end0
      exact ⟨⟨_, rfl⟩, .inl ⟨_, rfl, hJs⟩⟩

set_option maxRecDepth 100000 in
set_option maxHeartbeats 1000000 in
/-- slices.Backward(s): the slice's value is boxed; the function value captures the box. -/
theorem back_in (F : Fence) (n : Nat) (h6 : F.fn 19) (hro : F.round = none) (a : Option Addr) (len cap : Nat) (w : World) :
    CallsIn F n Try.prog 19 #[.slice a len cap] w fun e w' => e = .returned (.func (.func 35) #[] #[.pointer (some ⟨w.heap.size, 0, none⟩)]) ∧ w' = w.alloc (.cells #[.slice a len cap] 58) := by
  refine callsIn_of_wp Try.func19 rfl h6 ?_ hro
  simp only [Try.ntmps19, List.size_toArray, List.length_cons, List.length_nil, Nat.reduceAdd, Nat.reduceSub, Array.replicate_succ, Array.replicate_zero, List.push_toArray, List.append_toArray, List.nil_append, List.cons_append]
  gi_wp2
  go_ret
  exact ⟨rfl, rfl⟩

theorem MkAt.below {w w' : World} {b o B : Nat} {e : Mk} (h : MkAt w b o e) (hb : Below B w w') (hl : b < B) : MkAt w' b o e :=
  ⟨(hb.cell (p := ⟨b, o, none⟩) hl).trans h.c0, (hb.cell (p := ⟨b, o + 1, none⟩) hl).trans h.c1, (hb.cell (p := ⟨b, o + 2, none⟩) hl).trans h.c2⟩

/-- What slices.Backward hands back, at batches in a block below n₀: the last one first; or the first k of them so. -/
theorem back_stops (F : Fence) (n : Nat) (h8 : F.fn 35) (hro : F.round = none) (hn : 1 ≤ n) (Bs n₀ b off cap : Nat) (ms : List Mk) (hreach : ms.length ≤ 5) (w : World) (hBs : Bs < n₀) (hn₀ : n₀ ≤ w.heap.size) (hb : b < n₀)
    (hc : w.cell? ⟨Bs, 0, none⟩ = some (.slice (some ⟨b, off, none⟩) ms.length cap)) (hI : ∀ j m, ms[j]? = some m → MkAt w b (off + j * 3) m) :
    SeqStopsK F n Try.prog 35 #[.pointer (some ⟨Bs, 0, none⟩)] encB (Below n₀) (fun ys => ys = upto (back ms) ms.length)
      (fun pre => ∃ k, k ≤ ms.length ∧ pre = upto (back ms) k) ms.length w := fun l J Jx W hW _ _ hY h0 => by
  have hW0 := hW.mono hn₀
  exact back1_in F n h8 hro hn l Bs n₀ b off cap ms hreach hb hBs J Jx hY W ((hW0.cell (p := ⟨Bs, 0, none⟩) hBs).trans hc) (fun j m h => (hI j m h).below hW0 hb) h0
end Go.Proofs.Ytnooekflmjebiaa
