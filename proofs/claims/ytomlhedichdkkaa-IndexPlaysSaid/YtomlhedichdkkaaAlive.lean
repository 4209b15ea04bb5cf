/- An index all made since a world, and the law's example. -/
import Derived.Test.YtomlhedichdkkaaAlike
namespace Go.Proofs.Ytomlhedichdkkaa
open Go Go.RowKit
set_option linter.unusedVariables false

/-- The index lies wholly in memory got since w0, and nothing older has turned. -/
def Fr (w0 w : World) (g : Nat) (base : Int) (es : List Ent) : Prop :=
  ∃ ve vp, IX w g base es ve vp ∧ (∀ k, Foot g ve vp k → w0.heap.size ≤ k) ∧ Below w0.heap.size w0 w

section
variable {w0 w w' : World} {g : Nat} {base : Int} {es es' : List Ent}
theorem Fr.bel (h : Fr w0 w g base es) : Below w0.heap.size w0 w := by obtain ⟨_, _, _, _, hb⟩ := h; exact hb
theorem Fr.val (h : Fr w0 w g base es) : Valid base es := by obtain ⟨_, _, hx, _, _⟩ := h; exact hx.val
theorem Fr.below (h : Fr w0 w g base es) (hb : Below w.heap.size w w') : Fr w0 w' g base es := by
  obtain ⟨ve, vp, hx, hf, h0⟩ := h
  exact ⟨ve, vp, hx.below hb, hf, h0.trans (hb.mono h0.size)⟩
theorem Fr.turned {ve vp : Value} (hf : ∀ k, Foot g ve vp k → w0.heap.size ≤ k) (h0 : Below w0.heap.size w0 w) (ht : Turned w g base ve vp es' w') : Fr w0 w' g base es' := by
  obtain ⟨ve', vp', hx', hk, hs⟩ := ht
  refine ⟨ve', vp', hx', fun k h => ?_, h0.trans (hk.below h0.size hf)⟩
  rcases hs k h with h | h
  · exact hf k h
  · exact Nat.le_trans h0.size h

theorem fr_new (base : Int) (w : World) (lo : -9223372036854775808 ≤ base) (hi : base ≤ 9223372036854775807) :
    Calls Try.prog 20 #[.int .i64 base] w fun r w' => r = .returned (.pointer (some ⟨w.heap.size, 0, none⟩)) ∧ Fr w w' w.heap.size base [] := by
  refine (new_any base w lo hi).mono ?_
  rintro r w' ⟨rfl, hx, hb⟩
  refine ⟨rfl, _, _, hx, ?_, hb⟩
  rintro k (rfl | hk | hk)
  · exact Nat.le_refl _
  · simp [Value.ownBlock] at hk
  · simp [Value.ownBlock] at hk

theorem fr_add (h : Fr w0 w g base es) (e : Ent) (hroom : (es.length + 1) * 56 ≤ 140737488355328) :
    Calls Try.prog 19 #[.pointer (some ⟨g, 0, none⟩), e.val] w fun r w' => r = .returned (.int .i64 (addE base es e : Nat)) ∧ Fr w0 w' g base (addTo base es e) := by
  obtain ⟨ve, vp, hx, hf, h0⟩ := h
  refine (add_any w g base es ve vp hx e hroom).mono ?_
  rintro r w' ⟨rfl, ht⟩
  exact ⟨rfl, Fr.turned hf h0 ht⟩
theorem fr_back (h : Fr w0 w g base es) (n : Int) (hm : es.length ≤ 140737488355328) (hn : -9223372036854775808 ≤ n ∧ n ≤ 9223372036854775807) :
    Calls Try.prog 17 #[.pointer (some ⟨g, 0, none⟩), .int .i64 n] w fun r w' => r = .returned (.tuple #[]) ∧ Fr w0 w' g base (es.take n.toNat) := by
  obtain ⟨ve, vp, hx, hf, h0⟩ := h
  refine (back_any w g base es ve vp hx n hm hn).mono ?_
  rintro r w' ⟨rfl, ht⟩
  exact ⟨rfl, Fr.turned hf h0 ht⟩

variable (h : Fr w0 w g base es) (hm : es.length ≤ 140737488355328)
include h hm
theorem fr_next : Calls Try.prog 14 #[.pointer (some ⟨g, 0, none⟩)] w fun r w' => r = .returned (.int .i64 (nextOf base es)) ∧ Below w.heap.size w w' := by
  obtain ⟨ve, vp, hx, hf, h0⟩ := h
  exact next_any w g base es ve vp hx hm
theorem fr_size : Calls Try.prog 15 #[.pointer (some ⟨g, 0, none⟩)] w fun r w' => r = .returned (.int .i64 (sizeOf es)) ∧ Below w.heap.size w w' := by
  obtain ⟨ve, vp, hx, hf, h0⟩ := h
  exact size_any w g base es ve vp hx hm
theorem fr_at (k : Int) : Calls Try.prog 11 #[.pointer (some ⟨g, 0, none⟩), .int .i64 k] w fun r w' => r = .returned (optAns (atOf base es k)) ∧ Below w.heap.size w w' := by
  obtain ⟨ve, vp, hx, hf, h0⟩ := h
  exact at_any w g base es ve vp hx hm k
theorem fr_since (k : Int) : Calls Try.prog 16 #[.pointer (some ⟨g, 0, none⟩), .int .i64 k] w fun r w' => r = .returned (optAns (sinceOf es k)) ∧ Below w.heap.size w w' := by
  obtain ⟨ve, vp, hx, hf, h0⟩ := h
  exact since_any w g base es ve vp hx hm k
theorem fr_span (k most : Int) (hmost : -9223372036854775808 ≤ most ∧ most ≤ 9223372036854775807) : Calls Try.prog 12 #[.pointer (some ⟨g, 0, none⟩), .int .i64 k, .int .i64 most] w fun r w' => r = .returned (spanAns (spanOf base es k most)) ∧ Below w.heap.size w w' := by
  obtain ⟨ve, vp, hx, hf, h0⟩ := h
  exact span_any w g base es ve vp hx hm k most hmost
end

def E1 : Ent := ⟨5, 2, 0, 70, 9, 0, 0, 0⟩
def E2 : Ent := ⟨8, 1, 70, 80, 4, 0, 0, 0⟩
def E3 : Ent := ⟨7, 1, 70, 80, 4, 0, 0, 0⟩

set_option maxRecDepth 10000 in
theorem alive_facts : addE 5 [] E1 = 0 ∧ addTo 5 [] E1 = [E1] ∧ addE 5 [E1] E2 = 190 ∧ addTo 5 [E1] E2 = [E1] ∧ addE 5 [E1] E3 = 0 ∧ addTo 5 [E1] E3 = [E1, E3] ∧ spanOf 5 [E1, E3] 5 150 = (0, 150, true) ∧ atOf 5 [E1, E3] 8 = none ∧ nextOf 5 [E1, E3] = 8 := by
  refine ⟨rfl, rfl, rfl, rfl, rfl, rfl, ?_, rfl, rfl⟩
  rfl

set_option maxHeartbeats 1000000 in
theorem alive_any (w : World) : Calls Try.prog 7 #[] w fun r w' => r = .returned (.bool true) ∧ Below w.heap.size w w' := by
  obtain ⟨a1, a2, a3, a4, a5, a6, a7, a8, a9⟩ := alive_facts
  have A1 := Lib.hid a1
  have A2 := Lib.hid a2
  have A3 := Lib.hid a3
  have A4 := Lib.hid a4
  have A5 := Lib.hid a5
  have A6 := Lib.hid a6
  have A7 := Lib.hid a7
  have A8 := Lib.hid a8
  have A9 := Lib.hid a9
  have HNEW := Lib.hid (fr_new 5 w (by decide) (by decide))
  clear a1 a2 a3 a4 a5 a6 a7 a8 a9
  generalize hg0 : w.heap.size = g at HNEW
  have HG0 := Lib.hid hg0
  clear hg0
  go_enter Try.func7, Try.ntmps7
  go_wp2_with fail
  refine HNEW.out.mono ?_
  rintro r w1 ⟨rfl, h1⟩
  have F1 := Lib.hid h1
  clear h1
  go_wp2_with fail
  refine (fr_add F1.out E1 (by simp)).mono ?_
  rintro r w2 ⟨rfl, h2⟩
  rw [A1.out]
  rw [A2.out] at h2
  have F2 := Lib.hid h2
  clear h2
  go_wp2_with fail
  refine (fr_add F2.out E2 (by simp)).mono ?_
  rintro r w3 ⟨rfl, h3⟩
  rw [A3.out]
  rw [A4.out] at h3
  have F3 := Lib.hid h3
  clear h3
  go_wp2_with fail
  refine (fr_add F3.out E3 (by simp)).mono ?_
  rintro r w4 ⟨rfl, h4⟩
  rw [A5.out]
  rw [A6.out] at h4
  have F4 := Lib.hid h4
  clear h4
  go_wp2_with fail
  refine (fr_span F4.out (by simp) 5 150 (by decide)).mono ?_
  rintro r w5 ⟨rfl, h5⟩
  rw [A7.out]
  have F5 := Lib.hid (F4.out.below h5)
  clear h5
  simp only [spanAns]
  go_wp2_with fail
  refine (fr_at F5.out (by simp) 8).mono ?_
  rintro r w6 ⟨rfl, h6⟩
  rw [A8.out]
  have F6 := Lib.hid (F5.out.below h6)
  clear h6
  simp only [optAns, Option.getD_none, Option.isSome_none, Ent.val, Ent.zero]
  have HAL := Lib.hid (fun (W : World) (o : Obj) (h : Fr w W g 5 [E1, E3]) => h.below ((Below.refl W.heap.size W).alloc (Nat.le_refl _) o))
  have F7 := Lib.hid (HAL.out _ (.cells #[.int .i64 0, .int .i64 0, .int .i64 0, .int .i64 0, .int .i64 0, .int .i64 0, .int .i16 0, .int .i32 0] 30) F6.out)
  go_wp2_with fail
  refine (fr_next F7.out (by simp)).mono ?_
  rintro r w8 ⟨rfl, h8⟩
  rw [A9.out]
  have F8 := Lib.hid (F7.out.below h8)
  clear h8
  go_wp2_with fail
  go_ret
  exact ⟨rfl, by have hh := F8.out.bel; rw [HG0.out] at hh; exact hh⟩
end Go.Proofs.Ytomlhedichdkkaa
