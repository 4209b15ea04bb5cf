/- The walks of Back and Add: what an index becomes. -/
import Derived.Test.YtomlhedichdkkaaMeth3
namespace Go.Proofs.Ytomlhedichdkkaa
open Go Go.RowKit
set_option linter.unusedVariables false

theorem heap_setCell_at {w : World} {g i : Nat} {cs : Array Value} {t : TypeId} {fr : Nat × Nat} (h : w.heap[g]? = some (.cells cs t fr)) (u : Value) : (w.setCell ⟨g, i, none⟩ u).heap[g]? = some (.cells (cs.setIfInBounds i u) t fr) := by
  simp [World.setCell, Array.getElem?_modify, h]

theorem Kept.setCell {S : Nat → Prop} {a w : World} (h : Kept S a w) {p : Addr} (hp : S p.block) (u : Value) : Kept S a (w.setCell p u) :=
  ⟨h.os, h.tape, h.output, by simpa [World.setCell] using h.size, fun k hk hn => (Below.heap_setCell w p u k (fun e => hn (by rw [e]; exact hp))).trans (h.block k hk hn)⟩
theorem Kept.drew {S : Nat → Prop} {a w : World} (h : Kept S a w) : Kept S a w.drew := ⟨h.os, h.tape, h.output, h.size, h.block⟩
theorem Kept.alloc {S : Nat → Prop} {a w : World} (h : Kept S a w) (o : Obj) : Kept S a (w.alloc o) :=
  ⟨h.os, h.tape, h.output, Nat.le_trans h.size (by simp), fun k hk hn => (Below.heap_alloc w o k (Nat.lt_of_lt_of_le hk h.size)).trans (h.block k hk hn)⟩

theorem Owns.cut {w : World} {B : Nat} {e : TypeId} {sz : Nat} {A : Option Addr} {n c : Nat} {xs : List Value} (h : Owns w B e sz (.slice A n c) n xs) (k : Nat) (hk : k ≤ n) : Owns w B e sz (.slice A k k) k (xs.take (k * sz)) := by
  refine ⟨by rw [List.length_take, h.1]; exact Nat.min_eq_left (Nat.mul_le_mul_right _ hk), ?_⟩
  rcases h.2 with ⟨hv, h0⟩ | ⟨g, cap, cur, hv, hg, hh, hnc, hcm, hcs, ht⟩
  · injection hv with e1 e2 e3
    exact .inl ⟨by rw [e1, show k = 0 by omega], by omega⟩
  · injection hv with e1 e2 e3
    subst e1 e3
    refine .inr ⟨g, k, cur, rfl, hg, hh, Nat.le_refl _, by omega, Nat.le_trans (Nat.mul_le_mul_right _ (by omega)) hcs, ?_⟩
    rw [← ht, List.take_take, Nat.min_eq_left (Nat.mul_le_mul_right _ hk)]

theorem entVals_take (es : List Ent) (k : Nat) : entVals (es.take k) = (entVals es).take (k * 8) := by
  induction es generalizing k with
  | nil => simp [entVals]
  | cons e es ih =>
    cases k with
    | zero => simp [entVals]
    | succ k =>
      have h := ih k
      have hl : e.vs.length = 8 := rfl
      simp only [List.take_succ_cons, entVals, List.flatMap_cons] at h ⊢
      rw [h, List.take_append, List.take_of_length_le (l := e.vs) (by omega), hl, show (k + 1) * 8 - 8 = k * 8 by omega]

theorem own_slice (A : Option Addr) (n c n' c' : Nat) : (Value.slice A n c).ownBlock = (Value.slice A n' c').ownBlock := by cases A <;> rfl

section
variable (w : World) (g : Nat) (base : Int) (es : List Ent) (ve vp : Value) (hx : IX w g base es ve vp)
include hx

/-- What a call that turns the index leaves. -/
def Turned (es' : List Ent) (w' : World) : Prop :=
  ∃ ve' vp', IX w' g base es' ve' vp' ∧ Kept (Foot g ve vp) w w' ∧ ∀ k, Foot g ve' vp' k → Foot g ve vp k ∨ w.heap.size ≤ k

theorem back_turned (A A' : Option Addr) (c c' k : Nat) (h1 : ve = .slice A es.length c) (h2 : vp = .slice A' es.length c') (hk : k ≤ es.length) :
    Turned w g base ve vp (es.take k) ((w.setCell ⟨g, 1, none⟩ (.slice A k k)).setCell ⟨g, 3, none⟩ (.slice A' k k)) := by
  subst h1 h2
  have hb1 := hx.own.block_type
  have hb2 := hx.pek.block_type
  have hne : ∀ (v : Value), (∀ j, v.ownBlock = some j → ∃ cur e, w.heap[j]? = some (.cells cur e (0, 0)) ∧ e ≠ 63) → ∀ j, v.ownBlock = some j → ¬ (j = g) := by
    rintro v hv j hj rfl
    obtain ⟨cur, e, h1, h2⟩ := hv j hj
    rw [hx.blk] at h1
    injection h1 with h1
    injection h1 with _ h1
    exact h2 h1.symm
  have hkg : Kept (fun k => k = g) w ((w.setCell ⟨g, 1, none⟩ (.slice A k k)).setCell ⟨g, 3, none⟩ (.slice A' k k)) :=
    Kept.setCell (S := fun k => k = g) (p := ⟨g, 3, none⟩) (Kept.setCell (S := fun k => k = g) (p := ⟨g, 1, none⟩) (Kept.refl _ w) rfl _) rfl _
  have hl : (es.take k).length = k := by simp; omega
  refine ⟨.slice A k k, .slice A' k k, ⟨hx.val.take k, heap_setCell_at (heap_setCell_at hx.blk _) _, ?_, ?_⟩, hkg.mono fun k _ h => .inl h, ?_⟩
  · have := (hx.own.cut k hk).kept hkg (hne _ fun j hj => by
      obtain ⟨cur, h⟩ := hx.own.block_type j ((own_slice A _ _ _ _).trans hj)
      exact ⟨cur, _, h, by decide⟩)
    rw [hl, entVals_take]
    exact this
  · have := (hx.pek.cut k hk).kept hkg (hne _ fun j hj => by
      obtain ⟨cur, h⟩ := hx.pek.block_type j ((own_slice A' _ _ _ _).trans hj)
      exact ⟨cur, _, h, by decide⟩)
    rw [hl]
    unfold peakVals at this ⊢
    rw [peaks_take, List.map_take]
    simpa using this
  · rintro j (rfl | hj | hj)
    · exact .inl (.inl rfl)
    · exact .inl (.inr (.inl ((own_slice A _ _ _ _).trans hj)))
    · exact .inl (.inr (.inr ((own_slice A' _ _ _ _).trans hj)))

set_option maxHeartbeats 400000 in
theorem back_any (n : Int) (hm : es.length ≤ 140737488355328) (hn : -9223372036854775808 ≤ n ∧ n ≤ 9223372036854775807) : Calls Try.prog 17 #[.pointer (some ⟨g, 0, none⟩), .int .i64 n] w fun r w' => r = .returned (.tuple #[]) ∧ Turned w g base ve vp (es.take n.toNat) w' := by
  obtain ⟨c0, c1, c2, c3, c4⟩ := hx.c
  have hf := hx.free
  have hg := hx.lt
  have HX := Lib.hid hx
  obtain ⟨A, c, rfl⟩ := hx.own.slice
  obtain ⟨A', c', rfl⟩ := hx.pek.slice
  have HL := Lib.hid (len_any w g base es _ _ hx)
  have HT := Lib.hid (fun k => back_turned w g base es _ _ hx A A' c c' k rfl rfl)
  have hcc : es.length ≤ c ∧ es.length ≤ c' := by
    constructor
    · rcases hx.own.2 with ⟨hv, h0⟩ | ⟨_, cap, _, hv, _, _, hnc, _⟩
      · omega
      · injection hv with _ _ e3; omega
    · rcases hx.pek.2 with ⟨hv, h0⟩ | ⟨_, cap, _, hv, _, _, hnc, _⟩
      · omega
      · injection hv with _ _ e3; omega
  obtain ⟨hc1, hc2⟩ := hcc
  obtain ⟨hn1, hn2⟩ := hn
  have f1 := hf 1
  have f3 := hf 3
  clear hx hf
  by_cases hle : n < 0
  · have HE := Lib.hid (show es.take n.toNat = es.take 0 by rw [show n.toNat = 0 by omega])
    go_enter Try.func17, Try.ntmps17
    go_wp2_with fail
    refine HL.out.mono ?_
    rintro r w1 ⟨rfl, rfl⟩
    go_wp2_with fail
    go_end0
    refine ⟨rfl, ?_⟩
    rw [HE.out]
    exact HT.out 0 (by omega)
  · obtain ⟨k, rfl⟩ := Int.eq_ofNat_of_zero_le (show 0 ≤ n by omega)
    by_cases hlt : k < es.length
    · go_enter Try.func17, Try.ntmps17
      go_wp2_with fail
      refine HL.out.mono ?_
      rintro r w1 ⟨rfl, rfl⟩
      go_wp2_with fail
      go_end0
      exact ⟨rfl, HT.out k (by omega)⟩
    · have HE := Lib.hid (show es.take k = es.take es.length by rw [List.take_length]; exact List.take_of_length_le (by omega))
      go_enter Try.func17, Try.ntmps17
      go_wp2_with fail
      refine HL.out.mono ?_
      rintro r w1 ⟨rfl, rfl⟩
      go_wp2_with fail
      all_goals
        go_end0
        refine ⟨rfl, ?_⟩
        first
          | exact HT.out k (by omega)
          | (show Turned w g base _ _ (es.take k) _
             rw [HE.out]
             exact HT.out es.length (by omega))
end
end Go.Proofs.Ytomlhedichdkkaa
