/- A row that is written, and grown by an entry. -/
import Derived.Test.YtomlhedichdkkaaObj
import Derived.Test.YtomlhedichdkkaaHolds
namespace Go.Proofs.Ytomlhedichdkkaa
open Go Go.RowKit
set_option linter.unusedVariables false

theorem step_bel {a b c : World} (h : Below a.heap.size a b) (k : Below b.heap.size b c) : Below a.heap.size a c := h.trans (k.mono h.size)

theorem Obj.lt {w : World} {g : Nat} {base : Int} {es : List Ent} {P : Nat → Prop} (h : Obj w g base es P) : Obj w g base es (fun k => P k ∧ k < w.heap.size) := by
  obtain ⟨ve, vp, hx, hf⟩ := h
  exact ⟨ve, vp, hx, fun k hk => ⟨hf k hk, hx.foot_lt k hk⟩⟩

theorem Owns.store {w : World} {B g cap n sz : Nat} {e : TypeId} {xs : List Value} (h : Owns w B e sz (.slice (some ⟨g, 0, none⟩) n cap) n xs) (j : Nat) (u : Value) :
    Owns (w.setCell ⟨g, j, none⟩ u) B e sz (.slice (some ⟨g, 0, none⟩) n cap) n (xs.set j u) := by
  refine ⟨by rw [List.length_set]; exact h.1, ?_⟩
  rcases h.2 with ⟨hv, _⟩ | ⟨g', cap', cur, hv, hg, hh, hnc, hcm, hcs, ht⟩
  · cases hv
  · injection hv with h1 _ h2
    injection h1 with h1
    injection h1 with h1
    subst h1 h2
    exact .inr ⟨g, cap, cur.setIfInBounds j u, rfl, hg, heap_setCell_at hh u, hnc, hcm, by simpa using hcs, by rw [Array.toList_setIfInBounds, List.take_set, ht]⟩
theorem Owns.free {w : World} {B g cap n sz : Nat} {e : TypeId} {xs : List Value} (h : Owns w B e sz (.slice (some ⟨g, 0, none⟩) n cap) n xs) (hn : 0 < n) (j : Nat) : w.frozen? ⟨g, j, none⟩ = false := by
  rcases h.2 with ⟨hv, _⟩ | ⟨g', cap', cur, hv, hg, hh, _⟩
  · cases hv
  · injection hv with h1 _ h2
    injection h1 with h1
    injection h1 with h1
    subst h1
    simp [World.frozen?, hh]
theorem Owns.cell {w : World} {B g cap n sz : Nat} {e : TypeId} {xs : List Value} (h : Owns w B e sz (.slice (some ⟨g, 0, none⟩) n cap) n xs) (j : Nat) (hj : j < n * sz) : ∃ u, w.cell? ⟨g, j, none⟩ = some u := by
  have hn : 0 < n := by
    rcases Nat.eq_zero_or_pos n with h0 | h0
    · subst h0; omega
    · exact h0
  obtain ⟨g', cap', hv, _, _, _, _, hc⟩ := h.form hn
  injection hv with h1 _ h2
  injection h1 with h1
  injection h1 with h1
  subst h1
  exact ⟨_, hc j _ (List.getElem?_eq_getElem (by rw [h.1]; exact hj))⟩

/-- 'append(items, e)'. -/
theorem wpList_push_ent {ops : Array Oper} {rest : List Oper} {o : Oper} {a : Act} {Q : Exit → Act → World → Prop} (hgd : o.guard = none) (s x : Operand)
    (ho : o.op = .call { callee := .builtin .append, args := #[s, x], argTypes := #[22, 22] })
    (W : World) (B : Nat) (hB : B ≤ W.heap.size) (v : Value) (xs : List Value) (n : Nat) (e : Ent) (hs : a.eval s = v) (hx : a.eval x = .slice (some ⟨W.heap.size, 0, none⟩) 1 1) (hown : Owns W B 30 8 v n xs)
    (hroom : (n + 1) * 56 ≤ 140737488355328)
    (h : ∀ v' w', Owns w' B 30 8 v' (n + 1) (xs ++ e.vs) → Kept (fun k => v.ownBlock = some k) W w' → (∀ k, v'.ownBlock = some k → v.ownBlock = some k ∨ W.heap.size ≤ k) → wpList Try.prog ops Q rest (a.put o.dst v') w') :
    wpList Try.prog ops Q (o :: rest) a (W.alloc (.cells #[.int .i64 e.base, .int .i64 e.count, .int .i64 e.at_, .int .i64 e.size, .int .i64 e.last, .int .i64 e.pid, .int .i16 e.pep, .int .i32 e.seq] 30)) := by
  obtain ⟨i0, hi, hz0, hz1, hz2⟩ := info_parts ent_info
  have hk : Kept (fun k => v.ownBlock = some k) W (W.alloc (.cells #[.int .i64 e.base, .int .i64 e.count, .int .i64 e.at_, .int .i64 e.size, .int .i64 e.last, .int .i64 e.pid, .int .i16 e.pep, .int .i32 e.seq] 30)) := (Kept.refl _ W).alloc _
  have hk0 : Kept (fun _ => False) W (W.alloc (.cells #[.int .i64 e.base, .int .i64 e.count, .int .i64 e.at_, .int .i64 e.size, .int .i64 e.last, .int .i64 e.pid, .int .i16 e.pep, .int .i32 e.seq] 30)) := (Kept.refl _ W).alloc _
  refine wpList_app _ hgd s x 22 ho B 30 i0 _ 8 56 Try.underlying22 hi hz0 hz1 hz2 rfl (by decide) v n xs hs (hown.kept hk0 (fun _ _ h => h)) (some ⟨W.heap.size, 0, none⟩) 1 1 e.vs hx ⟨rfl, fun _ => ⟨_, rfl, by simp, fun j u hu => ?_⟩⟩ ?_ (by simp only [maxLen]; omega) (by omega) (by simp; omega) ?_
  · rw [add_zero']
    have h := cell_of_row _ W.heap.size j _ _ _ (heap_alloc_new W (.cells #[.int .i64 e.base, .int .i64 e.count, .int .i64 e.at_, .int .i64 e.size, .int .i64 e.last, .int .i64 e.pid, .int .i16 e.pep, .int .i32 e.seq] 30))
    rw [h, ← Array.getElem?_toList]
    exact hu
  · intro u hu
    simp [Ent.vs] at hu
    rcases hu with rfl | rfl | rfl | rfl | rfl | rfl | rfl | rfl <;> rfl
  · intro v' w' h1 h2 h3
    exact h v' w' h1 (hk.trans ⟨h2.os, h2.tape, h2.output, h2.size, h2.block⟩) (fun k hk => (h3 k hk).imp id (fun h => by simp at h; omega))
end Go.Proofs.Ytomlhedichdkkaa
