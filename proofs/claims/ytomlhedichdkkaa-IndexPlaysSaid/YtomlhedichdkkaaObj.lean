/- An index whose memory lies in given blocks; an index built anew of its own entries. -/
import Derived.Test.YtomlhedichdkkaaTimes
namespace Go.Proofs.Ytomlhedichdkkaa
open Go Go.RowKit
set_option linter.unusedVariables false

theorem follow_self {base : Int} {acc r : List Ent} {e : Ent} (h : Valid base (acc ++ e :: r)) : follow base acc e = e := by
  obtain ⟨h1, h2, _⟩ := h.ent acc.length e (by simp)
  rw [List.take_left' rfl] at h1 h2
  unfold follow nextOf sizeOf
  rw [← h1, ← h2]

theorem builtFrom_self {base : Int} : ∀ (r acc : List Ent), Valid base (acc ++ r) → (acc ++ r).length ≤ 1048576 → builtFrom base acc r = acc ++ r := by
  intro r
  induction r with
  | nil => intro acc _ _; simp [builtFrom]
  | cons e r ih =>
    intro acc h hl
    have hf := follow_self h
    have hva : Valid base acc := by have := h.take acc.length; rwa [List.take_left' rfl] at this
    obtain ⟨h1, h2, c1, c2, s1, s2, hE⟩ := h.ent acc.length e (by simp)
    rw [List.take_left' rfl] at h1 h2
    have hadd : addTo base acc e = acc ++ [e] := by
      have hb : ¬ badE e := by unfold badE; omega
      have hg : ¬ (e.base ≠ nextOf base acc ∨ e.at_ ≠ sizeOf acc) := by unfold nextOf sizeOf; omega
      have he : ¬ 4611686018427387904 - e.count < e.base := by omega
      have hz : addE base acc e = 0 := by unfold addE; rw [if_neg hb, if_neg hg, if_neg he]
      unfold addTo
      rw [if_pos hz]
    simp only [builtFrom]
    rw [hf, hadd]
    simp only [List.length_append, List.length_cons, List.length_nil] at hl ⊢
    by_cases hq : acc.length + (0 + 1) = 1048576
    · rw [if_pos hq]
      have : r = [] := List.eq_nil_of_length_eq_zero (by omega)
      subst this
      rfl
    · rw [if_neg hq, ih (acc ++ [e]) (by simpa using h) (by simp; omega)]
      simp
theorem built_self {base : Int} {L : List Ent} (h : Valid base L) (hl : L.length ≤ 1048576) : builtOf base L = L := by
  have := builtFrom_self L [] (by simpa using h) (by simpa using hl)
  simpa [builtOf] using this

def Obj (w : World) (g : Nat) (base : Int) (es : List Ent) (P : Nat → Prop) : Prop :=
  ∃ ve vp, IX w g base es ve vp ∧ ∀ k, Foot g ve vp k → P k

section
variable {w w' : World} {g : Nat} {base : Int} {es es' : List Ent} {P Q : Nat → Prop}
theorem Fr.obj {w0 : World} (h : Fr w0 w g base es) : Obj w g base es (fun k => w0.heap.size ≤ k ∧ k < w.heap.size) := by
  obtain ⟨ve, vp, hx, hf, _⟩ := h
  exact ⟨ve, vp, hx, fun k hk => ⟨hf k hk, hx.foot_lt k hk⟩⟩
theorem Obj.val (h : Obj w g base es P) : Valid base es := by obtain ⟨_, _, hx, _⟩ := h; exact hx.val
theorem Obj.kept {S : Nat → Prop} (h : Obj w g base es P) (hk : Kept S w w') (hS : ∀ k, P k → ¬ S k) : Obj w' g base es P := by
  obtain ⟨ve, vp, hx, hf⟩ := h
  exact ⟨ve, vp, hx.kept hk fun k h => hS k (hf k h), hf⟩
theorem Obj.below (h : Obj w g base es P) (hb : Below w.heap.size w w') : Obj w' g base es P :=
  h.kept (S := fun _ => False) (Kept.of_below hb) fun _ _ h => h
theorem Obj.mono (h : Obj w g base es P) (hP : ∀ k, P k → Q k) : Obj w g base es Q := by
  obtain ⟨ve, vp, hx, hf⟩ := h
  exact ⟨ve, vp, hx, fun k hk => hP k (hf k hk)⟩
theorem Obj.turned {ve vp : Value} (hf : ∀ k, Foot g ve vp k → P k) (ht : Turned w g base ve vp es' w') : Obj w' g base es' (fun k => P k ∨ w.heap.size ≤ k) ∧ Kept P w w' := by
  obtain ⟨ve', vp', hx', hk, hs⟩ := ht
  exact ⟨⟨ve', vp', hx', fun k h => (hs k h).imp (hf k) id⟩, hk.mono fun k _ h => hf k h⟩

theorem ob_add (h : Obj w g base es P) (e : Ent) (hroom : (es.length + 1) * 56 ≤ 140737488355328) :
    Calls Try.prog 19 #[.pointer (some ⟨g, 0, none⟩), e.val] w fun r w' => r = .returned (.int .i64 (addE base es e : Nat)) ∧ Obj w' g base (addTo base es e) (fun k => P k ∨ w.heap.size ≤ k) ∧ Kept P w w' := by
  obtain ⟨ve, vp, hx, hf⟩ := h
  refine (add_any w g base es ve vp hx e hroom).mono ?_
  rintro r w' ⟨rfl, ht⟩
  exact ⟨rfl, Obj.turned hf ht⟩
theorem ob_back (h : Obj w g base es P) (n : Int) (hm : es.length ≤ 140737488355328) (hn : -9223372036854775808 ≤ n ∧ n ≤ 9223372036854775807) :
    Calls Try.prog 17 #[.pointer (some ⟨g, 0, none⟩), .int .i64 n] w fun r w' => r = .returned (.tuple #[]) ∧ Obj w' g base (es.take n.toNat) (fun k => P k ∨ w.heap.size ≤ k) ∧ Kept P w w' := by
  obtain ⟨ve, vp, hx, hf⟩ := h
  refine (back_any w g base es ve vp hx n hm hn).mono ?_
  rintro r w' ⟨rfl, ht⟩
  exact ⟨rfl, Obj.turned hf ht⟩
theorem ob_len (h : Obj w g base es P) : Calls Try.prog 9 #[.pointer (some ⟨g, 0, none⟩)] w fun r w' => r = .returned (.int .i64 (es.length : Int)) ∧ w = w' := by
  obtain ⟨ve, vp, hx, hf⟩ := h
  exact len_any w g base es ve vp hx
theorem ob_base (h : Obj w g base es P) : Calls Try.prog 13 #[.pointer (some ⟨g, 0, none⟩)] w fun r w' => r = .returned (.int .i64 base) ∧ w = w' := by
  obtain ⟨ve, vp, hx, hf⟩ := h
  exact base_any w g base es ve vp hx
theorem ob_all (h : Obj w g base es P) (hm : es.length * 56 ≤ 140737488355328) : Calls Try.prog 10 #[.pointer (some ⟨g, 0, none⟩)] w (CloneAns es w) := by
  obtain ⟨ve, vp, hx, hf⟩ := h
  exact all_any w g base es ve vp hx hm
variable (h : Obj w g base es P) (hm : es.length ≤ 140737488355328)
include h hm
theorem ob_next : Calls Try.prog 14 #[.pointer (some ⟨g, 0, none⟩)] w fun r w' => r = .returned (.int .i64 (nextOf base es)) ∧ Below w.heap.size w w' := by
  obtain ⟨ve, vp, hx, hf⟩ := h
  exact next_any w g base es ve vp hx hm
theorem ob_size : Calls Try.prog 15 #[.pointer (some ⟨g, 0, none⟩)] w fun r w' => r = .returned (.int .i64 (sizeOf es)) ∧ Below w.heap.size w w' := by
  obtain ⟨ve, vp, hx, hf⟩ := h
  exact size_any w g base es ve vp hx hm
theorem ob_at (k : Int) : Calls Try.prog 11 #[.pointer (some ⟨g, 0, none⟩), .int .i64 k] w fun r w' => r = .returned (optAns (atOf base es k)) ∧ Below w.heap.size w w' := by
  obtain ⟨ve, vp, hx, hf⟩ := h
  exact at_any w g base es ve vp hx hm k
theorem ob_since (k : Int) : Calls Try.prog 16 #[.pointer (some ⟨g, 0, none⟩), .int .i64 k] w fun r w' => r = .returned (optAns (sinceOf es k)) ∧ Below w.heap.size w w' := by
  obtain ⟨ve, vp, hx, hf⟩ := h
  exact since_any w g base es ve vp hx hm k
theorem ob_span (k most : Int) (hmost : -9223372036854775808 ≤ most ∧ most ≤ 9223372036854775807) : Calls Try.prog 12 #[.pointer (some ⟨g, 0, none⟩), .int .i64 k, .int .i64 most] w fun r w' => r = .returned (spanAns (spanOf base es k most)) ∧ Below w.heap.size w w' := by
  obtain ⟨ve, vp, hx, hf⟩ := h
  exact span_any w g base es ve vp hx hm k most hmost
end
end Go.Proofs.Ytomlhedichdkkaa
