/- The walk of Add: what it answers, and what the index becomes. -/
import Derived.Test.YtomlhedichdkkaaMut
namespace Go.Proofs.Ytomlhedichdkkaa
open Go Go.RowKit
set_option linter.unusedVariables false

def badE (e : Ent) : Prop := e.count < 1 ∨ 256 < e.count ∨ e.size < 1 ∨ 36000 < e.size
instance (e : Ent) : Decidable (badE e) := by unfold badE; infer_instance

/-- The error's number of Add. -/
def addE (base : Int) (es : List Ent) (e : Ent) : Nat :=
  if badE e then 3 else if e.base ≠ nextOf base es ∨ e.at_ ≠ sizeOf es then 190 else if 4611686018427387904 - e.count < e.base then 222 else 0
def addTo (base : Int) (es : List Ent) (e : Ent) : List Ent := if addE base es e = 0 then es ++ [e] else es

theorem same_turned {w w' : World} {g : Nat} {base : Int} {es : List Ent} {ve vp : Value} (hx : IX w g base es ve vp) (hb : Below w.heap.size w w') : Turned w g base ve vp es w' := ⟨ve, vp, hx.below hb, Kept.of_below hb, fun k h => .inl h⟩

set_option maxHeartbeats 1000000 in
theorem add_bad (w : World) (g : Nat) (e : Ent) (h : badE e) : Calls Try.prog 19 #[.pointer (some ⟨g, 0, none⟩), e.val] w fun r w' => r = .returned (.int .i64 3) ∧ Below w.heap.size w w' := by
  have HB := Lib.hid (fun o => (Below.refl w.heap.size w).alloc (Nat.le_refl _) o)
  unfold Ent.val
  by_cases c1 : e.count < 1
  · go_enter Try.func19, Try.ntmps19
    go_wp2_with fail
    go_ret
    exact ⟨rfl, HB.out _⟩
  by_cases c2 : 256 < e.count
  · clear h
    go_enter Try.func19, Try.ntmps19
    go_wp2_with fail
    go_ret
    exact ⟨rfl, HB.out _⟩
  by_cases c3 : e.size < 1
  · clear h
    go_enter Try.func19, Try.ntmps19
    go_wp2_with fail
    go_ret
    exact ⟨rfl, HB.out _⟩
  · have c4 : 36000 < e.size := by unfold badE at h; omega
    clear h
    go_enter Try.func19, Try.ntmps19
    go_wp2_with fail
    go_ret
    exact ⟨rfl, HB.out _⟩

section
variable (w : World) (g : Nat) (base : Int) (es : List Ent) (ve vp : Value) (hx : IX w g base es ve vp) (hm : es.length ≤ 140737488355328)
include hx hm

set_option maxHeartbeats 1000000 in
theorem add_gap1 (e : Ent) (h : ¬ badE e) (hn : e.base ≠ nextOf base es) : Calls Try.prog 19 #[.pointer (some ⟨g, 0, none⟩), e.val] w fun r w' => r = .returned (.int .i64 190) ∧ Below w.heap.size w w' := by
  have HB := Lib.hid (fun o => (Below.refl w.heap.size w).alloc (Nat.le_refl _) o)
  have HX := Lib.hid hx
  unfold Ent.val
  unfold badE at h
  have c1 : ¬ e.count < 1 := by omega
  have c2 : ¬ 256 < e.count := by omega
  have c3 : ¬ e.size < 1 := by omega
  have c4 : ¬ 36000 < e.size := by omega
  have hne : (e.base != nextOf base es) = true := by rw [bne_iff_ne]; exact hn
  clear h hx hn
  go_enter Try.func19, Try.ntmps19
  go_wp2_with fail
  first | go_region_with (go_at_call 14; refine (next_any _ g base es ve vp (HX.out.below (HB.out _).drew) hm).mono ?_; rintro r w1 ⟨rfl, hb⟩; have hb1 : Below w.heap.size w w1 := (HB.out _).drew.trans (hb.mono (by simp)); have k0 : w1.cell? ⟨w.heap.size, 0, none⟩ = some (.int .i64 e.base) := keep_cell hb (by simp) (by simp)) | fail
  all_goals go_wp2_with fail
  all_goals go_ret
  all_goals exact ⟨rfl, hb1⟩

set_option maxHeartbeats 1000000 in
theorem add_gap2 (e : Ent) (h : ¬ badE e) (hn : e.base = nextOf base es) (hn2 : e.at_ ≠ sizeOf es) : Calls Try.prog 19 #[.pointer (some ⟨g, 0, none⟩), e.val] w fun r w' => r = .returned (.int .i64 190) ∧ Below w.heap.size w w' := by
  have HB := Lib.hid (fun o => (Below.refl w.heap.size w).alloc (Nat.le_refl _) o)
  have HX := Lib.hid hx
  unfold Ent.val
  unfold badE at h
  have c1 : ¬ e.count < 1 := by omega
  have c2 : ¬ 256 < e.count := by omega
  have c3 : ¬ e.size < 1 := by omega
  have c4 : ¬ 36000 < e.size := by omega
  have hne : (e.base != nextOf base es) = false := by simp [hn]
  have hne2 : (e.at_ != sizeOf es) = true := by rw [bne_iff_ne]; exact hn2
  clear h hx hn hn2
  go_enter Try.func19, Try.ntmps19
  go_wp2_with fail
  have HB0 : Below w.heap.size w (w.alloc (.cells #[.int .i64 e.base, .int .i64 e.count, .int .i64 e.at_, .int .i64 e.size, .int .i64 e.last, .int .i64 e.pid, .int .i16 e.pep, .int .i32 e.seq] 30)).drew := (HB.out _).drew
  have hl0 : w.heap.size < (w.alloc (.cells #[.int .i64 e.base, .int .i64 e.count, .int .i64 e.at_, .int .i64 e.size, .int .i64 e.last, .int .i64 e.pid, .int .i16 e.pep, .int .i32 e.seq] 30)).drew.heap.size := by simp
  go_region_held3 (fun w' => w'.cell? ⟨w.heap.size, 0, none⟩ = some (.int .i64 e.base) ∧ w'.cell? ⟨w.heap.size, 2, none⟩ = some (.int .i64 e.at_) ∧ w.heap.size < w'.heap.size ∧ Below w.heap.size w w') (go_keep)
    (first
      | (go_at_call 14; refine (next_any _ g base es ve vp (HX.out.below (‹_ ∧ _ ∧ _ ∧ Below w.heap.size w _›).2.2.2) hm).mono ?_; rintro r w1 ⟨rfl, hb⟩; have hb1 : Below w.heap.size w w1 := (‹_ ∧ _ ∧ _ ∧ Below w.heap.size w _›).2.2.2.trans (hb.mono (‹_ ∧ _ ∧ _ ∧ Below w.heap.size w _›).2.2.2.size); have k0 := keep_cell hb (‹_ ∧ _ ∧ _ ∧ Below w.heap.size w _›).2.2.1 (‹_ ∧ _ ∧ _ ∧ Below w.heap.size w _›).1; have k2 := keep_cell hb (‹_ ∧ _ ∧ _ ∧ Below w.heap.size w _›).2.2.1 (‹_ ∧ _ ∧ _ ∧ Below w.heap.size w _›).2.1; have k3 := Nat.lt_of_lt_of_le (‹_ ∧ _ ∧ _ ∧ Below w.heap.size w _›).2.2.1 hb.size)
      | (go_at_call 15; refine (size_any _ g base es ve vp (HX.out.below (‹_ ∧ _ ∧ _ ∧ Below w.heap.size w _›).2.2.2) hm).mono ?_; rintro r w2 ⟨rfl, hc⟩; have hb2 : Below w.heap.size w w2 := (‹_ ∧ _ ∧ _ ∧ Below w.heap.size w _›).2.2.2.trans (hc.mono (‹_ ∧ _ ∧ _ ∧ Below w.heap.size w _›).2.2.2.size); have l0 := keep_cell hc (‹_ ∧ _ ∧ _ ∧ Below w.heap.size w _›).2.2.1 (‹_ ∧ _ ∧ _ ∧ Below w.heap.size w _›).1; have l2 := keep_cell hc (‹_ ∧ _ ∧ _ ∧ Below w.heap.size w _›).2.2.1 (‹_ ∧ _ ∧ _ ∧ Below w.heap.size w _›).2.1; have l3 := Nat.lt_of_lt_of_le (‹_ ∧ _ ∧ _ ∧ Below w.heap.size w _›).2.2.1 hc.size))
  all_goals go_wp2_with fail
  all_goals go_ret
  all_goals exact ⟨rfl, hb2⟩
end
end Go.Proofs.Ytomlhedichdkkaa
