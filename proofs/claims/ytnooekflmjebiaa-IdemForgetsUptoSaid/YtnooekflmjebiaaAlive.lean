/- The document's example: alive answers true. -/
import Derived.Test.YtnooekflmjebiaaAll
namespace Go.Proofs.Ytnooekflmjebiaa
open Go Go.RowKit Go.Proofs.YtnooekflmjebiaaW.PrintWords Go.Proofs.Ytnooekflmjebiaa.PIdemPlays
set_option linter.unusedVariables false

def g0 : Int → Option (Int × List Mk) := fun _ => none
theorem new_tab {w : World} {t b : Nat} (h : TB w t b 0 (fun _ => none)) : Tab w t b 0 g0 :=
  ⟨_, h, fun x m hm => (by cases hm), fun x => ⟨fun _ => rfl, fun m hm => (by cases hm)⟩⟩
/-- Behind the example's Note. -/
def g1 : Int → Option (Int × List Mk) := fun x => if x = 7 then some (0, [⟨40, 2, 100⟩]) else none
theorem ex_note : noteT g0 7 0 40 2 100 = (g1, 0) := by
  have : badI 7 0 40 2 = false := by decide
  unfold noteT
  rw [if_neg (by rw [this]; decide), if_neg (by decide)]
  rfl
theorem ex_judge0 : judgeT g0 7 0 40 2 = (0, false, 0) := by decide
theorem ex_judge1 : judgeT g1 7 0 40 2 = (100, true, 0) := by decide
theorem ex_judge2 : judgeT g1 7 0 43 1 = (0, false, 211) := by decide

/-- The keys of such a table: one. -/
theorem ex_keys {ks : List Int} (h : Asc ks) (hm : ∀ x, x ∈ ks ↔ (g1 x).isSome = true) : ks.length = 1 := by
  have hk : ∀ x, x ∈ ks ↔ x = 7 := fun x => by
    rw [hm]
    unfold g1
    by_cases hx : x = 7 <;> simp [hx]
  match ks, h, hk with
  | [], _, hk => exact absurd ((hk 7).2 rfl) (by simp)
  | [a], _, _ => rfl
  | a :: b :: l, h, hk =>
    have ha := (hk a).1 (by simp)
    have hb := (hk b).1 (by simp)
    have := (List.pairwise_cons.1 h).1 b (by simp)
    omega

set_option maxRecDepth 100000 in
set_option maxHeartbeats 4000000 in
theorem alive_any (w : World) : Calls Try.prog 8 #[] w fun e w' => e = .returned (.bool true) ∧ Below w.heap.size w w' := by
  have HJ0 := Lib.hid (fun (t b n : Nat) (W : World) (h : Tab W t b n g0) => by have := judge_any t b n g0 7 0 40 2 W h ⟨by decide, by decide⟩; rwa [ex_judge0] at this)
  have HJ1 := Lib.hid (fun (t b n : Nat) (W : World) (h : Tab W t b n g1) => by have := judge_any t b n g1 7 0 40 2 W h ⟨by decide, by decide⟩; rwa [ex_judge1] at this)
  have HJ2 := Lib.hid (fun (t b n : Nat) (W : World) (h : Tab W t b n g1) => by have := judge_any t b n g1 7 0 43 1 W h ⟨by decide, by decide⟩; rwa [ex_judge2] at this)
  have HN := Lib.hid (fun (t b : Nat) (W : World) (h : Tab W t b 0 g0) => by have := note_any t b 0 g0 7 0 40 2 100 W h ⟨by decide, by decide⟩ (by decide) (by decide) (by decide) (by decide); rwa [ex_note] at this)
  go_enter Try.func8, Try.ntmps8
  go_wp2_with (first
    | (go_at_call 7; refine (new_any _).mono ?_; rintro e w1 ⟨t, b, rfl, hT, ht, hbl, hb1⟩; have HT := Lib.hid (new_tab hT); have HB := Lib.hid hb1; have HTL := Lib.hid (And.intro ht hbl); clear hT hb1 ht hbl)
    | (go_at_call 9; refine (HJ0.out t b _ _ HT.out).mono ?_; rintro e w2 ⟨rfl, hb⟩; have HT2 := Lib.hid (HT.out.below hb); have HB2 := Lib.hid (HB.out.trans (hb.mono HB.out.size)); clear HT HB hb; have HA := HT2; clear HT2; have HB := HB2; clear HB2)
    | (go_at_call 10; refine (HN.out t b _ HA.out).mono ?_; rintro e w3 ⟨rfl, hT, hk⟩; have HT3 := Lib.hid hT; have HB2 := Lib.hid (HB.out.trans (hk.below (w := w2) (B := w.heap.size) (by have := HB.out.size; omega) (fun j hj => by have := HTL.out; omega))); clear HA HB hT hk; have HC := HT3; clear HT3; have HB := HB2; clear HB2)
    | (go_at_call 9; refine (HJ1.out t b _ _ HC.out).mono ?_; rintro e w4 ⟨rfl, hb⟩; have HT2 := Lib.hid (HC.out.below hb); have HB2 := Lib.hid (HB.out.trans (hb.mono HB.out.size)); clear HC HB hb; have HD := HT2; clear HT2; have HB := HB2; clear HB2)
    | (go_at_call 9; refine (HJ2.out t b _ _ HD.out).mono ?_; rintro e w5 ⟨rfl, hb⟩; have HT2 := Lib.hid (HD.out.below hb); have HB2 := Lib.hid (HB.out.trans (hb.mono HB.out.size)); clear HD HB hb; have HE := HT2; clear HT2; have HB := HB2; clear HB2)
    | (go_at_call 16; refine (all_any t b _ _ _ HE.out (by decide)).mono ?_; rintro e w6 ⟨v, ks, rfl, hasc, hmem, hlen, hS, hb⟩; obtain ⟨A, c, rfl⟩ : ∃ A c, v = .slice A 1 c := (by obtain ⟨A_, c_, e_⟩ := Kd.R_slice (Kd.S_R hS); rw [List.length_map, ex_keys hasc hmem] at e_; exact ⟨A_, c_, e_⟩); have HB2 := Lib.hid (HB.out.trans (hb.mono HB.out.size)); clear HB hb hS hasc hmem hlen; have HB := HB2; clear HB2))
  go_ret
  exact ⟨rfl, HB.out⟩
end Go.Proofs.Ytnooekflmjebiaa
