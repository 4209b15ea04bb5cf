/- The walks of the keys, of the search's tests and of sort.Search. -/
import Derived.Test.YtomlhedichdkkaaBase
namespace Go.Proofs.Ytomlhedichdkkaa
open Go Go.RowKit
set_option linter.unusedVariables false

theorem behind_any (e : Ent) (w : World) (h0 : -9223372036854775808 ≤ e.base) (h1 : e.base ≤ 4611686018427387904) (h2 : 1 ≤ e.count) (h3 : e.count ≤ 256) :
    Calls Try.prog 28 #[e.val] w fun r w' => r = .returned (.int .i64 (e.base + e.count - 1)) ∧ Below w.heap.size w w' := by
  unfold Ent.val
  go_enter Try.func28, Try.ntmps28
  go_wp2
  go_ret
  exact ⟨rfl, (Below.refl _ _).alloc (Nat.le_refl _) _⟩

theorem peak_any (t : Int) (w : World) :
    Calls Try.prog 29 #[.int .i64 t] w fun r w' => r = .returned (.int .i64 t) ∧ w = w' := by
  go_enter Try.func29, Try.ntmps29
  go_wp2
  go_ret
  exact ⟨rfl, rfl⟩

/-- A cell of old memory behind a call. -/
theorem keep_cell {B : Nat} {w w1 : World} (hb : Below B w w1) {b o : Nat} (h : b < B) {v : Value} (hc : w.cell? ⟨b, o, none⟩ = some v) : w1.cell? ⟨b, o, none⟩ = some v := (hb.cell (p := ⟨b, o, none⟩) h).trans hc

set_option maxHeartbeats 1000000 in
/-- The test of the search over the entries. -/
theorem entTest (g p q b n c i : Nat) (k : Int) (e : Ent) (w : World) (hg : g < w.heap.size) (hp : p < w.heap.size) (hq : q < w.heap.size) (hb : b < w.heap.size)
    (hi : i < n) (hm : n ≤ 9223372036854775807)
    (g1 : w.cell? ⟨g, 1, none⟩ = some (.slice (some ⟨b, 0, none⟩) n c)) (g2 : w.cell? ⟨g, 2, none⟩ = some (.func (.func 28) #[] #[]))
    (hcp : w.cell? ⟨p, 0, none⟩ = some (.pointer (some ⟨g, 1, none⟩))) (hcq : w.cell? ⟨q, 0, none⟩ = some (.int .i64 k))
    (he : EntAt w b (i * 8) e) (h0 : -9223372036854775808 ≤ e.base) (h1 : e.base ≤ 4611686018427387904) (h2 : 1 ≤ e.count) (h3 : e.count ≤ 256) :
    Calls Try.prog 39 #[.int .i64 i, .pointer (some ⟨p, 0, none⟩), .pointer (some ⟨q, 0, none⟩)] w
      fun r w' => r = .returned (.bool (decide (k ≤ e.base + e.count - 1))) ∧ Below w.heap.size w w' := by
  obtain ⟨c0, c1, c2, c3, c4, c5, c6, c7⟩ := he
  have hi1 : (0 : Int) ≤ (i : Int) := by omega
  have hi2 : (i : Int) < (n : Int) := by omega
  go_enter Try.func39, Try.ntmps39
  go_wp2_with fail
  go_region_held3 (fun w' => w'.cell? ⟨g, 1, none⟩ = some (.slice (some ⟨b, 0, none⟩) n c) ∧ w'.cell? ⟨g, 2, none⟩ = some (.func (.func 28) #[] #[]) ∧ w'.cell? ⟨p, 0, none⟩ = some (.pointer (some ⟨g, 1, none⟩)) ∧ w'.cell? ⟨q, 0, none⟩ = some (.int .i64 k) ∧
      w'.cell? ⟨b, i * 8, none⟩ = some (.int .i64 e.base) ∧ w'.cell? ⟨b, i * 8 + 1, none⟩ = some (.int .i64 e.count) ∧ w'.cell? ⟨b, i * 8 + 2, none⟩ = some (.int .i64 e.at_) ∧ w'.cell? ⟨b, i * 8 + 3, none⟩ = some (.int .i64 e.size) ∧
      w'.cell? ⟨b, i * 8 + 4, none⟩ = some (.int .i64 e.last) ∧ w'.cell? ⟨b, i * 8 + 5, none⟩ = some (.int .i64 e.pid) ∧ w'.cell? ⟨b, i * 8 + 6, none⟩ = some (.int .i16 e.pep) ∧ w'.cell? ⟨b, i * 8 + 7, none⟩ = some (.int .i32 e.seq)) (go_keep)
    ((go_at_call 28; refine (behind_any e _ h0 h1 h2 h3).mono ?_; rintro r w' ⟨rfl, hbb⟩; have e1 := keep_cell hbb hg g1; have e2 := keep_cell hbb hg g2; have e3 := keep_cell hbb hp hcp; have e4 := keep_cell hbb hq hcq; have d0 := keep_cell hbb hb c0; have d1 := keep_cell hbb hb c1; have d2 := keep_cell hbb hb c2; have d3 := keep_cell hbb hb c3; have d4 := keep_cell hbb hb c4; have d5 := keep_cell hbb hb c5; have d6 := keep_cell hbb hb c6; have d7 := keep_cell hbb hb c7))
  go_wp2_with fail
  go_ret
  exact ⟨rfl, (Below.refl w.heap.size w).drew.trans hbb⟩

set_option maxHeartbeats 1000000 in
/-- The test of the search over the peaks. -/
theorem peakTest (g p q b n c i : Nat) (k t : Int) (w : World) (hg : g < w.heap.size) (hp : p < w.heap.size) (hq : q < w.heap.size) (hb : b < w.heap.size)
    (hi : i < n) (hm : n ≤ 9223372036854775807)
    (g1 : w.cell? ⟨g, 3, none⟩ = some (.slice (some ⟨b, 0, none⟩) n c)) (g2 : w.cell? ⟨g, 4, none⟩ = some (.func (.func 29) #[] #[]))
    (hcp : w.cell? ⟨p, 0, none⟩ = some (.pointer (some ⟨g, 3, none⟩))) (hcq : w.cell? ⟨q, 0, none⟩ = some (.int .i64 k))
    (c0 : w.cell? ⟨b, i, none⟩ = some (.int .i64 t)) :
    Calls Try.prog 37 #[.int .i64 i, .pointer (some ⟨p, 0, none⟩), .pointer (some ⟨q, 0, none⟩)] w
      fun r w' => r = .returned (.bool (decide (k ≤ t))) ∧ Below w.heap.size w w' := by
  have hi1 : (0 : Int) ≤ (i : Int) := by omega
  have hi2 : (i : Int) < (n : Int) := by omega
  have hb0 : Below w.heap.size w w.drew := (Below.refl w.heap.size w).drew
  go_enter Try.func37, Try.ntmps37
  go_wp2_with fail
  go_region_held3 (fun w' => w'.cell? ⟨g, 3, none⟩ = some (.slice (some ⟨b, 0, none⟩) n c) ∧ w'.cell? ⟨g, 4, none⟩ = some (.func (.func 29) #[] #[]) ∧ w'.cell? ⟨p, 0, none⟩ = some (.pointer (some ⟨g, 3, none⟩)) ∧ w'.cell? ⟨q, 0, none⟩ = some (.int .i64 k) ∧
      w'.cell? ⟨b, i, none⟩ = some (.int .i64 t)) (go_keep)
    ((go_at_call 29; refine (peak_any t _).mono ?_; rintro r w' ⟨rfl, rfl⟩))
  go_wp2_with fail
  go_ret
  exact ⟨rfl, hb0⟩

def Found (n : Nat) (p : Nat → Bool) (w : World) (r : Ending) (w' : World) : Prop :=
  ∃ m : Nat, m ≤ n ∧ r = .returned (.int .i64 (m : Int)) ∧ (∀ j, j < m → p j = false) ∧ (m < n → p m = true) ∧ Below w.heap.size w w'

set_option maxHeartbeats 1000000 in
theorem search_ent (c1 c2 : Value) (n : Nat) (p : Nat → Bool) (w : World) (hn : n ≤ 4611686018427387904)
    (hp : ∀ (i : Nat) (W : World), i < n → Below w.heap.size w W → Calls Try.prog 39 #[.int .i64 (i : Int), c1, c2] W fun r w' => r = .returned (.bool (p i)) ∧ Below W.heap.size W w')
    (hmono : ∀ a b, a ≤ b → b < n → p a = true → p b = true) :
    Calls Try.prog 36 #[.int .i64 (n : Int), .func (.func 39) #[] #[c1, c2]] w (Found n p w) := by
  have HP := Lib.hid hp
  have HM := Lib.hid hmono
  clear hp hmono
  go_enter Try.func36, Try.ntmps36
  go_wp2
  go_loopw [5, 6] (fun i j wr => ∃ a b : Nat, i = .int .i64 (a : Int) ∧ j = .int .i64 (b : Int) ∧ a ≤ b ∧ b ≤ n ∧ (∀ x, x < a → p x = false) ∧ (b < n → p b = true) ∧ Below w.heap.size w wr) (fun i j _ => (intOf j - intOf i).toNat)
  case atStart => exact ⟨0, n, rfl, rfl, by omega, by omega, fun x hx => by omega, fun h => by omega, Below.refl _ _⟩
  case round =>
    obtain ⟨a, b, rfl, rfl, hab, hbn, h1, h2, hb⟩ := hrel
    have H1 := Lib.hid h1
    have H2 := Lib.hid h2
    have HB := Lib.hid hb
    clear h1 h2 hb
    by_cases hlt : a < b
    · have HC := Lib.hid (HP.out ((a + b) / 2) wr (by omega) HB.out)
      cases hq : p ((a + b) / 2)
      · rw [hq] at HC
        have HQ := Lib.hid hq
        clear hq
        go_wp2_with fail
        refine HC.out.mono ?_
        rintro r w1 ⟨rfl, hb1⟩
        go_wp2_with fail
        go_roundw
        case rel =>
          refine ⟨(a + b) / 2 + 1, b, by go_num, rfl, by omega, hbn, fun x hx => ?_, H2.out, HB.out.trans (hb1.mono HB.out.size)⟩
          cases hpx : p x with
          | false => rfl
          | true =>
            have := HM.out x ((a + b) / 2) (by omega) (by omega) hpx
            rw [HQ.out] at this
            cases this
        case measure => simp [intOf]; omega
      · rw [hq] at HC
        have HQ := Lib.hid hq
        clear hq
        go_wp2_with fail
        refine HC.out.mono ?_
        rintro r w1 ⟨rfl, hb1⟩
        go_wp2_with fail
        go_roundw
        case rel => exact ⟨a, (a + b) / 2, rfl, by go_num, by omega, by omega, H1.out, fun _ => HQ.out, HB.out.trans (hb1.mono HB.out.size)⟩
        case measure => simp [intOf]; omega
    · go_wp2_with fail
      go_ret
      have hab' : a = b := by omega
      subst hab'
      exact ⟨a, hbn, rfl, H1.out, H2.out, HB.out⟩

set_option maxHeartbeats 1000000 in
theorem search_peak (c1 c2 : Value) (n : Nat) (p : Nat → Bool) (w : World) (hn : n ≤ 4611686018427387904)
    (hp : ∀ (i : Nat) (W : World), i < n → Below w.heap.size w W → Calls Try.prog 37 #[.int .i64 (i : Int), c1, c2] W fun r w' => r = .returned (.bool (p i)) ∧ Below W.heap.size W w')
    (hmono : ∀ a b, a ≤ b → b < n → p a = true → p b = true) :
    Calls Try.prog 36 #[.int .i64 (n : Int), .func (.func 37) #[] #[c1, c2]] w (Found n p w) := by
  have HP := Lib.hid hp
  have HM := Lib.hid hmono
  clear hp hmono
  go_enter Try.func36, Try.ntmps36
  go_wp2
  go_loopw [5, 6] (fun i j wr => ∃ a b : Nat, i = .int .i64 (a : Int) ∧ j = .int .i64 (b : Int) ∧ a ≤ b ∧ b ≤ n ∧ (∀ x, x < a → p x = false) ∧ (b < n → p b = true) ∧ Below w.heap.size w wr) (fun i j _ => (intOf j - intOf i).toNat)
  case atStart => exact ⟨0, n, rfl, rfl, by omega, by omega, fun x hx => by omega, fun h => by omega, Below.refl _ _⟩
  case round =>
    obtain ⟨a, b, rfl, rfl, hab, hbn, h1, h2, hb⟩ := hrel
    have H1 := Lib.hid h1
    have H2 := Lib.hid h2
    have HB := Lib.hid hb
    clear h1 h2 hb
    by_cases hlt : a < b
    · have HC := Lib.hid (HP.out ((a + b) / 2) wr (by omega) HB.out)
      cases hq : p ((a + b) / 2)
      · rw [hq] at HC
        have HQ := Lib.hid hq
        clear hq
        go_wp2_with fail
        refine HC.out.mono ?_
        rintro r w1 ⟨rfl, hb1⟩
        go_wp2_with fail
        go_roundw
        case rel =>
          refine ⟨(a + b) / 2 + 1, b, by go_num, rfl, by omega, hbn, fun x hx => ?_, H2.out, HB.out.trans (hb1.mono HB.out.size)⟩
          cases hpx : p x with
          | false => rfl
          | true =>
            have := HM.out x ((a + b) / 2) (by omega) (by omega) hpx
            rw [HQ.out] at this
            cases this
        case measure => simp [intOf]; omega
      · rw [hq] at HC
        have HQ := Lib.hid hq
        clear hq
        go_wp2_with fail
        refine HC.out.mono ?_
        rintro r w1 ⟨rfl, hb1⟩
        go_wp2_with fail
        go_roundw
        case rel => exact ⟨a, (a + b) / 2, rfl, by go_num, by omega, by omega, H1.out, fun _ => HQ.out, HB.out.trans (hb1.mono HB.out.size)⟩
        case measure => simp [intOf]; omega
    · go_wp2_with fail
      go_ret
      have hab' : a = b := by omega
      subst hab'
      exact ⟨a, hbn, rfl, H1.out, H2.out, HB.out⟩

end Go.Proofs.Ytomlhedichdkkaa
