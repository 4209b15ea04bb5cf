/- DiskPlans: its walk. -/
import Derived.Test.YtkhopknpadncdaaD5
namespace Go.Proofs.Ytkhopknpadncdaa
open Go Go.RowKit Go.Maps Go.Proofs.YtkhopknpadncdaaW.PrintWords Go.Proofs.Ytkhopknpadncdaa.PDiskFails Go.Proofs.YtkhopknpadncdaaW.PrintMore
set_option linter.unusedVariables false

def kP (step kind t : Int) : Dk := ⟨[], 100, [⟨step, kind, 0⟩], t, false⟩
def sNone : ByteArray := ⟨#[110, 111, 110, 101]⟩
theorem plans_step {step kind t j : Int} (hk : kind = 1 ∨ kind = 2) (h : t + 1 = j) : stepD (appendD [] [110, 111, 110, 101]) (partD [] [110, 111, 110, 101]) (kP step kind t) = (kP step kind j, if j = step then (if kind = 1 then 181 else 182) else 183) := by
  subst h
  unfold stepD kP
  rw [if_neg (by simp)]
  simp only
  unfold fateOf
  rw [List.find?_cons, List.find?_nil]
  by_cases hs : t + 1 = step
  · rw [show ((⟨step, kind, 0⟩ : Fat).step == t + 1) = true by simp [hs], if_pos hs]
    simp only [Option.getD_some]
    rcases hk with rfl | rfl <;> rfl
  · rw [show ((⟨step, kind, 0⟩ : Fat).step == t + 1) = false by rw [beq_eq_false_iff_ne]; exact fun e => hs e.symm, if_neg hs]
    rfl
theorem fat_C {W : World} {g : Nat} {C : Array Value} {ty : TypeId} {fr : Nat × Nat} (l : List Fat) (n : Nat) (hn : n = l.length) (hm : n ≤ 9223372036854775807) (h : W.heap[g]? = some (.cells C ty fr))
    (hC : ∀ j f, l[j]? = some f → C[j * 3]? = some (.int .i64 f.step) ∧ C[j * 3 + 1]? = some (.int .i64 f.kind) ∧ C[j * 3 + 2]? = some (.int .i64 f.n)) : kFat.C W (some ⟨g, 0, none⟩) n l := by
  refine ⟨hn.symm, hm, fun h0 => ⟨_, rfl, fun j p hj => ⟨[.int .i64 p.step, .int .i64 p.kind, .int .i64 p.n], rfl, ⟨[.int .i64 p.step], [.int .i64 p.kind, .int .i64 p.n], rfl, rfl, ⟨[.int .i64 p.kind], [.int .i64 p.n], rfl, rfl, rfl⟩⟩, fun i u hu => ?_⟩⟩⟩
  obtain ⟨c0, c1, c2⟩ := hC j p hj
  rw [addr_zero, cell_of_row W g _ C ty fr h]
  show C[j * 3 + i]? = some u
  have hi := (List.getElem?_eq_some_iff.1 hu).1
  rcases i with _ | _ | _ | i
  · exact c0.trans hu
  · exact c1.trans hu
  · exact c2.trans hu
  · exact absurd hi (by simp)
theorem fat1_C {W : World} {g : Nat} {ty : TypeId} {fr : Nat × Nat} (a b c : Int) (h : W.heap[g]? = some (.cells #[.int .i64 a, .int .i64 b, .int .i64 c] ty fr)) : kFat.C W (some ⟨g, 0, none⟩) 1 [⟨a, b, c⟩] :=
  fat_C _ _ rfl (by decide) h (fun j f hj => by
    have := (List.getElem?_eq_some_iff.1 hj).1
    obtain rfl : j = 0 := by simp at this; omega
    injection hj with hj
    subst hj
    exact ⟨rfl, rfl, rfl⟩)
theorem fat2_C {W : World} {g : Nat} {ty : TypeId} {fr : Nat × Nat} (a b c d e f : Int) (h : W.heap[g]? = some (.cells #[.int .i64 a, .int .i64 b, .int .i64 c, .int .i64 d, .int .i64 e, .int .i64 f] ty fr)) : kFat.C W (some ⟨g, 0, none⟩) 2 [⟨a, b, c⟩, ⟨d, e, f⟩] :=
  fat_C _ _ rfl (by decide) h (fun j f hj => by
    have := (List.getElem?_eq_some_iff.1 hj).1
    rcases j with _ | _ | j
    · injection hj with hj
      subst hj
      exact ⟨rfl, rfl, rfl⟩
    · injection hj with hj
      subst hj
      exact ⟨rfl, rfl, rfl⟩
    · simp at this; omega)
/-- What stands ahead of the loop: the fates' row was written over. -/
theorem plans_start {w w2 w3 w4 : World} {d : Nat} {S0 S1 S2 : Nat → Prop} {k : Dk} {C : Array Value} {ty ty2 : TypeId} {C2 : Array Value} {fr2 : Nat × Nat} (v : Value)
    (hS0 : ∀ b, S0 b → w.heap.size ≤ b) (hlt : ∀ b, S0 b → b < w2.heap.size) (hb : Below w.heap.size w w2)
    (hT1 : Tch S0 ((w2.alloc (.cells C ty)).alloc (.cells C2 ty2 fr2)) w3) (hS1 : ∀ b, S1 b → S0 b ∨ ((w2.alloc (.cells C ty)).alloc (.cells C2 ty2 fr2)).heap.size ≤ b)
    (hT2 : Tch S1 w3 w4) (hS2 : ∀ b, S2 b → S1 b ∨ w3.heap.size ≤ b) (hD : Disk w4 d S2 k 0) : Al w (w4.setCell ⟨w2.heap.size, 0, none⟩ v) d k 0 := by
  have z1 : ((w2.alloc (.cells C ty)).alloc (.cells C2 ty2 fr2)).heap.size = w2.heap.size + 2 := by simp
  rw [z1] at hS1
  have z3 := hT1.size
  rw [z1] at z3
  have hb2 := hb.size
  have hn : ¬ S2 w2.heap.size := fun h => by
    rcases hS2 _ h with h | h
    · rcases hS1 _ h with h | h
      · have := hlt _ h; omega
      · omega
    · omega
  have h1 : ∀ b, S1 b → w.heap.size ≤ b := fun b h => (hS1 b h).elim (hS0 b) (fun h => by omega)
  have h2 : ∀ b, S2 b → w.heap.size ≤ b := fun b h => (hS2 b h).elim (h1 b) (fun h => by omega)
  have bA : Below w.heap.size w ((w2.alloc (.cells C ty)).alloc (.cells C2 ty2 fr2)) := (hb.alloc hb2 _).alloc (by rw [World.size_alloc]; omega) _
  have b3 : Below w.heap.size w w3 := bA.trans (hT1.below (by rw [z1]; omega) hS0)
  have b4 : Below w.heap.size w w4 := b3.trans (hT2.below (by omega) h1)
  refine ⟨S2, hD.tch (T := fun b => b = w2.heap.size) (Tch.set _ _ _ rfl) (fun b hb => by rw [hb]; exact hn), h2, b4.trans ((Tch.set (S := fun b => b = w2.heap.size) w4 ⟨w2.heap.size, 0, none⟩ v rfl).below (by have := b4.size; omega) (fun b hb => by rw [hb]; exact hb2))⟩
theorem plans_row {w2 w3 : World} {S0 : Nat → Prop} {C : Array Value} {ty ty2 : TypeId} {C2 : Array Value} {fr2 : Nat × Nat}
    (hlt : ∀ b, S0 b → b < w2.heap.size) (hT1 : Tch S0 ((w2.alloc (.cells C ty)).alloc (.cells C2 ty2 fr2)) w3) : w3.heap[w2.heap.size]? = some (.cells C ty (0, 0)) ∧ w2.heap.size < w3.heap.size := by
  have z1 : ((w2.alloc (.cells C ty)).alloc (.cells C2 ty2 fr2)).heap.size = w2.heap.size + 2 := by simp
  have hb : ((w2.alloc (.cells C ty)).alloc (.cells C2 ty2 fr2)).heap[w2.heap.size]? = some (.cells C ty (0, 0)) := blk_alloc (heap_alloc_new w2 (.cells C ty)) _
  refine ⟨(hT1.block _ (by rw [z1]; omega) (fun h => by have := hlt _ h; omega)).trans hb, ?_⟩
  have := hT1.size
  rw [z1] at this
  omega
set_option maxRecDepth 100000 in
set_option maxHeartbeats 4000000 in
theorem plans_loop (w : World) (step kind : Int) (hk : kind = 1 ∨ kind = 2) (h1 : 1 ≤ step) (h2 : step ≤ 40) :
    Calls Try.prog 3 #[.int .i64 step, .int .i64 kind] w fun e w' => e = .returned (.bool true) ∧ Below w.heap.size w w' := by
  have HA := Lib.hid (alive_any w)
  have a1 : ¬ step < 1 := by omega
  have a2 : ¬ 40 < step := by omega
  have hsn : sNone.size ≤ maxLen := by decide
  have HSN := Lib.hid hsn
  have HST := Lib.hid (fun t j h => plans_step (step := step) (t := t) (j := j) hk h)
  rcases hk with rfl | rfl
  all_goals
    go_enter Try.func3, Try.ntmps3
    go_upto_region 9 with (first
      | (go_at_call 7; refine HA.out.mono ?_; rintro e w1 ⟨rfl, hb⟩; have HB1 := Lib.hid hb; clear hb)
      | (go_at_call 8; refine (new_any w1 100).mono ?_; rintro e w2 ⟨d, S0, rfl, hD, hS, hb⟩; have HD0 := Lib.hid hD; have HS0 := Lib.hid hS; have HB2 := Lib.hid hb; clear hD hS hb))
    go_upto_region 10 with (go_at_call 9; refine (plan_any _ d 0 S0 (newD 100) _ 2 2 [⟨1, 1, 0⟩, ⟨2, 1, 0⟩] (HD0.out.below (((Below.refl _ _).alloc (Nat.le_refl _) _).alloc (by simp) _)) (fat2_C 1 1 0 2 1 0 (by rw [← World.size_alloc w2 (.cells #[.int .i64 step, .int .i64 _, .int .i64 0] 26)]; exact heap_alloc_new _ _)) (by decide)).mono ?_; rintro e w3 ⟨S1, rfl, hD, hT, hS⟩; have HD1 := Lib.hid hD; have HT1 := Lib.hid hT; have HS1 := Lib.hid hS; clear hD hT hS)
    obtain ⟨hrow, hz3⟩ := plans_row (fun b hb => HD0.out.lt hb) HT1.out
    have HROW := Lib.hid hrow
    clear hrow
    go_upto_region 11 with (go_at_call 9; refine (plan_any _ d 0 S1 _ _ 1 1 [⟨step, _, 0⟩] HD1.out (fat1_C step _ 0 HROW.out) (by decide)).mono ?_; rintro e w4 ⟨S2, rfl, hD, hT, hS⟩; have HD2 := Lib.hid hD; have HT2 := Lib.hid hT; have HS2 := Lib.hid hS; clear hD hT hS)
    have hns : ¬ S1 w2.heap.size := fun h => (HS1.out _ h).elim (fun h => by have := HD0.out.lt h; omega) (fun h => by simp at h; omega)
    have hrow4 := (HT2.out.block _ hz3 hns).trans HROW.out
    have f0 := (blk_cell hrow4 0).trans rfl
    have z0 := blk_frozen hrow4 0
    have hz4 := Nat.lt_of_lt_of_le hz3 HT2.out.size
    have HAL := fun v => plans_start v (fun b hb => Nat.le_trans HB1.out.size (HS0.out b hb)) (fun b hb => HD0.out.lt hb) (HB1.out.trans (HB2.out.mono HB1.out.size)) HT1.out HS1.out HT2.out HS2.out HD2.out
    have HAL0 := Lib.hid (HAL (.int .i64 99))
    clear HAL hrow4 hns
    go_upto_region 12 with fail
    generalize w4.setCell ⟨w2.heap.size, 0, none⟩ (.int .i64 99) = W5 at HAL0 ⊢
    clear f0 z0
    go_wp2_with fail
    go_loopw [7, 8] (fun i _ wr => ∃ j : Nat, j ≤ 41 ∧ i = .int .i64 ((j : Int) + 1) ∧ Hid (Al w wr d (kP step _ j) j)) (fun i _ _ => 50 - (intOf i).toNat)
    case atStart => exact ⟨0, by omega, rfl, HAL0.out⟩
    case round =>
      obtain ⟨j, hj, rfl, HAJ⟩ := hrel
      by_cases hj41 : j < 41
      · have hjb : (j : Int) + 1 ≤ 41 := by omega
        have HS := Lib.hid (HST.out j _ rfl)
        by_cases hjs : (j : Int) + 1 = step
        · rw [if_pos hjs] at HS
          subst hjs
          go_wp2_with (first
            | (go_at_call 10; refine (al_append (l := []) HAJ.out (by omega) sNone HSN.out (Below.refl _ _) none 0 0 (fun W' _ => Kd.C_nil _ W') (fun b hb => nomatch hb) (by decide) (Nat.le_refl _)).mono ?_; rw [show sNone.data.toList = [110, 111, 110, 101] from rfl, HS.out]; rintro e w6 ⟨rfl, h⟩; have H6 := Lib.hid h; clear h)
            | (go_at_call 11; refine (al_steps H6.out).mono ?_; rintro e w8 ⟨rfl, hw⟩; obtain rfl := hw.symm; clear hw; unfold kP))
          go_roundw
          case rel => exact ⟨j + 1, by omega, by go_num, H6.out⟩
          case measure => simp [intOf]; omega
        · rw [if_neg hjs] at HS
          have hjq : ((j : Int) + 1 == step) = false := by rw [beq_eq_false_iff_ne]; exact hjs
          go_wp2_with (first
            | (go_at_call 10; refine (al_append (l := []) HAJ.out (by omega) sNone HSN.out (Below.refl _ _) none 0 0 (fun W' _ => Kd.C_nil _ W') (fun b hb => nomatch hb) (by decide) (Nat.le_refl _)).mono ?_; rw [show sNone.data.toList = [110, 111, 110, 101] from rfl, HS.out]; rintro e w6 ⟨rfl, h⟩; have H6 := Lib.hid h; clear h)
            | (go_at_call 11; refine (al_steps H6.out).mono ?_; rintro e w8 ⟨rfl, hw⟩; obtain rfl := hw.symm; clear hw; unfold kP))
          go_roundw
          case rel => exact ⟨j + 1, by omega, by go_num, H6.out⟩
          case measure => simp [intOf]; omega
      · obtain rfl : j = 41 := by omega
        go_wp2_with fail
        go_ret
        exact ⟨rfl, HAJ.out.bl⟩
end Go.Proofs.Ytkhopknpadncdaa
