/- Append's second function: what a step that the room ends does. -/
import Derived.Test.YtkhopknpadncdaaApp1
import Derived.Deep.RegionHeld
namespace Go.Proofs.Ytkhopknpadncdaa
open Go Go.RowKit Go.Maps Go.Proofs.YtkhopknpadncdaaW.PrintWords Go.Proofs.Ytkhopknpadncdaa.PDiskMemory Go.Proofs.YtkhopknpadncdaaW.PrintMore
set_option linter.unusedVariables false
attribute [local go_sem] max2_int min2_int max_two min_two max_three min_three

theorem C_take {α : Type} {d : Kd α} {w : World} {A : Option Addr} {n t : Nat} {l : List α} (h : d.C w A n l) (ht : t ≤ n) : d.C w A t (l.take t) := by
  refine ⟨by rw [List.length_take, h.1]; omega, Nat.le_trans ht h.2.1, fun h0 => ?_⟩
  obtain ⟨ad, e, hc⟩ := h.2.2 (by omega)
  refine ⟨ad, e, fun j p hj => hc j p ?_⟩
  rw [List.getElem?_take] at hj
  split at hj
  · exact hj
  · cases hj
/-- What is read beside a disk is as it was behind a call that turns the disk alone. -/
theorem put_keep {w W wB : World} {d N : Nat} {S : Nat → Prop} {k' : Dk} {bd bb : Nat} {v1 v2 : Value} {R : Int} {r : Ending} (n1 : ¬ S bd) (n2 : ¬ S bb) (l1 : bd < w.heap.size) (l2 : bb < w.heap.size) (x1 : w.cell? ⟨bd, 0, none⟩ = some v1) (x2 : w.cell? ⟨bb, 0, none⟩ = some v2) (hR : k'.room = R)
    (hW : Below w.heap.size w W) (hQ : QPost S d N W k' r wB) : r = .returned (.tuple #[]) ∧ wB.cell? ⟨bd, 0, none⟩ = some v1 ∧ wB.cell? ⟨bb, 0, none⟩ = some v2 ∧ wB.cell? ⟨d, 1, none⟩ = some (.int .i64 R) ∧ Hid (QPost S d N w k' (.returned (.tuple #[])) wB) := by
  obtain ⟨S', hr, hD, hT, hS⟩ := hQ
  have hz := hW.size
  refine ⟨hr, (hT.cell (a := ⟨bd, 0, none⟩) (by show bd < _; omega) n1).trans (keep_cell hW l1 x1), (hT.cell (a := ⟨bb, 0, none⟩) (by show bb < _; omega) n2).trans (keep_cell hW l2 x2), ?_, S', rfl, hD, (Tch.of_below hW).trans hT, fun b hb => (hS b hb).imp_right (fun h => by omega)⟩
  rw [← hR]
  exact hD.own4.c1
set_option maxRecDepth 100000 in
set_option maxHeartbeats 2000000 in
theorem append2_any (w : World) (d N : Nat) (S : Nat → Prop) (k : Dk) (s : ByteArray) (A : Option Addr) (n c : Nat) (b : List Int) (bd bn bb : Nat) (h : Disk w d S k N) (hk : ∀ p ∈ k.files, p.2.chs.length + 1 ≤ N) (hN : N ≤ 1000000000000) (hs : s.size ≤ maxLen)
    (x1 : Box w bd (.pointer (some ⟨d, 0, none⟩))) (x2 : Box w bn (.string s)) (x3 : Box w bb (.slice A n c)) (hC : ∀ W, Tch S w W → (Kd.int .u8).C W A n b) (hb : Byt b) (hbl : n ≤ big) (hnc : n ≤ c) (hnb : ¬ S bd ∧ ¬ S bb) (u : Int) (hu : 0 ≤ u) :
    Calls Try.prog 46 #[.int .i64 u, .pointer (some ⟨bd, 0, none⟩), .pointer (some ⟨bn, 0, none⟩), .pointer (some ⟨bb, 0, none⟩)] w (QPost S d N w (partD b s.data.toList k u)) := by
  obtain ⟨m, O, pv, Z, h, hS⟩ := h
  obtain ⟨⟨c0, c1, _, _, _⟩, hdl⟩ := h.cells
  have l1 := x1.lt
  have l2 := x2.lt
  have l3 := x3.lt
  unfold Box at x1 x2 x3
  have LK := h.look hs
  have HD := Lib.hid (show Disk w d S k N from ⟨m, O, pv, Z, h, hS⟩)
  have H := Lib.hid h
  have HS := Lib.hid hS
  have HC := Lib.hid hC
  have HK := Lib.hid hk
  have HB := Lib.hid hb
  have HNB := Lib.hid hnb
  have HLF := Lib.hid (h.look_files s.data.toList)
  cases hz : look Z s.data.toList with
  | none =>
    rw [hz] at LK HLF
    have HLK := Lib.hid LK
    simp only [Option.map_none, optr] at LK
    have HR : Hid (partD b s.data.toList k u = k) := by show _ = _; unfold partD; rw [HLF.out]; rfl
    clear h hS hC hk hb hz
    go_enter Try.func46, Try.ntmps46
    go_wp2_with fail
    go_quiet (fail)
    go_wp2_with fail
    go_end0
    exact ⟨S, rfl, by rw [HR.out]; exact HD.out.below (pw_below_drewN (Below.refl _ _) _), Tch.of_below (pw_below_drewN (Below.refl _ _) _), fun b hb => .inl hb⟩
  | some pf =>
    obtain ⟨p, f⟩ := pf
    have hzm := look_mem hz
    rw [hz] at LK HLF
    simp only [Option.map_some, optr, fptr] at LK
    obtain ⟨U, hU⟩ : ∃ U, U = used k.files := ⟨_, rfl⟩
    have hub := used_le h
    rw [← hU] at hub
    have HU := Lib.hid hU
    have hrm := h.ok.2.1
    have hrm2 := h.ok.2.2.1
    obtain ⟨R, hR⟩ : ∃ R, R = k.room := ⟨_, rfl⟩
    rw [← hR] at c1 hrm hrm2
    have HRM := Lib.hid hR
    have hnl := (hC w (Tch.refl _ _)).1
    have HNL := Lib.hid hnl
    have HZ := Lib.hid hz
    have HZM := Lib.hid hzm
    have HUS := Lib.hid (fun (W : World) (hW : Below w.heap.size w W) => used_any W d N S k (HD.out.below hW))
    unfold big at hub hbl
    clear h hS hC hk hb hz hzm hU hR hnl
    go_enter Try.func46, Try.ntmps46
    go_upto_region 0 with fail
    go_cut [5] from 6 to 11 (fun v wx => v = .pointer (some ⟨p, 0, none⟩) ∧ Below w.heap.size w wx)
    case first =>
      go_quiet (fail)
      go_wp2_with fail
      go_meet
      exact ⟨rfl, pw_below_drewN (Below.refl _ _) _⟩
    case rest =>
    obtain ⟨rfl, hb1⟩ := hcut
    rename World => w1
    have HB1 := Lib.hid hb1
    have y1 := keep_cell hb1 l1 x1
    have y2 := keep_cell hb1 l2 x2
    have y3 := keep_cell hb1 l3 x3
    have d0 := keep_cell hb1 hdl c0
    have d1 := keep_cell hb1 hdl c1
    clear hb1 LK
    go_upto_region 2 with fail
    obtain ⟨T, hT⟩ : ∃ T : Nat, (T : Int) = max 0 (min u (min (n : Int) (R - U))) := ⟨(max 0 (min u (min (n : Int) (R - U)))).toNat, by omega⟩
    have hTn : T ≤ n := by omega
    have hTR : (T : Int) ≤ max 0 (R - U) := by omega
    have hfb : f.seen.length ≤ U := by
      rw [HU.out]
      exact seen_le (look_mem (by rw [HLF.out]; rfl))
    have HBT : Hid (f.seen.length + T ≤ big) := by
      have h1 := (Wf.stop (H.out.ok.1 (s.data.toList, f) (look_mem (by rw [HLF.out]; rfl))).1).1
      show _ ≤ _
      simp only at h1
      unfold big at h1 ⊢
      omega
    have HR : Hid (partD b s.data.toList k u = { k with files := upd k.files s.data.toList (putF f (b.take T)) }) := by
      show _ = _
      unfold partD
      rw [HLF.out]
      simp only [Option.map_some]
      rw [← HRM.out, ← HU.out, HNL.out, ← hT, Int.toNat_natCast]
    have HTT := Lib.hid hT
    have HRP : Hid ((partD b s.data.toList k u).room = R) := by show _ = _; rw [HR.out, HRM.out]
    have HPUT : Hid (∀ (W : World), Below w.heap.size w W → ∀ t, t = T → Calls Try.prog 45 #[.pointer (some ⟨p, 0, none⟩), .slice A t c] W (QPost S d N W (partD b s.data.toList k u))) := fun W hW t ht => by
      subst ht
      rw [HR.out]
      exact put_disk (H.out.below hW) HS.out HZ.out HLF.out (b.take t) t HBT.out (List.length_take_le _ _) (fun v hv => HB.out v (List.mem_of_mem_take hv)) (HK.out _ (look_mem (by rw [HLF.out]; rfl))) hN A c (fun W' hW' => C_take (HC.out W' ((Tch.of_below hW).trans hW')) hTn)
    have hsb : IntKind.i64.wrap (R - (U : Int)) = R - U := IntWalk.i64_in _ (by omega)
    clear hT hTR hfb d0 y2
    have hd : Below w.heap.size w w1.drew := HB1.out.trans (Below.drew (Below.refl _ _))
    have hi1 : (0 : Int) ≤ (n : Int) ∧ (n : Int) ≤ (c : Int) := by omega
    by_cases a1 : (n : Int) < u
    · by_cases a2 : R - U < n
      · by_cases a3 : 0 < R - U
        · have i0 : (0 : Int) ≤ R - U := by omega
          have i1 : R - U ≤ (c : Int) := by omega
          go_region_held (fun w' => w'.cell? ⟨bd, 0, none⟩ = some (.pointer (some ⟨d, 0, none⟩)) ∧ w'.cell? ⟨bb, 0, none⟩ = some (.slice A n c) ∧ w'.cell? ⟨d, 1, none⟩ = some (.int .i64 R)) (go_keep)
            (first
              | (go_at_call 44; refine (HUS.out _ ?_).mono ?_; (· assumption); rintro r wA ⟨rfl, hA⟩; rw [← HU.out]; have hA1 : Below w.heap.size w wA := step_bel (by assumption) hA (by have := (‹Below w.heap.size w _›).size; omega); have p0 := keep_cell hA1 l1 x1; have p1 := keep_cell hA1 l3 x3; have p2 := keep_cell hA1 hdl c1)
              | (go_at_call 45; refine (HPUT.out _ ?_ _ (by have := HTT.out; omega)).mono ?_; (· assumption); rintro r wB hQ; obtain ⟨rfl, q0, q1, q2, HEND⟩ := put_keep HNB.out.1 HNB.out.2 l1 l3 x1 x3 HRP.out (by assumption) hQ))
          all_goals
            go_wp2_with fail
            go_end0
            exact HEND.out
        · have i0 : (0 : Int) ≤ (c : Int) := by omega
          go_region_held (fun w' => w'.cell? ⟨bd, 0, none⟩ = some (.pointer (some ⟨d, 0, none⟩)) ∧ w'.cell? ⟨bb, 0, none⟩ = some (.slice A n c) ∧ w'.cell? ⟨d, 1, none⟩ = some (.int .i64 R)) (go_keep)
            (first
              | (go_at_call 44; refine (HUS.out _ ?_).mono ?_; (· assumption); rintro r wA ⟨rfl, hA⟩; rw [← HU.out]; have hA1 : Below w.heap.size w wA := step_bel (by assumption) hA (by have := (‹Below w.heap.size w _›).size; omega); have p0 := keep_cell hA1 l1 x1; have p1 := keep_cell hA1 l3 x3; have p2 := keep_cell hA1 hdl c1)
              | (go_at_call 45; refine (HPUT.out _ ?_ _ (by have := HTT.out; omega)).mono ?_; (· assumption); rintro r wB hQ; obtain ⟨rfl, q0, q1, q2, HEND⟩ := put_keep HNB.out.1 HNB.out.2 l1 l3 x1 x3 HRP.out (by assumption) hQ))
          all_goals
            go_wp2_with fail
            go_end0
            exact HEND.out
      · by_cases a3 : 0 < (n : Int)
        · have i0 : (0 : Int) ≤ (n : Int) := by omega
          have i1 : (n : Int) ≤ (c : Int) := by omega
          go_region_held (fun w' => w'.cell? ⟨bd, 0, none⟩ = some (.pointer (some ⟨d, 0, none⟩)) ∧ w'.cell? ⟨bb, 0, none⟩ = some (.slice A n c) ∧ w'.cell? ⟨d, 1, none⟩ = some (.int .i64 R)) (go_keep)
            (first
              | (go_at_call 44; refine (HUS.out _ ?_).mono ?_; (· assumption); rintro r wA ⟨rfl, hA⟩; rw [← HU.out]; have hA1 : Below w.heap.size w wA := step_bel (by assumption) hA (by have := (‹Below w.heap.size w _›).size; omega); have p0 := keep_cell hA1 l1 x1; have p1 := keep_cell hA1 l3 x3; have p2 := keep_cell hA1 hdl c1)
              | (go_at_call 45; refine (HPUT.out _ ?_ _ (by have := HTT.out; omega)).mono ?_; (· assumption); rintro r wB hQ; obtain ⟨rfl, q0, q1, q2, HEND⟩ := put_keep HNB.out.1 HNB.out.2 l1 l3 x1 x3 HRP.out (by assumption) hQ))
          all_goals
            go_wp2_with fail
            go_end0
            exact HEND.out
        · have i0 : (0 : Int) ≤ (c : Int) := by omega
          go_region_held (fun w' => w'.cell? ⟨bd, 0, none⟩ = some (.pointer (some ⟨d, 0, none⟩)) ∧ w'.cell? ⟨bb, 0, none⟩ = some (.slice A n c) ∧ w'.cell? ⟨d, 1, none⟩ = some (.int .i64 R)) (go_keep)
            (first
              | (go_at_call 44; refine (HUS.out _ ?_).mono ?_; (· assumption); rintro r wA ⟨rfl, hA⟩; rw [← HU.out]; have hA1 : Below w.heap.size w wA := step_bel (by assumption) hA (by have := (‹Below w.heap.size w _›).size; omega); have p0 := keep_cell hA1 l1 x1; have p1 := keep_cell hA1 l3 x3; have p2 := keep_cell hA1 hdl c1)
              | (go_at_call 45; refine (HPUT.out _ ?_ _ (by have := HTT.out; omega)).mono ?_; (· assumption); rintro r wB hQ; obtain ⟨rfl, q0, q1, q2, HEND⟩ := put_keep HNB.out.1 HNB.out.2 l1 l3 x1 x3 HRP.out (by assumption) hQ))
          all_goals
            go_wp2_with fail
            go_end0
            exact HEND.out
    · have i2 : u ≤ (c : Int) := by omega
      by_cases a2 : R - U < u
      · by_cases a3 : 0 < R - U
        · have i0 : (0 : Int) ≤ R - U := by omega
          have i1 : R - U ≤ (c : Int) := by omega
          go_region_held (fun w' => w'.cell? ⟨bd, 0, none⟩ = some (.pointer (some ⟨d, 0, none⟩)) ∧ w'.cell? ⟨bb, 0, none⟩ = some (.slice A n c) ∧ w'.cell? ⟨d, 1, none⟩ = some (.int .i64 R)) (go_keep)
            (first
              | (go_at_call 44; refine (HUS.out _ ?_).mono ?_; (· assumption); rintro r wA ⟨rfl, hA⟩; rw [← HU.out]; have hA1 : Below w.heap.size w wA := step_bel (by assumption) hA (by have := (‹Below w.heap.size w _›).size; omega); have p0 := keep_cell hA1 l1 x1; have p1 := keep_cell hA1 l3 x3; have p2 := keep_cell hA1 hdl c1)
              | (go_at_call 45; refine (HPUT.out _ ?_ _ (by have := HTT.out; omega)).mono ?_; (· assumption); rintro r wB hQ; obtain ⟨rfl, q0, q1, q2, HEND⟩ := put_keep HNB.out.1 HNB.out.2 l1 l3 x1 x3 HRP.out (by assumption) hQ))
          all_goals
            go_wp2_with fail
            go_end0
            exact HEND.out
        · have i0 : (0 : Int) ≤ (c : Int) := by omega
          go_region_held (fun w' => w'.cell? ⟨bd, 0, none⟩ = some (.pointer (some ⟨d, 0, none⟩)) ∧ w'.cell? ⟨bb, 0, none⟩ = some (.slice A n c) ∧ w'.cell? ⟨d, 1, none⟩ = some (.int .i64 R)) (go_keep)
            (first
              | (go_at_call 44; refine (HUS.out _ ?_).mono ?_; (· assumption); rintro r wA ⟨rfl, hA⟩; rw [← HU.out]; have hA1 : Below w.heap.size w wA := step_bel (by assumption) hA (by have := (‹Below w.heap.size w _›).size; omega); have p0 := keep_cell hA1 l1 x1; have p1 := keep_cell hA1 l3 x3; have p2 := keep_cell hA1 hdl c1)
              | (go_at_call 45; refine (HPUT.out _ ?_ _ (by have := HTT.out; omega)).mono ?_; (· assumption); rintro r wB hQ; obtain ⟨rfl, q0, q1, q2, HEND⟩ := put_keep HNB.out.1 HNB.out.2 l1 l3 x1 x3 HRP.out (by assumption) hQ))
          all_goals
            go_wp2_with fail
            go_end0
            exact HEND.out
      · by_cases a3 : 0 < u
        · have i0 : (0 : Int) ≤ (c : Int) := by omega
          go_region_held (fun w' => w'.cell? ⟨bd, 0, none⟩ = some (.pointer (some ⟨d, 0, none⟩)) ∧ w'.cell? ⟨bb, 0, none⟩ = some (.slice A n c) ∧ w'.cell? ⟨d, 1, none⟩ = some (.int .i64 R)) (go_keep)
            (first
              | (go_at_call 44; refine (HUS.out _ ?_).mono ?_; (· assumption); rintro r wA ⟨rfl, hA⟩; rw [← HU.out]; have hA1 : Below w.heap.size w wA := step_bel (by assumption) hA (by have := (‹Below w.heap.size w _›).size; omega); have p0 := keep_cell hA1 l1 x1; have p1 := keep_cell hA1 l3 x3; have p2 := keep_cell hA1 hdl c1)
              | (go_at_call 45; refine (HPUT.out _ ?_ _ (by have := HTT.out; omega)).mono ?_; (· assumption); rintro r wB hQ; obtain ⟨rfl, q0, q1, q2, HEND⟩ := put_keep HNB.out.1 HNB.out.2 l1 l3 x1 x3 HRP.out (by assumption) hQ))
          all_goals
            go_wp2_with fail
            go_end0
            exact HEND.out
        · have i0 : (0 : Int) ≤ (c : Int) := by omega
          go_region_held (fun w' => w'.cell? ⟨bd, 0, none⟩ = some (.pointer (some ⟨d, 0, none⟩)) ∧ w'.cell? ⟨bb, 0, none⟩ = some (.slice A n c) ∧ w'.cell? ⟨d, 1, none⟩ = some (.int .i64 R)) (go_keep)
            (first
              | (go_at_call 44; refine (HUS.out _ ?_).mono ?_; (· assumption); rintro r wA ⟨rfl, hA⟩; rw [← HU.out]; have hA1 : Below w.heap.size w wA := step_bel (by assumption) hA (by have := (‹Below w.heap.size w _›).size; omega); have p0 := keep_cell hA1 l1 x1; have p1 := keep_cell hA1 l3 x3; have p2 := keep_cell hA1 hdl c1)
              | (go_at_call 45; refine (HPUT.out _ ?_ _ (by have := HTT.out; omega)).mono ?_; (· assumption); rintro r wB hQ; obtain ⟨rfl, q0, q1, q2, HEND⟩ := put_keep HNB.out.1 HNB.out.2 l1 l3 x1 x3 HRP.out (by assumption) hQ))
          all_goals
            go_wp2_with fail
            go_end0
            exact HEND.out
end Go.Proofs.Ytkhopknpadncdaa
