/- (*Disk).Units. -/
import Derived.Test.YtkhopknpadncdaaD5
namespace Go.Proofs.Ytkhopknpadncdaa
open Go Go.RowKit Go.Maps Go.Proofs.YtkhopknpadncdaaW.PrintWords Go.Proofs.Ytkhopknpadncdaa.PDiskFails Go.Proofs.YtkhopknpadncdaaW.PrintMore
set_option linter.unusedVariables false

def unitsD (k : Dk) (x : Nm) : Int := match look k.files x with | none => 0 | some f => units f.chs
theorem units_pos (c : Chg) : 0 ≤ c.units := by
  unfold Chg.units
  split <;> omega
theorem units_nn : ∀ cs : List Chg, 0 ≤ units cs
  | [] => Int.le_refl _
  | c :: r => by
    have h1 := units_pos c
    have h2 := units_nn r
    unfold units at h2 ⊢
    rw [List.map_cons, List.sum_cons]
    omega
theorem units_app (a b : List Chg) : units (a ++ b) = units a + units b := by
  unfold units
  rw [List.map_append, List.sum_append]
theorem units_step {cs : List Chg} {j : Nat} {c : Chg} (h : cs[j]? = some c) : units (cs.take (j + 1)) = units (cs.take j) + c.units := by
  rw [List.take_add_one, h, units_app]
  show _ + (c.units + 0) = _
  omega
theorem units_le (cs : List Chg) (j : Nat) : units (cs.take j) ≤ units cs := by
  have h1 := units_app (cs.take j) (cs.drop j)
  rw [List.take_append_drop] at h1
  have h2 := units_nn (cs.drop j)
  omega
set_option maxRecDepth 100000 in
set_option maxHeartbeats 2000000 in
theorem unitsD_any (w : World) (d N : Nat) (S : Nat → Prop) (k : Dk) (s : ByteArray) (h : Disk w d S k N) (hN : N ≤ 1000000000000) (hs : s.size ≤ maxLen) (hu : unitsD k s.data.toList ≤ 9223372036854775807) :
    Calls Try.prog 33 #[.pointer (some ⟨d, 0, none⟩), .string s] w fun e w' => e = .returned (.int .i64 (unitsD k s.data.toList)) ∧ Below w.heap.size w w' := by
  obtain ⟨m, O, pv, Z, h, hS⟩ := h
  obtain ⟨⟨c0, _⟩, hdl⟩ := h.cells
  have LK := h.mp.look_run hs
  have hlf := h.look_files s.data.toList
  cases hz : look Z s.data.toList with
  | none =>
    have HR : Hid (unitsD k s.data.toList = 0) := by show _ = _; unfold unitsD; rw [hlf, hz]; rfl
    rw [look_mapV, hz] at LK
    simp only [Option.map_none, optr] at LK
    clear h hlf hz hu
    go_enter Try.func33, Try.ntmps33
    go_wp2_with fail
    go_ret
    rw [HR.out]
    exact ⟨rfl, Below.refl _ _⟩
  | some pf =>
    obtain ⟨p, f⟩ := pf
    have hE : unitsD k s.data.toList = units f.chs := by unfold unitsD; rw [hlf, hz]; rfl
    rw [hE] at hu ⊢
    rw [look_mapV, hz] at LK
    simp only [Option.map_some, optr, fptr] at LK
    obtain ⟨sv, nv, cv, hF⟩ := h.file _ p f (look_mem hz)
    obtain ⟨x1, x2, x3⟩ := hF.see
    have hb : f.chs.length ≤ 1000000000000 := by
      have h1 : look k.files s.data.toList = some f := by rw [hlf, hz]; rfl
      have := (h.ok.1 _ (look_mem h1)).2.1
      simp only at this
      omega
    obtain ⟨A3, c3, e3⟩ := Kd.R_slice hF.chgs
    obtain ⟨N3, hN3⟩ : ∃ N3, N3 = f.chs.length := ⟨_, rfl⟩
    rw [← hN3] at e3 hb
    subst e3
    have HF := Lib.hid hF
    have HU := Lib.hid hu
    have HN3 := Lib.hid hN3
    obtain ⟨y0, y1, y2, _, _, _, hpl⟩ := hF.see
    clear h hlf hz hu hE hF hN3 x1 x2 x3 y0 y1 hS
    go_enter Try.func33, Try.ntmps33
    go_wp2_with fail
    go_loopw [5, 22] (fun v i wr => ∃ j : Nat, j ≤ N3 ∧ i = .int .i64 j ∧ v = .int .i64 (units (f.chs.take j)) ∧ Hid (Below w.heap.size w wr)) (fun _ i _ => N3 - (intOf i).toNat)
    case atStart => exact ⟨0, Nat.zero_le _, rfl, rfl, Below.refl _ _⟩
    case round =>
      obtain ⟨j, hj, rfl, rfl, HB⟩ := hrel
      by_cases hjn : j < N3
      · obtain ⟨c, hc⟩ : ∃ c, f.chs[j]? = some c := ⟨_, List.getElem?_eq_getElem (by have := HN3.out; omega)⟩
        obtain ⟨g, A4, q4, rfl, hgl, p0, p1, p2, hr4⟩ := chg_at (HF.out.below HB.out).chgs hc
        obtain ⟨n4, hn4⟩ : ∃ n4, n4 = c.add.length := ⟨_, rfl⟩
        rw [← hn4] at p2
        have HUN := Lib.hid (fun W => units_one c A4 n4 q4 hn4 W)
        have hst := units_step hc
        have hle := units_le f.chs (j + 1)
        rw [hst] at hle
        have hn0 := units_nn (f.chs.take j)
        have hn1 := units_pos c
        have HST := Lib.hid hst
        have HB2 : Hid (Below w.heap.size w (wr.alloc (.cells #[.bool c.cuts, .int .i64 c.to, .slice A4 n4 q4] 98))) := HB.out.alloc HB.out.size _
        have hub := Int.le_trans hle HU.out
        have HBX := Lib.hid (heap_alloc_new wr (.cells #[.bool c.cuts, .int .i64 c.to, .slice A4 n4 q4] 98))
        obtain ⟨a, ha⟩ : ∃ a, a = units (f.chs.take j) := ⟨_, rfl⟩
        obtain ⟨b, hb2⟩ : ∃ b, b = c.units := ⟨_, rfl⟩
        rw [← ha, ← hb2] at hub HST
        rw [← ha] at hn0 ⊢
        rw [← hb2] at hn1 HUN
        have HST2 : Hid (units (f.chs.take (j + 1)) = a + b) := HST.out
        clear hc hr4 hn4 hst hle ha hb2
        go_wp2_with (go_at_call 63; refine (HUN.out _).mono ?_; rintro e w3 ⟨rfl, hb⟩; have HB3 := Lib.hid (HB2.out.trans (hb.mono HB2.out.size)); clear hb)
        go_roundw
        case rel => exact ⟨j + 1, by omega, by go_num, by rw [HST2.out], HB3.out⟩
        case measure => simp [intOf]; omega
      · obtain rfl : j = N3 := by omega
        have htk : f.chs.take j = f.chs := by rw [HN3.out]; exact List.take_length
        rw [htk]
        go_wp2_with fail
        go_ret
        exact ⟨rfl, HB.out⟩
theorem al_units {w W : World} {d N : Nat} {k : Dk} (h : Al w W d k N) (hN : N ≤ 1000000000000) (s : ByteArray) (hs : s.size ≤ maxLen) (hu : unitsD k s.data.toList ≤ 9223372036854775807) : Calls Try.prog 33 #[.pointer (some ⟨d, 0, none⟩), .string s] W fun e w' => e = .returned (.int .i64 (unitsD k s.data.toList)) ∧ Al w w' d k N := by
  obtain ⟨S, h1, h2, h3⟩ := h
  exact (unitsD_any W d N S k s h1 hN hs hu).mono fun e w' ⟨he, hb⟩ => ⟨he, Al.below ⟨S, h1, h2, h3⟩ hb⟩
end Go.Proofs.Ytkhopknpadncdaa
