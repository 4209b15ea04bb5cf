/- (*Disk).Used: the seen bytes of all files, in whatever order the map is met. -/
import Derived.Test.YtkhopknpadncdaaRangeP
import Derived.Test.YtkhopknpadncdaaPut
namespace Go.Proofs.Ytkhopknpadncdaa
open Go Go.RowKit Go.Maps Go.Proofs.YtkhopknpadncdaaW.PrintWords Go.Proofs.Ytkhopknpadncdaa.PDiskMemory Go.Proofs.YtkhopknpadncdaaW.PrintMore
set_option linter.unusedVariables false

theorem look_Z {Z : List (Nm × (Nat × Fil))} {x : Nm} {p : Nat} (h : look (mapV (·.1) Z) x = some p) : ∃ f, (x, (p, f)) ∈ Z ∧ look Z x = some (p, f) := by
  rw [look_mapV] at h
  cases hz : look Z x with
  | none => rw [hz] at h; cases h
  | some q =>
    rw [hz] at h
    injection h with h
    obtain ⟨a, f⟩ := q
    simp only at h
    subst h
    exact ⟨f, look_mem hz, rfl⟩
theorem mem_Z {Z : List (Nm × (Nat × Fil))} {x : Nm} {p : Nat} {f : Fil} (h : (x, (p, f)) ∈ Z) : (x, f) ∈ mapV (·.2) Z := by
  unfold mapV
  exact List.mem_map.2 ⟨_, h, rfl⟩

theorem DA.apartF {w : World} {d m : Nat} {O : Nat → Own} {k : Dk} {N : Nat} {pv : Value} {Z : List (Nm × (Nat × Fil))} (h : DA w d m O k N pv Z) : k.files.Pairwise fun a b => a.1 ≠ b.1 := by
  rw [h.files]
  unfold mapV
  exact List.pairwise_map.2 (h.apart.imp fun h => h)
set_option maxRecDepth 100000 in
set_option maxHeartbeats 2000000 in
theorem used_any (w : World) (d N : Nat) (S : Nat → Prop) (k : Dk) (h : Disk w d S k N) :
    Calls Try.prog 44 #[.pointer (some ⟨d, 0, none⟩)] w fun e w' => e = .returned (.int .i64 (used k.files)) ∧ Below w.heap.size w w' := by
  obtain ⟨m, O, pv, Z, h, hS⟩ := h
  obtain ⟨⟨c0, _, _, _, _⟩, hdl⟩ := h.cells
  have H := Lib.hid h
  have HM := Lib.hid h.mp
  have hsum : ∀ P, doneSum (fun f => f.seen.length) k.files P ≤ 256 * big := fun P => Nat.le_trans (doneSum_le _ _ _ big (fun p hp => (Wf.stop (h.ok.1 p hp).1).1)) (Nat.mul_le_mul_right _ h.ok.2.2.2.1)
  have HSUM := Lib.hid hsum
  have HAS : Hid (∀ p ∈ k.files, Maps.has (dat (mapV (·.1) Z)) (.string p.1) = true) := fun p hp => by
    rw [h.files] at hp
    unfold mapV at hp
    obtain ⟨z, hz, rfl⟩ := List.mem_map.1 hp
    exact dat_has _ (p := (z.1, z.2.1)) (List.mem_map.2 ⟨z, hz, rfl⟩)
  clear h hS hsum
  go_enter Try.func44, Try.ntmps44
  go_wp2_with (at_range; refine wpList_range_own _ rfl _ 75 rfl 9 80 keyed Try.underlying75 raw m _ _ rfl HM.out ?_; intro w0 hrg0 hg0 hs0; have HR0 := Lib.hid hrg0; have HB0 : Hid (Below w.heap.size w w0) := grown_new (Below.refl _ _) hg0 (fun k hk => by cases hk); clear hrg0 hg0 hs0)
  go_frame
  go_loopw [3, 5] (fun v _ wr => ∃ (left : Lit → Bool) (cnt : Nat), v = .int .i64 (doneSum (fun f => f.seen.length) k.files (fun x => left (.string x)) : Nat) ∧ Hid (wr.ranges Try.prog 9 raw m w.heap.size (mapV (·.1) Z).length (dat (mapV (·.1) Z)) left cnt) ∧ Hid (Below w.heap.size w wr)) (fun _ _ wr => wr.rangeLeft m w.heap.size)
  case atStart => exact ⟨_, _, by rw [doneSum_start _ HAS.out]; rfl, HR0.out, HB0.out⟩
  case round =>
    clear HR0 HB0
    obtain ⟨left, cnt, rfl, HR, HB⟩ := hrel
    have hs0 := HSUM.out (fun x => left (.string x))
    obtain ⟨q, hq⟩ : ∃ q, q = doneSum (fun f => f.seen.length) k.files (fun x => left (.string x)) := ⟨_, rfl⟩
    rw [← hq] at hs0 ⊢
    have HQ := Lib.hid hq
    unfold big at hs0
    clear hq
    go_wp2_with (at_next; refine wpList_next_ranges _ rfl _ rfl 9 keyed raw encStr (fun v => v) (fun key kl hk => by obtain ⟨x, hx, _⟩ := Maps.keyOf_str Try.underlying9 hk; exact ⟨x, hx⟩) (fun v y hv => ⟨v, rfl⟩) m w.heap.size _ _ left cnt rfl HR.out ?_ ?_)
    · intro _ hl0
      have HE : Hid (q = used k.files) := by
        have h1 := HQ.out
        rw [doneSum_end _ (fun p _ => hl0 _)] at h1
        exact h1
      clear hl0
      go_wp2_with fail
      go_ret
      exact ⟨by rw [HE.out]; rfl, HB.out⟩
    · intro x c kl yd yp w2 cnt2 hkey hlk hv hat hrg2 hlt hg2 hs2 hen
      clear hs2
      obtain ⟨x', ex, rfl, _⟩ := Maps.keyOf_str Try.underlying9 hkey
      obtain rfl : x = x' := encStr_inj ex
      unfold raw at hv
      simp only [Option.some.injEq, Prod.mk.injEq] at hv
      obtain ⟨rfl, rfl⟩ := hv
      obtain ⟨p, hp, rfl⟩ := dat_came hat
      obtain ⟨f, hz, _⟩ := look_Z hp
      have hB2 : Below w.heap.size w w2 := HB.out.trans ((Tch.of_grown (S := fun b => b = w.heap.size) hg2 (fun b hb => (Option.some.inj hb).symm)).below HB.out.size (fun b hb => Nat.le_of_eq hb.symm))
      obtain ⟨sv, nv, cv, hF⟩ := (H.out.file x p f hz)
      have hF2 := hF.below hB2
      obtain ⟨A1, q1, A2, q2, A3, q3, e1, e2, e3⟩ := hF2.lens
      subst e2
      have hlb := (Wf.stop (H.out.ok.1 (x, f) (by rw [H.out.files]; exact mem_Z hz)).1).1
      unfold big at hlb
      have HST : Hid (doneSum (fun f => f.seen.length) k.files (fun y => left (.string y) && !(Lit.string y).sameKey (.string x)) = q + f.seen.length) := by
        show _ = _
        rw [HQ.out]
        exact doneSum_step _ H.out.apartF (by rw [H.out.files]; exact mem_Z hz) hlk
      obtain ⟨n2, hn2⟩ : ∃ n2, n2 = f.seen.length := ⟨_, rfl⟩
      rw [← hn2] at hlb hF2 HST
      obtain ⟨_, d1, _, _, _, _, hpl⟩ := hF2.see
      have HRG := Lib.hid hrg2
      have HB2 := Lib.hid hB2
      have HME : Hid (w2.rangeLeft m w.heap.size < wr.rangeLeft m w.heap.size) := by show _ < _; rw [hrg2.left_eq, HR.out.left_eq]; exact hlt
      clear hkey hlk hat hp hz hB2 hF hF2 hn2 hg2 hrg2 hlt ex e1 e3
      unfold fptr at hen ⊢
      go_wp2_with fail
      go_roundw
      case rel => exact ⟨_, _, by rw [HST.out]; go_num, HRG.out, HB2.out⟩
      case measure => exact HME.out
end Go.Proofs.Ytkhopknpadncdaa
