/- (*Disk).step: one step under its fate, whatever it does. -/
import Derived.Test.YtkhopknpadncdaaFate
namespace Go.Proofs.Ytkhopknpadncdaa
open Go Go.RowKit Go.Maps Go.Proofs.YtkhopknpadncdaaW.PrintWords Go.Proofs.YtkhopknpadncdaaW.PrintMore Go.Proofs.Ytkhopknpadncdaa.PDiskMemory
set_option linter.unusedVariables false
attribute [local go_sem] max2_int min2_int max_two min_two max_three min_three

/-- A call that turns the disk alone. -/
def SPost (S : Nat → Prop) (d N : Nat) (w : World) (x : Dk × Int) (e : Ending) (w' : World) : Prop :=
  ∃ S', e = .returned (.int .i64 x.2) ∧ Disk w' d S' x.1 N ∧ Tch S w w' ∧ ∀ b, S' b → S b ∨ w.heap.size ≤ b
def QPost (S : Nat → Prop) (d N : Nat) (w : World) (k : Dk) (e : Ending) (w' : World) : Prop :=
  ∃ S', e = .returned (.tuple #[]) ∧ Disk w' d S' k N ∧ Tch S w w' ∧ ∀ b, S' b → S b ∨ w.heap.size ≤ b
/-- A step more is counted. -/
def inc (k : Dk) : Dk := { k with steps := k.steps + 1 }
/-- What the walk reads of a disk's own block. -/
structure Own4 (w : World) (d : Nat) (k : Dk) : Prop where
  c1 : w.cell? ⟨d, 1, none⟩ = some (.int .i64 k.room)
  c3 : w.cell? ⟨d, 3, none⟩ = some (.int .i64 k.steps)
  c4 : w.cell? ⟨d, 4, none⟩ = some (.bool k.off)
  f4 : w.frozen? ⟨d, 4, none⟩ = false
  lt : d < w.heap.size
theorem Disk.own4 {w : World} {d N : Nat} {S : Nat → Prop} {k : Dk} (h : Disk w d S k N) : Own4 w d k := by
  obtain ⟨m, O, pv, Z, h, hS⟩ := h
  obtain ⟨⟨c0, c1, c2, c3, c4⟩, hl⟩ := h.cells
  exact ⟨c1, c3, c4, h.free 4, hl⟩
theorem Disk.turn {w : World} {d N : Nat} {S : Nat → Prop} {k : Dk} (h : Disk w d S k N) (b : Bool) : Disk (w.setCell ⟨d, 4, none⟩ (.bool b)) d S { k with off := b } N := by
  obtain ⟨m, O, pv, Z, h, hS⟩ := h
  exact ⟨m, O, pv, Z, h.put (k' := { k with off := b }) 4 (.bool b) rfl rfl rfl (h.ok.turn b) (Nat.le_refl _), hS⟩
theorem Disk.okk {w : World} {d N : Nat} {S : Nat → Prop} {k : Dk} (h : Disk w d S k N) : k.ok N := by
  obtain ⟨m, O, pv, Z, h, hS⟩ := h
  exact h.ok
theorem Disk.mono {w : World} {d N N' : Nat} {S : Nat → Prop} {k : Dk} (h : Disk w d S k N) (hN : N ≤ N') : Disk w d S k N' := by
  obtain ⟨m, O, pv, Z, h, hS⟩ := h
  exact ⟨m, O, pv, Z, ⟨h.blk, h.od, h.om, h.mp, h.plan, h.files, h.file, h.lt, h.ok.mono hN⟩, hS⟩
theorem fate_disk (w : World) (d N : Nat) (S : Nat → Prop) (k : Dk) (h : Disk w d S k N) (hN : N ≤ 1000000000000) :
    Calls Try.prog 67 #[.pointer (some ⟨d, 0, none⟩)] w fun e w' => e = .returned (fateOf k.plan (k.steps + 1)).val ∧ Disk w' d S (inc k) (N + 1) ∧ Tch (fun b => b = d) w w' := by
  obtain ⟨m, O, pv, Z, h, hS⟩ := h
  refine (fate_any w d m N O k pv Z h hN).mono ?_
  rintro e w' ⟨he, hD, hT⟩
  exact ⟨he, ⟨m, O, pv, Z, hD, hS⟩, hT⟩

set_option maxRecDepth 100000 in
set_option maxHeartbeats 1000000 in
theorem step_any (w : World) (d N : Nat) (S : Nat → Prop) (k : Dk) (h : Disk w d S k N) (hN : N ≤ 1000000000000) (K1 K2 : Nat) (l1 l2 : Array Value)
    (e1 : ∀ args w, (callFunc K1 args).run Try.prog w = .ok (.enter K1 args) w) (e2 : ∀ args w, (callFunc K2 args).run Try.prog w = .ok (.enter K2 args) w) (doF : Dk → Dk × Int) (paF : Dk → Int → Dk)
    (h1 : ∀ W, Tch S w W → Disk W d S (inc k) (N + 1) → Calls Try.prog K1 l1 W (SPost S d (N + 1) W (doF (inc k))))
    (h2 : ∀ W n, 0 ≤ n → Tch S w W → Disk W d S (inc k) (N + 1) → Calls Try.prog K2 (#[.int .i64 n] ++ l2) W (QPost S d (N + 1) W (paF (inc k) n))) :
    Calls Try.prog 42 #[.pointer (some ⟨d, 0, none⟩), .func (.func K1) #[] l1, .func (.func K2) #[] l2] w (SPost S d (N + 1) w (stepD doF paF k)) := by
  obtain ⟨c1, c3, c4, f4, hl⟩ := h.own4
  obtain ⟨off, hoff⟩ : ∃ off, off = k.off := ⟨_, rfl⟩
  rw [← hoff] at c4
  have HD := Lib.hid h
  have HO := Lib.hid hoff
  have H1 := Lib.hid h1
  have H2 := Lib.hid h2
  clear h hoff h1 h2 c1 c3
  cases off with
  | true =>
    go_enter Try.func42, Try.ntmps42
    go_wp2_with fail
    go_ret
    refine ⟨S, ?_, ?_, Tch.refl _ _, fun b hb => .inl hb⟩
    · unfold stepD; rw [if_pos HO.out.symm]
      rfl
    · unfold stepD; rw [if_pos HO.out.symm]; exact HD.out.mono (Nat.le_succ _)
  | false =>
    have HF := Lib.hid (fate_disk w d N S k HD.out hN)
    obtain ⟨f, hf⟩ : ∃ f, f = fateOf k.plan (k.steps + 1) := ⟨_, rfl⟩
    rw [← hf] at HF
    have HFE := Lib.hid hf
    clear hf
    go_enter Try.func42, Try.ntmps42
    go_wp2_with fail
    refine HF.out.mono ?_
    rintro e w1 ⟨rfl, hD1, hT1⟩
    obtain ⟨fs, fk, fn⟩ := f
    simp only [Fat.val]
    have HD1 : Hid (Disk (w1.alloc (.cells #[.int .i64 fs, .int .i64 fk, .int .i64 fn] 26)) d S (inc k) (N + 1)) := hD1.below ((Below.refl _ _).alloc (Nat.le_refl _) _)
    have HS : Hid (S d) := HD.out.self
    have HT1 : Hid (Tch S w (w1.alloc (.cells #[.int .i64 fs, .int .i64 fk, .int .i64 fn] 26))) := ((hT1.mono (fun b hb => by rw [hb]; exact HS.out)).alloc _)
    have HW : Hid (w.heap.size ≤ w1.heap.size) := hT1.size
    have HL : Hid (w1.heap.size < (w1.alloc (.cells #[.int .i64 fs, .int .i64 fk, .int .i64 fn] 26)).heap.size) := by rw [World.size_alloc]; exact Nat.lt_succ_self _
    have HST : Hid (stepD doF paF k = (if fk = 1 then ((inc k), 181) else if fk = 2 then (paF (inc k) (max fn 0), 182) else if fk = 3 then ({ (inc k) with off := true }, 180) else if fk = 4 then ({ (doF (inc k)).1 with off := true }, 180) else doF (inc k))) := by
      show _ = _
      unfold stepD
      rw [if_neg (by rw [← HO.out]; decide)]
      simp only
      rw [← HFE.out]
      rfl
    clear hD1 hT1 c4 f4 hl
    generalize (inc k) = k1 at HD1 HST H1 H2
    by_cases a1 : fk = 1
    · subst a1
      go_wp2_with fail
      go_ret
      exact ⟨S, by rw [HST.out]; rfl, by rw [HST.out]; exact HD1.out, HT1.out, fun b hb => .inl hb⟩
    · have b1 : ((fk : Int) == 1) = false := by rw [beq_eq_false_iff_ne]; exact a1
      by_cases a2 : fk = 2
      · subst a2
        clear a1 b1
        have HSU : Hid (stepD doF paF k = (paF k1 (max fn 0), 182)) := by rw [HST.out]; rfl
        by_cases hm : fn < 0
        all_goals
          first
            | (have hx : max fn 0 = fn := by omega)
            | (have hx : max fn 0 = 0 := by omega)
          rw [hx] at HSU
          clear hx
          go_wp2_with fail
          refine (H2.out _ _ (by omega) HT1.out HD1.out).mono ?_
          rintro e w2 ⟨S', rfl, hD2, hT2, hS2⟩
          have HD2 := Lib.hid hD2
          have HT2 := Lib.hid (HT1.out.trans hT2)
          have HS2 : Hid (∀ b, S' b → S b ∨ w.heap.size ≤ b) := fun b hb => (hS2 b hb).imp_right (fun h => by have := HT1.out.size; omega)
          clear hD2 hT2 hS2
          go_wp2_with fail
          go_ret
          exact ⟨S', by rw [HSU.out]; rfl, by rw [HSU.out]; exact HD2.out, HT2.out, HS2.out⟩
      · have b2 : ((fk : Int) == 2) = false := by rw [beq_eq_false_iff_ne]; exact a2
        by_cases a3 : fk = 3
        · subst a3
          clear a1 b1 a2 b2
          obtain ⟨_, _, q4, g4, gl⟩ := HD1.out.own4
          go_wp2_with fail
          go_ret
          exact ⟨S, by rw [HST.out]; rfl, by rw [HST.out]; exact HD1.out.turn true, HT1.out.trans (Tch.set _ ⟨d, 4, none⟩ _ HS.out), fun b hb => .inl hb⟩
        · have b3 : ((fk : Int) == 3) = false := by rw [beq_eq_false_iff_ne]; exact a3
          by_cases a4 : fk = 4
          · subst a4
            clear a1 b1 a2 b2 a3 b3
            have HSU : Hid (stepD doF paF k = ({ (doF k1).1 with off := true }, 180)) := by rw [HST.out]; rfl
            go_wp2_with fail
            refine (H1.out _ HT1.out HD1.out).mono ?_
            rintro e w2 ⟨S', rfl, hD2, hT2, hS2⟩
            have HD2 := Lib.hid hD2
            have HT2 := Lib.hid (HT1.out.trans hT2)
            have HS2 : Hid (∀ b, S' b → S b ∨ w.heap.size ≤ b) := fun b hb => (hS2 b hb).imp_right (fun h => by have := HT1.out.size; omega)
            clear hD2 hT2 hS2
            obtain ⟨_, _, q4, g4, gl⟩ := HD2.out.own4
            go_wp2_with fail
            go_ret
            exact ⟨S', by rw [HSU.out]; rfl, by rw [HSU.out]; exact HD2.out.turn true, HT2.out.trans (Tch.set _ ⟨d, 4, none⟩ _ HS.out), HS2.out⟩
          · have b4 : ((fk : Int) == 4) = false := by rw [beq_eq_false_iff_ne]; exact a4
            have HSU : Hid (stepD doF paF k = doF k1) := by show _ = _; rw [HST.out, if_neg a1, if_neg a2, if_neg a3, if_neg a4]
            go_wp2_with fail
            refine (H1.out _ HT1.out HD1.out).mono ?_
            rintro e w2 ⟨S', rfl, hD2, hT2, hS2⟩
            have HD2 := Lib.hid hD2
            have HT2 := Lib.hid (HT1.out.trans hT2)
            have HS2 : Hid (∀ b, S' b → S b ∨ w.heap.size ≤ b) := fun b hb => (hS2 b hb).imp_right (fun h => by have := HT1.out.size; omega)
            clear hD2 hT2 hS2
            go_wp2_with fail
            go_ret
            exact ⟨S', by rw [HSU.out]; rfl, by rw [HSU.out]; exact HD2.out, HT2.out, HS2.out⟩
end Go.Proofs.Ytkhopknpadncdaa
