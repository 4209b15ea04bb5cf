/- PRINTED by gen_clone.py: bytes.Clone, slices.Clone at fates: new rows. -/
import Derived.Test.YtkhopknpadncdaaM
namespace Go.Proofs.Ytkhopknpadncdaa
open Go Go.RowKit Go.Maps Go.Proofs.YtkhopknpadncdaaW.PrintWords Go.Proofs.Ytkhopknpadncdaa.PDiskMemory
set_option linter.unusedVariables false

theorem info_u8 : (Try.prog.info? 5).map (fun i => (i.zero, i.size, i.bytes)) = some (some (.int .u8 0), 1, 1) := by kernel_rfl
theorem info_fat : (Try.prog.info? 26).map (fun i => (i.zero, i.size, i.bytes)) = some (some (.agg #[.int .i64 0, .int .i64 0, .int .i64 0]), 3, 24) := by kernel_rfl
theorem info_chg : (Try.prog.info? 98).map (fun i => (i.zero, i.size, i.bytes)) = some (some (.agg #[.bool false, .int .i64 0, .slice none 0 0]), 3, 40) := by kernel_rfl
theorem fat_M {w w1 : World} {x : Fat} {cs : List Value} (h : kFat.K w x cs) (base : Nat) (ok : Nat → Prop) : kFat.M w1 base ok x cs := h
theorem R_empty {α : Type} (d : Kd α) (e : Nat) (w : World) (ok : Nat → Prop) (h : ok w.heap.size) : d.R e (w.alloc (.cells #[] e)) 0 ok (.slice (some ⟨w.heap.size, 0, none⟩) 0 0) [] :=
  ⟨fun k hk => by simp [Value.ownBlock] at hk; rw [← hk]; exact h, [], ⟨by simp, .inr ⟨w.heap.size, 0, #[], rfl, Nat.zero_le _, heap_alloc_new _ _, Nat.le_refl _, by decide, by simp, by simp⟩⟩, ⟨by simp, fun j p hj => by simp at hj⟩⟩
theorem C_short {α : Type} {d : Kd α} {w : World} {n : Nat} {l : List α} (h : d.C w none n l) : n = 0 ∧ l = [] := by
  have h0 : n = 0 := by
    rcases Nat.eq_zero_or_pos n with h0 | h0
    · exact h0
    · obtain ⟨ad, e, _⟩ := h.2.2 h0
      cases e
  subst h0
  exact ⟨rfl, List.length_eq_zero_iff.1 h.1⟩

theorem grown_new {w W w1 : World} {row : Option Nat} (hB : Below w.heap.size w W) (hg : W.grownBy w1 row) (h : ∀ k, row = some k → w.heap.size ≤ k) : Below w.heap.size w w1 :=
  ⟨hg.os.trans hB.os, hg.tape.trans hB.tape, hg.output.trans hB.output, Nat.le_trans hB.size hg.size, fun k hk => (hg.block k (Nat.lt_of_lt_of_le hk hB.size) (fun e => by have := h k e.symm; omega)).trans (hB.block k hk)⟩

set_option maxRecDepth 100000 in
theorem clone_bytes (A : Option Addr) (n c : Nat) (l : List Int) (w : World) (hC : (Kd.int .u8).C w A n l) (hl : n * 1 ≤ 140737488355328) :
    Calls Try.prog 58 #[.slice A n c] w fun r w' => ∃ v, r = .returned v ∧ (Kd.int .u8).R 5 w' 0 (fun b => w.heap.size ≤ b) v l ∧ Below w.heap.size w w' := by
  have qS : ∀ (W : World) (a : Option Addr) (n k : Nat), (binOp .eql 34 (.slice a n k) (.slice none 0 0)).run Try.prog W = .ok (.bool a.isNone) W := fun W a n k => Lib.run_eql_slice_nil W _ _ a n k 0 0 Try.underlying34
  cases A with
  | none =>
    obtain ⟨rfl, rfl⟩ := C_short hC
    clear hC hl
    go_enter Try.func58, Try.ntmps58
    go_wp2_with fail
    go_ret
    exact ⟨_, rfl, Kd.R_nil _ _ _ _ _, Below.refl _ _⟩
  | some a =>
    have HC := Lib.hid hC
    have HL := Lib.hid hl
    have HB : Hid (Below w.heap.size w (w.alloc (.cells #[] 5))) := (Below.refl w.heap.size w).alloc (Nat.le_refl _) _
    have HE := Lib.hid (R_empty (Kd.int .u8) 5 w (fun b => w.heap.size ≤ b) (Nat.le_refl _))
    clear hC hl
    go_enter Try.func58, Try.ntmps58
    go_wp2_with (at_builtin; refine Kd.R_append_rows (Kd.int .u8) (w0 := w) 0 rfl _ _ 34 5 (.int .u8 0) 1 rfl Try.underlying34 info_u8 rfl (by decide) (by decide) _ [] l (some a) n c (fun b => w.heap.size ≤ b) (fun _ => False) rfl rfl HE.out (Kd.C_below HC.out HB.out) (fun x cs h => h) (fun _ h => h.elim) (fun b hb => Nat.le_trans HB.out.size hb) (HB.out.mono (Nat.zero_le _)) (Nat.zero_le _) (by rw [List.length_nil, Nat.zero_add]; exact HL.out) ?_; intro v1 w1 hr hb hg hat; have HR := Lib.hid hr; have HB1 : Hid (Below w.heap.size w w1) := grown_new HB.out hg (fun k hk => Nat.le_of_eq (Option.some.inj hk)); clear hr hb hg hat)
    go_ret
    exact ⟨_, rfl, HR.out, HB1.out⟩

set_option maxRecDepth 100000 in
theorem clone_fates (A : Option Addr) (n c : Nat) (l : List Fat) (w : World) (hC : (kFat).C w A n l) (hl : n * 24 ≤ 140737488355328) :
    Calls Try.prog 41 #[.slice A n c] w fun r w' => ∃ v, r = .returned v ∧ (kFat).R 26 w' 0 (fun b => w.heap.size ≤ b) v l ∧ Below w.heap.size w w' := by
  have qS : ∀ (W : World) (a : Option Addr) (n k : Nat), (binOp .eql 27 (.slice a n k) (.slice none 0 0)).run Try.prog W = .ok (.bool a.isNone) W := fun W a n k => Lib.run_eql_slice_nil W _ _ a n k 0 0 Try.underlying27
  cases A with
  | none =>
    obtain ⟨rfl, rfl⟩ := C_short hC
    clear hC hl
    go_enter Try.func41, Try.ntmps41
    go_wp2_with fail
    go_ret
    exact ⟨_, rfl, Kd.R_nil _ _ _ _ _, Below.refl _ _⟩
  | some a =>
    have HC := Lib.hid hC
    have HL := Lib.hid hl
    have HB : Hid (Below w.heap.size w (w.alloc (.cells #[] 26))) := (Below.refl w.heap.size w).alloc (Nat.le_refl _) _
    have HE := Lib.hid (R_empty (kFat) 26 w (fun b => w.heap.size ≤ b) (Nat.le_refl _))
    clear hC hl
    go_enter Try.func41, Try.ntmps41
    go_wp2_with (at_builtin; refine Kd.R_append_rows (kFat) (w0 := w) 0 rfl _ _ 27 26 (.agg #[.int .i64 0, .int .i64 0, .int .i64 0]) 24 rfl Try.underlying27 info_fat rfl (by decide) (by decide) _ [] l (some a) n c (fun b => w.heap.size ≤ b) (fun _ => False) rfl rfl HE.out (Kd.C_below HC.out HB.out) (fun x cs h => fat_M h _ _) (fun _ h => h.elim) (fun b hb => Nat.le_trans HB.out.size hb) (HB.out.mono (Nat.zero_le _)) (Nat.zero_le _) (by rw [List.length_nil, Nat.zero_add]; exact HL.out) ?_; intro v1 w1 hr hb hg hat; have HR := Lib.hid hr; have HB1 : Hid (Below w.heap.size w w1) := grown_new HB.out hg (fun k hk => Nat.le_of_eq (Option.some.inj hk)); clear hr hb hg hat)
    go_ret
    exact ⟨_, rfl, HR.out, HB1.out⟩
end Go.Proofs.Ytkhopknpadncdaa
