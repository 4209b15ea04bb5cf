/- strings.ContainsRune at the four marks of a file's name. -/
import Derived.Test.YtkhopknpadncdaaC
import Derived.Test.YtkhopknpadncdaaShelf
import Derived.Deep.CutRange
import Derived.WalkMore
import Derived.ScopeJumps
namespace Go.Proofs.Ytkhopknpadncdaa
open Go Go.RowKit Go.Maps Go.Proofs.YtkhopknpadncdaaW.PrintWords Go.Proofs.Ytkhopknpadncdaa.PDiskMemory Go.Proofs.YtkhopknpadncdaaW.PrintMore
set_option linter.unusedVariables false

def marks : ByteArray := ⟨#[46, 95, 45, 47]⟩

/-- What a rune beyond ASCII is written as. -/
theorem encode_far (r : Int) (h0 : 128 ≤ r) (h1 : r ≤ 1114111) : (∃ a x : UInt8, 128 ≤ x.toNat ∧ Utf8.encode r = { data := #[a, x] }) ∨ (∃ a b x : UInt8, 128 ≤ x.toNat ∧ Utf8.encode r = { data := #[a, b, x] }) ∨ (∃ a b c x : UInt8, 128 ≤ x.toNat ∧ Utf8.encode r = { data := #[a, b, c, x] }) := by
  have hx : ∀ n : Nat, 128 ≤ (UInt8.ofNat (0x80 + n % 64)).toNat := fun n => by
    rw [UInt8.toNat_ofNat']
    omega
  unfold Utf8.encode
  obtain ⟨c, hc, hc2⟩ : ∃ c : Nat, c = (if Utf8.valid r then r.toNat else Utf8.runeError) ∧ 128 ≤ c := by
    refine ⟨_, rfl, ?_⟩
    split
    · omega
    · decide
  simp only
  rw [← hc]
  rw [if_neg (by omega)]
  split
  · exact .inl ⟨_, _, hx c, rfl⟩
  · split
    · exact .inr (.inl ⟨_, _, _, hx c, rfl⟩)
    · exact .inr (.inr ⟨_, _, _, _, hx c, rfl⟩)
theorem no_byte (l : List UInt8) (x : UInt8) (h : ∀ b ∈ l, b ≠ x) : Lib.indexByte l x = -1 := by
  induction l with
  | nil => rfl
  | cons b l ih =>
    have h1 := h b (List.mem_cons_self ..)
    have h2 := ih (fun c hc => h c (List.mem_cons_of_mem _ hc))
    unfold Lib.indexByte
    simp [h1, h2]

theorem quiet_add_same {P : Program} {f : FuncId} {args : Array Value} {w : World} {a n : Nat} {v : Value}
    (h : Calls P f args (w.drewN (a + n)) fun e w' => e = .returned v ∧ w' = w.drewN (a + n)) :
    Calls P f args (w.drewN (a + n)) fun e w'' => e = .returned v ∧ ∃ m, w'' = w.drewN (a + m) :=
  h.mono fun _ _ ⟨he, hm⟩ => ⟨he, n, hm⟩
set_option maxRecDepth 100000 in
set_option maxHeartbeats 2000000 in
theorem index_far (r : Int) (w : World) (h0 : 128 ≤ r) (h1 : r ≤ 1114111) (hv : Lib.validRune r = true) (hne : r ≠ 65533) :
    Calls Try.prog 83 #[.string { data := #[46, 95, 45, 47] }, .int .i32 r] w fun e w' => e = .returned (.int .i64 (-1)) ∧ Below w.heap.size w w' := by
  have a1 : decide (r < 128) = false := decide_eq_false (by omega)
  have a2 : ((r : Int) == 65533) = false := by rw [beq_eq_false_iff_ne]; exact hne
  have HV := Lib.hid hv
  clear hv hne
  rcases encode_far r h0 h1 with ⟨a, x, hx, hE⟩ | ⟨a, b, x, hx, hE⟩ | ⟨a, b, c, x, hx, hE⟩
  · have HX := Lib.hid hx
    have hn : ((95 : Int) != (x.toNat : Int)) = true := by rw [bne_iff_ne]; omega
    have s1 : ∀ W : World, (Instr.slice 9 (.string { data := #[46, 95, 45, 47] }) (some (.int .i64 2)) none none).run Try.prog W = .ok (.string { data := #[45, 47] }) W := fun _ => by kernel_rfl
    have s2 : ∀ W : World, (Instr.index 9 (.string { data := #[46, 95, 45, 47] }) (.int .i64 1)).run Try.prog W = .ok (.int .u8 95) W := fun _ => by kernel_rfl
    have s3 : ∀ W : World, (Instr.index 9 (.string { data := #[a, x] }) (.int .i64 1)).run Try.prog W = .ok (.int .u8 x.toNat) W := fun _ => by kernel_rfl
    have HIB : Hid (∀ n : Nat, Calls Try.prog 96 #[.string { data := #[45, 47] }, .int .u8 x.toNat] (w.drewN n) fun e w' => e = .returned (.int .i64 (-1)) ∧ w' = w.drewN n) := fun n => by
      have h1 := Try.strings_IndexByte { data := #[45, 47] } x.toNat (w.drewN n)
      rw [Int.toNat_natCast, show x.toNat.toUInt8 = x from UInt8.ofNat_toNat, show Lib.indexByte ({ data := #[45, 47] } : ByteArray).data.toList x = -1 from no_byte [45, 47] x (fun b hb e => by subst e; rcases List.mem_cons.1 hb with h | h <;> (try rcases List.mem_cons.1 h with h | h) <;> first | (rw [h] at hx; revert hx; decide) | cases h)] at h1
      exact h1
    clear hx
    go_enter Try.func83, Try.ntmps83
    go_wp2_with (go_at_call 97; refine (Try.utf8_ValidRune r w).mono ?_; rintro e w' ⟨rfl, rfl⟩; rw [HV.out])
    go_step3
    go_wp2_with fail
    refine wp_loop_rounds 1 ?_
    rw [rounds_succ]
    go_wp2_with fail
    go_step3
    go_wp2_with fail
    go_quiet (fail)
    go_wp2_with fail
    go_quiet ((go_at_call 96; exact quiet_add_same (HIB.out _)))
    go_wp2_with fail
    go_simp
    go_ret
    exact ⟨rfl, pw_below_drewN (Below.refl _ _) _⟩
  · have HX := Lib.hid hx
    have hn : ((45 : Int) != (x.toNat : Int)) = true := by rw [bne_iff_ne]; omega
    have s1 : ∀ W : World, (Instr.slice 9 (.string { data := #[46, 95, 45, 47] }) (some (.int .i64 3)) none none).run Try.prog W = .ok (.string { data := #[47] }) W := fun _ => by kernel_rfl
    have s2 : ∀ W : World, (Instr.index 9 (.string { data := #[46, 95, 45, 47] }) (.int .i64 2)).run Try.prog W = .ok (.int .u8 45) W := fun _ => by kernel_rfl
    have s3 : ∀ W : World, (Instr.index 9 (.string { data := #[a, b, x] }) (.int .i64 2)).run Try.prog W = .ok (.int .u8 x.toNat) W := fun _ => by kernel_rfl
    have HIB : Hid (∀ n : Nat, Calls Try.prog 96 #[.string { data := #[47] }, .int .u8 x.toNat] (w.drewN n) fun e w' => e = .returned (.int .i64 (-1)) ∧ w' = w.drewN n) := fun n => by
      have h1 := Try.strings_IndexByte { data := #[47] } x.toNat (w.drewN n)
      rw [Int.toNat_natCast, show x.toNat.toUInt8 = x from UInt8.ofNat_toNat, show Lib.indexByte ({ data := #[47] } : ByteArray).data.toList x = -1 from no_byte [47] x (fun b hb e => by subst e; rcases List.mem_cons.1 hb with h | h <;> first | (rw [h] at hx; revert hx; decide) | cases h)] at h1
      exact h1
    clear hx
    go_enter Try.func83, Try.ntmps83
    go_wp2_with (go_at_call 97; refine (Try.utf8_ValidRune r w).mono ?_; rintro e w' ⟨rfl, rfl⟩; rw [HV.out])
    go_step3
    go_wp2_with fail
    refine wp_loop_rounds 1 ?_
    rw [rounds_succ]
    go_wp2_with fail
    go_step3
    go_wp2_with fail
    go_quiet (fail)
    go_wp2_with fail
    go_quiet ((go_at_call 96; exact quiet_add_same (HIB.out _)))
    go_wp2_with fail
    go_simp
    go_ret
    exact ⟨rfl, pw_below_drewN (Below.refl _ _) _⟩
  · have HX := Lib.hid hx
    have hn : ((47 : Int) != (x.toNat : Int)) = true := by rw [bne_iff_ne]; omega
    have s1 : ∀ W : World, (Instr.slice 9 (.string { data := #[46, 95, 45, 47] }) (some (.int .i64 4)) none none).run Try.prog W = .ok (.string { data := #[] }) W := fun _ => by kernel_rfl
    have s2 : ∀ W : World, (Instr.index 9 (.string { data := #[46, 95, 45, 47] }) (.int .i64 3)).run Try.prog W = .ok (.int .u8 47) W := fun _ => by kernel_rfl
    have s3 : ∀ W : World, (Instr.index 9 (.string { data := #[a, b, c, x] }) (.int .i64 3)).run Try.prog W = .ok (.int .u8 x.toNat) W := fun _ => by kernel_rfl
    have HIB : Hid (∀ n : Nat, Calls Try.prog 96 #[.string { data := #[] }, .int .u8 x.toNat] (w.drewN n) fun e w' => e = .returned (.int .i64 (-1)) ∧ w' = w.drewN n) := fun n => by
      have h1 := Try.strings_IndexByte { data := #[] } x.toNat (w.drewN n)
      rw [Int.toNat_natCast, show x.toNat.toUInt8 = x from UInt8.ofNat_toNat, show Lib.indexByte ({ data := #[] } : ByteArray).data.toList x = -1 from no_byte [] x (fun b hb e => by subst e; cases hb)] at h1
      exact h1
    clear hx
    go_enter Try.func83, Try.ntmps83
    go_wp2_with (go_at_call 97; refine (Try.utf8_ValidRune r w).mono ?_; rintro e w' ⟨rfl, rfl⟩; rw [HV.out])
    go_step3
    go_wp2_with fail
    refine wp_loop_rounds 1 ?_
    rw [rounds_succ]
    go_wp2_with fail
    go_step3
    go_wp2_with fail
    go_quiet (fail)
    go_wp2_with fail
    go_quiet ((go_at_call 96; exact quiet_add_same (HIB.out _)))
    go_wp2_with fail
    go_simp
    go_ret
    exact ⟨rfl, pw_below_drewN (Below.refl _ _) _⟩
end Go.Proofs.Ytkhopknpadncdaa
