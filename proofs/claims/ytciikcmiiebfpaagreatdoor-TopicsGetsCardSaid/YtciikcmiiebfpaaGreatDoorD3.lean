/- D3: Rune, Name, BadN, Enter, Meth, one text (a claim holds at most 60 files). -/
import Derived.Test.YtciikcmiiebfpaaGreatDoorD1
import Derived.Test.YtciikcmiiebfpaaGreatDoorShelf
import Derived.Deep.CutRange
import Derived.WalkMore
import Derived.ScopeJumps
import Derived.Test.YtciikcmiiebfpaaGreatDoorD2

/- Rune -/
section
/- strings.ContainsRune at the four marks of a file's name. -/
namespace Go.Proofs.YtciikcmiiebfpaaGreatDoor
open Go Go.RowKit Go.Maps Go.Proofs.YtciikcmiiebfpaaGreatDoorW.PrintWords Go.Proofs.YtciikcmiiebfpaaGreatDoor.PTopicsGets Go.Proofs.YtciikcmiiebfpaaGreatDoorW.PrintMore
set_option linter.unusedVariables false

/-- What a rune beyond ASCII is written as. -/
theorem encode_far (r : Int) (h0 : 128 ≤ r) (h1 : r ≤ 1114111) : (∃ a x : UInt8, 128 ≤ x.toNat ∧ Utf8.encode r = { data := #[a, x] }) ∨ (∃ a b x : UInt8, 128 ≤ x.toNat ∧ Utf8.encode r = { data := #[a, b, x] }) ∨ (∃ a b c x : UInt8, 128 ≤ x.toNat ∧ Utf8.encode r = { data := #[a, b, c, x] }) := by
  have hx : ∀ n : Nat, 128 ≤ (UInt8.ofNat (0x80 + n % 64)).toNat := fun n => by
    rw [UInt8.toNat_ofNat']
    omega
  unfold Utf8.encode
  obtain ⟨c, hc, hc2⟩ : ∃ c : Nat, c = (if Utf8.valid r then r.toNat else Utf8.runeError) ∧ 128 ≤ c := by
    refine ⟨_, rfl, ?_⟩
    split
    · omega
    · decide
  simp only
  rw [← hc]
  rw [if_neg (by omega)]
  split
  · exact .inl ⟨_, _, hx c, rfl⟩
  · split
    · exact .inr (.inl ⟨_, _, _, hx c, rfl⟩)
    · exact .inr (.inr ⟨_, _, _, _, hx c, rfl⟩)
theorem no_byte (l : List UInt8) (x : UInt8) (h : ∀ b ∈ l, b ≠ x) : Lib.indexByte l x = -1 := by
  induction l with
  | nil => rfl
  | cons b l ih =>
    have h1 := h b (List.mem_cons_self ..)
    have h2 := ih (fun c hc => h c (List.mem_cons_of_mem _ hc))
    unfold Lib.indexByte
    simp [h1, h2]

theorem quiet_add_same {P : Program} {f : FuncId} {args : Array Value} {w : World} {a n : Nat} {v : Value}
    (h : Calls P f args (w.drewN (a + n)) fun e w' => e = .returned v ∧ w' = w.drewN (a + n)) :
    Calls P f args (w.drewN (a + n)) fun e w'' => e = .returned v ∧ ∃ m, w'' = w.drewN (a + m) :=
  h.mono fun _ _ ⟨he, hm⟩ => ⟨he, n, hm⟩
set_option maxRecDepth 100000 in
set_option maxHeartbeats 2000000 in
theorem index_far (r : Int) (w : World) (h0 : 128 ≤ r) (h1 : r ≤ 1114111) (hv : Lib.validRune r = true) (hne : r ≠ 65533) :
    Calls Tryz.prog 271 #[.string { data := #[46, 95, 45, 47] }, .int .i32 r] w fun e w' => e = .returned (.int .i64 (-1)) ∧ Below w.heap.size w w' := by
  have a1 : decide (r < 128) = false := decide_eq_false (by omega)
  have a2 : ((r : Int) == 65533) = false := by rw [beq_eq_false_iff_ne]; exact hne
  have HV := Lib.hid hv
  clear hv hne
  rcases encode_far r h0 h1 with ⟨a, x, hx, hE⟩ | ⟨a, b, x, hx, hE⟩ | ⟨a, b, c, x, hx, hE⟩
  · have HX := Lib.hid hx
    have hn : ((95 : Int) != (x.toNat : Int)) = true := by rw [bne_iff_ne]; omega
    have s1 : ∀ W : World, (Instr.slice 9 (.string { data := #[46, 95, 45, 47] }) (some (.int .i64 2)) none none).run Tryz.prog W = .ok (.string { data := #[45, 47] }) W := fun _ => by kernel_rfl
    have s2 : ∀ W : World, (Instr.index 9 (.string { data := #[46, 95, 45, 47] }) (.int .i64 1)).run Tryz.prog W = .ok (.int .u8 95) W := fun _ => by kernel_rfl
    have s3 : ∀ W : World, (Instr.index 9 (.string { data := #[a, x] }) (.int .i64 1)).run Tryz.prog W = .ok (.int .u8 x.toNat) W := fun _ => by kernel_rfl
    have HIB : Hid (∀ n : Nat, Calls Tryz.prog 305 #[.string { data := #[45, 47] }, .int .u8 x.toNat] (w.drewN n) fun e w' => e = .returned (.int .i64 (-1)) ∧ w' = w.drewN n) := fun n => by
      have h1 := Tryz.strings_IndexByte { data := #[45, 47] } x.toNat (w.drewN n)
      rw [Int.toNat_natCast, show x.toNat.toUInt8 = x from UInt8.ofNat_toNat, show Lib.indexByte ({ data := #[45, 47] } : ByteArray).data.toList x = -1 from no_byte [45, 47] x (fun b hb e => by subst e; rcases List.mem_cons.1 hb with h | h <;> (try rcases List.mem_cons.1 h with h | h) <;> first | (rw [h] at hx; revert hx; decide) | cases h)] at h1
      exact h1
    clear hx
    go_enter Tryz.func271, Tryz.ntmps271
    go_wp2_with (go_at_call 306; refine (Tryz.utf8_ValidRune r w).mono ?_; rintro e w' ⟨rfl, rfl⟩; rw [HV.out])
    go_step3
    go_wp2_with fail
    refine wp_loop_rounds 1 ?_
    rw [rounds_succ]
    go_wp2_with fail
    go_step3
    go_wp2_with fail
    go_quiet (fail)
    go_wp2_with fail
    go_quiet ((go_at_call 305; exact quiet_add_same (HIB.out _)))
    go_wp2_with fail
    go_simp
    go_ret
    exact ⟨rfl, pw_below_drewN (Below.refl _ _) _⟩
  · have HX := Lib.hid hx
    have hn : ((45 : Int) != (x.toNat : Int)) = true := by rw [bne_iff_ne]; omega
    have s1 : ∀ W : World, (Instr.slice 9 (.string { data := #[46, 95, 45, 47] }) (some (.int .i64 3)) none none).run Tryz.prog W = .ok (.string { data := #[47] }) W := fun _ => by kernel_rfl
    have s2 : ∀ W : World, (Instr.index 9 (.string { data := #[46, 95, 45, 47] }) (.int .i64 2)).run Tryz.prog W = .ok (.int .u8 45) W := fun _ => by kernel_rfl
    have s3 : ∀ W : World, (Instr.index 9 (.string { data := #[a, b, x] }) (.int .i64 2)).run Tryz.prog W = .ok (.int .u8 x.toNat) W := fun _ => by kernel_rfl
    have HIB : Hid (∀ n : Nat, Calls Tryz.prog 305 #[.string { data := #[47] }, .int .u8 x.toNat] (w.drewN n) fun e w' => e = .returned (.int .i64 (-1)) ∧ w' = w.drewN n) := fun n => by
      have h1 := Tryz.strings_IndexByte { data := #[47] } x.toNat (w.drewN n)
      rw [Int.toNat_natCast, show x.toNat.toUInt8 = x from UInt8.ofNat_toNat, show Lib.indexByte ({ data := #[47] } : ByteArray).data.toList x = -1 from no_byte [47] x (fun b hb e => by subst e; rcases List.mem_cons.1 hb with h | h <;> first | (rw [h] at hx; revert hx; decide) | cases h)] at h1
      exact h1
    clear hx
    go_enter Tryz.func271, Tryz.ntmps271
    go_wp2_with (go_at_call 306; refine (Tryz.utf8_ValidRune r w).mono ?_; rintro e w' ⟨rfl, rfl⟩; rw [HV.out])
    go_step3
    go_wp2_with fail
    refine wp_loop_rounds 1 ?_
    rw [rounds_succ]
    go_wp2_with fail
    go_step3
    go_wp2_with fail
    go_quiet (fail)
    go_wp2_with fail
    go_quiet ((go_at_call 305; exact quiet_add_same (HIB.out _)))
    go_wp2_with fail
    go_simp
    go_ret
    exact ⟨rfl, pw_below_drewN (Below.refl _ _) _⟩
  · have HX := Lib.hid hx
    have hn : ((47 : Int) != (x.toNat : Int)) = true := by rw [bne_iff_ne]; omega
    have s1 : ∀ W : World, (Instr.slice 9 (.string { data := #[46, 95, 45, 47] }) (some (.int .i64 4)) none none).run Tryz.prog W = .ok (.string { data := #[] }) W := fun _ => by kernel_rfl
    have s2 : ∀ W : World, (Instr.index 9 (.string { data := #[46, 95, 45, 47] }) (.int .i64 3)).run Tryz.prog W = .ok (.int .u8 47) W := fun _ => by kernel_rfl
    have s3 : ∀ W : World, (Instr.index 9 (.string { data := #[a, b, c, x] }) (.int .i64 3)).run Tryz.prog W = .ok (.int .u8 x.toNat) W := fun _ => by kernel_rfl
    have HIB : Hid (∀ n : Nat, Calls Tryz.prog 305 #[.string { data := #[] }, .int .u8 x.toNat] (w.drewN n) fun e w' => e = .returned (.int .i64 (-1)) ∧ w' = w.drewN n) := fun n => by
      have h1 := Tryz.strings_IndexByte { data := #[] } x.toNat (w.drewN n)
      rw [Int.toNat_natCast, show x.toNat.toUInt8 = x from UInt8.ofNat_toNat, show Lib.indexByte ({ data := #[] } : ByteArray).data.toList x = -1 from no_byte [] x (fun b hb e => by subst e; cases hb)] at h1
      exact h1
    clear hx
    go_enter Tryz.func271, Tryz.ntmps271
    go_wp2_with (go_at_call 306; refine (Tryz.utf8_ValidRune r w).mono ?_; rintro e w' ⟨rfl, rfl⟩; rw [HV.out])
    go_step3
    go_wp2_with fail
    refine wp_loop_rounds 1 ?_
    rw [rounds_succ]
    go_wp2_with fail
    go_step3
    go_wp2_with fail
    go_quiet (fail)
    go_wp2_with fail
    go_quiet ((go_at_call 305; exact quiet_add_same (HIB.out _)))
    go_wp2_with fail
    go_simp
    go_ret
    exact ⟨rfl, pw_below_drewN (Below.refl _ _) _⟩
end Go.Proofs.YtciikcmiiebfpaaGreatDoor
end

/- Name -/
section
/- badName: which names are no file's. -/
namespace Go.Proofs.YtciikcmiiebfpaaGreatDoor
open Go Go.RowKit Go.Maps Go.Proofs.YtciikcmiiebfpaaGreatDoorW.PrintWords Go.Proofs.YtciikcmiiebfpaaGreatDoor.PTopicsGets Go.Proofs.YtciikcmiiebfpaaGreatDoorW.PrintMore
set_option linter.unusedVariables false

def marksS : ByteArray := { data := #[46, 95, 45, 47] }
theorem dec_marks (pos : Nat) (h : pos < 4) : (Utf8.decode marksS pos).2 = 1 ∧ (Utf8.decode marksS pos).1 < 128 := by
  have : pos = 0 ∨ pos = 1 ∨ pos = 2 ∨ pos = 3 := by omega
  rcases this with rfl | rfl | rfl | rfl <;> decide

set_option maxRecDepth 1000000 in
set_option maxHeartbeats 2000000 in
theorem index_err (w : World) : Calls Tryz.prog 271 #[.string marksS, .int .i32 65533] w fun e w' => e = .returned (.int .i64 (-1)) ∧ Below w.heap.size w w' := by
  obtain ⟨s, hs⟩ : ∃ s, s = marksS := ⟨_, rfl⟩
  have hz : s.size = 4 := by rw [hs]; rfl
  rw [← hs]
  have HS := Lib.hid hs
  clear hs
  go_enter Tryz.func271, Tryz.ntmps271
  go_wp2
  go_loopg [] 4 (fun gf wx => ∃ pos : Nat, wx.heap[w.heap.size]? = some (.stringIter s pos) ∧ Below w.heap.size w wx ∧ pos ≤ 4 ∧ 4 ≤ pos + gf)
  case atStart => exact ⟨0, World.iter_heap w s 0, (Below.refl _ w).alloc (Nat.le_refl _) _, by omega, by omega⟩
  case round =>
    obtain ⟨pos, hit, hbw, hp4, hfu⟩ := hrel
    by_cases hps : pos < s.size
    · obtain ⟨g', rfl⟩ : ∃ g', gk = g' + 1 := ⟨gk - 1, by omega⟩
      have hnx : ∀ ty, (Instr.next (.pointer (some ⟨w.heap.size, 0, none⟩)) true ty).run Tryz.prog wr = _ := fun ty => Lib.run_next_any_at wr w.heap.size s pos ty hit hps
      obtain ⟨R, hR⟩ : ∃ R, (Utf8.decode s pos).1 = R := ⟨_, rfl⟩
      have hd := dec_marks pos (by omega)
      rw [← HS.out, hR] at hd
      rw [hR, hd.1] at hnx
      have hit2 := Lib.iterAt_heap wr w.heap.size s pos (pos + 1) hit
      have hbw2 := Lib.below_iterAt hbw (k := w.heap.size) (Nat.le_refl _) s (pos + 1)
      obtain ⟨W, hWd⟩ : ∃ W, wr.iterAt w.heap.size s (pos + 1) = W := ⟨_, rfl⟩
      rw [hWd] at hnx hit2 hbw2
      have hne : ((R : Int) == 65533) = false := by rw [beq_eq_false_iff_ne]; have := hd.2; omega
      have HX := Lib.hid hit2
      have HBW := Lib.hid hbw2
      clear hd hit hit2 hbw2 hWd
      go_wp2
      go_roundg g'
      case measure => omega
      case rel => exact ⟨pos + 1, HX.out, HBW.out, by omega, by omega⟩
    · have hnx : ∀ ty, (Instr.next (.pointer (some ⟨w.heap.size, 0, none⟩)) true ty).run Tryz.prog wr = _ := fun ty => Lib.run_next_end_at wr w.heap.size s pos ty hit hps
      go_wp2
      go_ret
      exact ⟨rfl, hbw⟩

set_option maxRecDepth 100000 in
theorem index_bad (r : Int) (w : World) (h0 : 128 ≤ r) (hv : Lib.validRune r = false) (hne : r ≠ 65533) :
    Calls Tryz.prog 271 #[.string { data := #[46, 95, 45, 47] }, .int .i32 r] w fun e w' => e = .returned (.int .i64 (-1)) ∧ Below w.heap.size w w' := by
  have a1 : decide (r < 128) = false := decide_eq_false (by omega)
  have a2 : ((r : Int) == 65533) = false := by rw [beq_eq_false_iff_ne]; exact hne
  have HV := Lib.hid hv
  clear hv hne
  go_enter Tryz.func271, Tryz.ntmps271
  go_wp2_with (go_at_call 306; refine (Tryz.utf8_ValidRune r w).mono ?_; rintro e w' ⟨rfl, rfl⟩; rw [HV.out])
  go_ret
  exact ⟨rfl, Below.refl _ _⟩

def isMark (r : Nat) : Bool := r == 46 || r == 95 || r == 45 || r == 47
theorem marks_ascii (r : Nat) (h : r < 128) : decide (0 ≤ Lib.indexByte [46, 95, 45, 47] ((r : Int).toNat.toUInt8)) = isMark r := by
  rw [Int.toNat_natCast]
  revert h
  revert r
  decide
theorem index_all (r : Nat) (w : World) (h0 : 128 ≤ r) (h1 : r ≤ 1114111) : Calls Tryz.prog 271 #[.string { data := #[46, 95, 45, 47] }, .int .i32 r] w fun e w' => e = .returned (.int .i64 (-1)) ∧ Below w.heap.size w w' := by
  by_cases he : r = 65533
  · subst he
    exact index_err w
  · cases hv : Lib.validRune (r : Int) with
    | true => exact index_far r w (by omega) (by omega) hv (by omega)
    | false => exact index_bad r w (by omega) hv (by omega)

set_option maxRecDepth 100000 in
theorem contains_any (r : Nat) (w : World) (h1 : r ≤ 1114111) : Calls Tryz.prog 230 #[.string { data := #[46, 95, 45, 47] }, .int .i32 r] w fun e w' => e = .returned (.bool (isMark r)) ∧ Below w.heap.size w w' := by
  by_cases h0 : r < 128
  · refine (Tryz.strings_ContainsRune_ascii { data := #[46, 95, 45, 47] } r w (by omega) (by omega)).mono ?_
    rintro e w' ⟨rfl, rfl⟩
    have := marks_ascii r h0
    exact ⟨by rw [← this], Below.refl _ _⟩
  · have hm : false = isMark r := by
      unfold isMark
      rw [eq_comm, Bool.or_eq_false_iff, Bool.or_eq_false_iff, Bool.or_eq_false_iff]
      refine ⟨⟨⟨?_, ?_⟩, ?_⟩, ?_⟩ <;> (rw [beq_eq_false_iff_ne]; omega)
    rw [← hm]
    clear hm
    have HI := Lib.hid (index_all r w (by omega) h1)
    go_enter Tryz.func230, Tryz.ntmps230
    go_wp2_with (go_at_call 271; refine HI.out.mono ?_; rintro e w' ⟨rfl, hb⟩)
    go_ret
    exact ⟨rfl, hb⟩

def isLetter (r : Nat) : Bool := decide (97 ≤ r ∧ r ≤ 122) || decide (65 ≤ r ∧ r ≤ 90) || decide (48 ≤ r ∧ r ≤ 57)
def badR (r : Nat) : Bool := !isLetter r && !isMark r
theorem badR_letter {r : Nat} (h : isLetter r = true) : badR r = false := by unfold badR; rw [h]; rfl
theorem badR_other {r : Nat} (h : isLetter r = false) : badR r = !isMark r := by unfold badR; rw [h]; rfl

set_option maxRecDepth 100000 in
theorem bad1_any (r : Nat) (w : World) (h1 : r ≤ 1114111) : Calls Tryz.prog 229 #[.int .i32 r] w fun e w' => e = .returned (.bool (badR r)) ∧ Below w.heap.size w w' := by
  have HC := Lib.hid (contains_any r w h1)
  obtain ⟨z, hz⟩ : ∃ z, z = badR r := ⟨_, rfl⟩
  rw [← hz]
  rcases (show r < 48 ∨ (48 ≤ r ∧ r ≤ 57) ∨ (58 ≤ r ∧ r ≤ 64) ∨ (65 ≤ r ∧ r ≤ 90) ∨ (91 ≤ r ∧ r ≤ 96) ∨ (97 ≤ r ∧ r ≤ 122) ∨ 123 ≤ r by omega) with h | h | h | h | h | h | h
  · have e97 : decide ((97 : Int) ≤ (r : Int)) = false := decide_eq_false (by omega)
    have e65 : decide ((65 : Int) ≤ (r : Int)) = false := decide_eq_false (by omega)
    have e48 : decide ((48 : Int) ≤ (r : Int)) = false := decide_eq_false (by omega)
    have e122 : decide ((r : Int) ≤ 122) = true := decide_eq_true (by omega)
    have e90 : decide ((r : Int) ≤ 90) = true := decide_eq_true (by omega)
    have e57 : decide ((r : Int) ≤ 57) = true := decide_eq_true (by omega)
    have hb : z = !isMark r := hz.trans (badR_other (by unfold isLetter; simp; omega))
    obtain ⟨q, hq⟩ : ∃ q, q = isMark r := ⟨_, rfl⟩
    rw [← hq] at hb HC
    subst hb
    clear hz h hq
    go_enter Tryz.func229, Tryz.ntmps229
    go_wp2_with (go_at_call 230; refine HC.out.mono ?_; rintro e w' ⟨rfl, hb⟩)
    go_ret
    exact ⟨rfl, hb⟩
  · have e97 : decide ((97 : Int) ≤ (r : Int)) = false := decide_eq_false (by omega)
    have e65 : decide ((65 : Int) ≤ (r : Int)) = false := decide_eq_false (by omega)
    have e48 : decide ((48 : Int) ≤ (r : Int)) = true := decide_eq_true (by omega)
    have e122 : decide ((r : Int) ≤ 122) = true := decide_eq_true (by omega)
    have e90 : decide ((r : Int) ≤ 90) = true := decide_eq_true (by omega)
    have e57 : decide ((r : Int) ≤ 57) = true := decide_eq_true (by omega)
    have hb : z = false := hz.trans (badR_letter (by unfold isLetter; simp; omega))
    subst hb
    clear hz h HC
    go_enter Tryz.func229, Tryz.ntmps229
    go_wp2
    go_ret
    exact ⟨rfl, Below.refl _ _⟩
  · have e97 : decide ((97 : Int) ≤ (r : Int)) = false := decide_eq_false (by omega)
    have e65 : decide ((65 : Int) ≤ (r : Int)) = false := decide_eq_false (by omega)
    have e48 : decide ((48 : Int) ≤ (r : Int)) = true := decide_eq_true (by omega)
    have e122 : decide ((r : Int) ≤ 122) = true := decide_eq_true (by omega)
    have e90 : decide ((r : Int) ≤ 90) = true := decide_eq_true (by omega)
    have e57 : decide ((r : Int) ≤ 57) = false := decide_eq_false (by omega)
    have hb : z = !isMark r := hz.trans (badR_other (by unfold isLetter; simp; omega))
    obtain ⟨q, hq⟩ : ∃ q, q = isMark r := ⟨_, rfl⟩
    rw [← hq] at hb HC
    subst hb
    clear hz h hq
    go_enter Tryz.func229, Tryz.ntmps229
    go_wp2_with (go_at_call 230; refine HC.out.mono ?_; rintro e w' ⟨rfl, hb⟩)
    go_ret
    exact ⟨rfl, hb⟩
  · have e97 : decide ((97 : Int) ≤ (r : Int)) = false := decide_eq_false (by omega)
    have e65 : decide ((65 : Int) ≤ (r : Int)) = true := decide_eq_true (by omega)
    have e48 : decide ((48 : Int) ≤ (r : Int)) = true := decide_eq_true (by omega)
    have e122 : decide ((r : Int) ≤ 122) = true := decide_eq_true (by omega)
    have e90 : decide ((r : Int) ≤ 90) = true := decide_eq_true (by omega)
    have e57 : decide ((r : Int) ≤ 57) = false := decide_eq_false (by omega)
    have hb : z = false := hz.trans (badR_letter (by unfold isLetter; simp; omega))
    subst hb
    clear hz h HC
    go_enter Tryz.func229, Tryz.ntmps229
    go_wp2
    go_ret
    exact ⟨rfl, Below.refl _ _⟩
  · have e97 : decide ((97 : Int) ≤ (r : Int)) = false := decide_eq_false (by omega)
    have e65 : decide ((65 : Int) ≤ (r : Int)) = true := decide_eq_true (by omega)
    have e48 : decide ((48 : Int) ≤ (r : Int)) = true := decide_eq_true (by omega)
    have e122 : decide ((r : Int) ≤ 122) = true := decide_eq_true (by omega)
    have e90 : decide ((r : Int) ≤ 90) = false := decide_eq_false (by omega)
    have e57 : decide ((r : Int) ≤ 57) = false := decide_eq_false (by omega)
    have hb : z = !isMark r := hz.trans (badR_other (by unfold isLetter; simp; omega))
    obtain ⟨q, hq⟩ : ∃ q, q = isMark r := ⟨_, rfl⟩
    rw [← hq] at hb HC
    subst hb
    clear hz h hq
    go_enter Tryz.func229, Tryz.ntmps229
    go_wp2_with (go_at_call 230; refine HC.out.mono ?_; rintro e w' ⟨rfl, hb⟩)
    go_ret
    exact ⟨rfl, hb⟩
  · have e97 : decide ((97 : Int) ≤ (r : Int)) = true := decide_eq_true (by omega)
    have e65 : decide ((65 : Int) ≤ (r : Int)) = true := decide_eq_true (by omega)
    have e48 : decide ((48 : Int) ≤ (r : Int)) = true := decide_eq_true (by omega)
    have e122 : decide ((r : Int) ≤ 122) = true := decide_eq_true (by omega)
    have e90 : decide ((r : Int) ≤ 90) = false := decide_eq_false (by omega)
    have e57 : decide ((r : Int) ≤ 57) = false := decide_eq_false (by omega)
    have hb : z = false := hz.trans (badR_letter (by unfold isLetter; simp; omega))
    subst hb
    clear hz h HC
    go_enter Tryz.func229, Tryz.ntmps229
    go_wp2
    go_ret
    exact ⟨rfl, Below.refl _ _⟩
  · have e97 : decide ((97 : Int) ≤ (r : Int)) = true := decide_eq_true (by omega)
    have e65 : decide ((65 : Int) ≤ (r : Int)) = true := decide_eq_true (by omega)
    have e48 : decide ((48 : Int) ≤ (r : Int)) = true := decide_eq_true (by omega)
    have e122 : decide ((r : Int) ≤ 122) = false := decide_eq_false (by omega)
    have e90 : decide ((r : Int) ≤ 90) = false := decide_eq_false (by omega)
    have e57 : decide ((r : Int) ≤ 57) = false := decide_eq_false (by omega)
    have hb : z = !isMark r := hz.trans (badR_other (by unfold isLetter; simp; omega))
    obtain ⟨q, hq⟩ : ∃ q, q = isMark r := ⟨_, rfl⟩
    rw [← hq] at hb HC
    subst hb
    clear hz h hq
    go_enter Tryz.func229, Tryz.ntmps229
    go_wp2_with (go_at_call 230; refine HC.out.mono ?_; rintro e w' ⟨rfl, hb⟩)
    go_ret
    exact ⟨rfl, hb⟩
end Go.Proofs.YtciikcmiiebfpaaGreatDoor
end

/- BadN -/
section
/- badName of any text: a byte that no name has, or the length. -/
namespace Go.Proofs.YtciikcmiiebfpaaGreatDoor
open Go Go.RowKit Go.Maps Go.Proofs.YtciikcmiiebfpaaGreatDoorW.PrintWords Go.Proofs.YtciikcmiiebfpaaGreatDoor.PTopicsGets Go.Proofs.YtciikcmiiebfpaaGreatDoorW.PrintMore
set_option linter.unusedVariables false

theorem dec_low (s : ByteArray) (i : Nat) (h : (s.get! i).toNat < 128) : Utf8.decode s i = ((s.get! i).toNat, 1) := by
  unfold Utf8.decode
  simp only [Nat.add_zero]
  rw [if_pos h]
theorem dec_high (s : ByteArray) (i : Nat) (h : 128 ≤ (s.get! i).toNat) : 128 ≤ (Utf8.decode s i).1 := by
  unfold Utf8.decode Utf8.runeError
  simp only [Nat.add_zero]
  rw [if_neg (by omega)]
  split
  · split
    · simp only; omega
    · simp only; omega
  · split
    · split
      · rename_i h2
        simp only [Bool.and_eq_true, decide_eq_true_eq] at h2
        simp only; omega
      · simp only; omega
    · split
      · split
        · rename_i h2
          simp only [Bool.and_eq_true, decide_eq_true_eq] at h2
          simp only; omega
        · simp only; omega
      · simp only; omega
theorem badR_low (c : UInt8) (h : c.toNat < 128) : badR c.toNat = badC c := by
  unfold badR badC isLetter isMark
  generalize c.toNat = n
  simp only [Bool.not_or]
  cases decide (97 ≤ n ∧ n ≤ 122) <;> cases decide (65 ≤ n ∧ n ≤ 90) <;> cases decide (48 ≤ n ∧ n ≤ 57) <;> simp [Bool.and_assoc]
theorem badR_high {n : Nat} (h : 128 ≤ n) : badR n = true := by
  unfold badR isLetter isMark
  rw [decide_eq_false (by omega), decide_eq_false (by omega), decide_eq_false (by omega)]
  simp
  omega
theorem badC_high {c : UInt8} (h : 128 ≤ c.toNat) : badC c = true := by
  unfold badC
  rw [decide_eq_false (by omega), decide_eq_false (by omega), decide_eq_false (by omega)]
  simp
  omega
theorem get_list (s : ByteArray) (i : Nat) (h : i < s.size) : s.data.toList[i]? = some (s.get! i) := by
  have e : s.get! i = s.data[i]'h := by
    unfold ByteArray.get!
    exact getElem!_pos s.data i h
  rw [e, Array.getElem?_toList, Array.getElem?_eq_getElem h]
/-- What ContainsFunc finds, byte by byte. -/
theorem idx_bytes (s : ByteArray) : ∀ (f pos : Nat), s.size ≤ pos + f → decide (0 ≤ Lib.idxFuncFrom badR true s f pos) = (s.data.toList.drop pos).any badC := by
  intro f
  induction f with
  | zero =>
    intro pos h
    rw [Lib.idxFuncFrom_end _ _ _ _ _ (by omega), List.drop_of_length_le (by rw [Array.length_toList]; exact h)]
    rfl
  | succ f ih =>
    intro pos h
    by_cases hp : pos < s.size
    · have hl : pos < s.data.toList.length := by rw [Array.length_toList]; exact hp
      have hg : s.data.toList[pos] = s.get! pos := by
        have := get_list s pos hp
        rw [List.getElem?_eq_getElem hl] at this
        exact Option.some.inj this
      rw [List.drop_eq_getElem_cons hl, List.any_cons, hg]
      unfold Lib.idxFuncFrom
      rw [if_pos hp]
      by_cases hb : (s.get! pos).toNat < 128
      · rw [dec_low s pos hb, badR_low _ hb]
        simp only
        cases hc : badC (s.get! pos) with
        | true => rw [if_pos rfl]; simp
        | false => rw [if_neg (by decide), ih (pos + 1) (by omega)]; simp
      · rw [badR_high (dec_high s pos (by omega)), if_pos rfl, badC_high (by omega)]
        simp
    · rw [Lib.idxFuncFrom_end _ _ _ _ _ hp, List.drop_of_length_le (by rw [Array.length_toList]; show s.size ≤ pos; omega)]
      rfl

set_option maxRecDepth 100000 in
theorem bad_any (s : ByteArray) (w : World) : Calls Tryz.prog 180 #[.string s] w fun e w' => e = .returned (.bool (badN s.data.toList)) ∧ Below w.heap.size w w' := by
  by_cases h0 : s.data.toList = []
  · have hb : badN s.data.toList = true := by rw [h0]; rfl
    rw [hb]
    have h1 : s.toList.isEmpty = true := by rw [Lib.toList_data, h0]; rfl
    have h2 : s.toList = [] := by rw [Lib.toList_data, h0]
    have h3 : (!s.toList.isEmpty) = false := by rw [h1]; rfl
    clear hb h0
    go_enter Tryz.func180, Tryz.ntmps180
    go_wp2
    go_ret
    exact ⟨rfl, Below.refl _ _⟩
  · have e1 : s.data.toList.isEmpty = false := by simpa using h0
    have f1 : s.toList.isEmpty = false := by rw [Lib.toList_data]; exact e1
    have f2 : (!s.toList.isEmpty) = true := by rw [f1]; rfl
    have hsz : s.data.toList.length = s.size := Array.length_toList
    by_cases hl : 120 < s.size
    · have hb : badN s.data.toList = true := by unfold badN; rw [hsz, decide_eq_true hl]; simp
      rw [hb]
      clear hb hsz h0 e1
      have hl2 : decide ((120 : Int) < (s.size : Int)) = true := decide_eq_true (by omega)
      go_enter Tryz.func180, Tryz.ntmps180
      go_wp2
      go_ret
      exact ⟨rfl, Below.refl _ _⟩
    · have hb : badN s.data.toList = s.data.toList.any badC := by unfold badN; rw [e1, hsz, decide_eq_false hl]; rfl
      have HI := Lib.hid (idx_bytes s s.size 0 (by omega))
      rw [hb]
      have HC := Lib.hid (Tryz.strings_ContainsFunc_grows 229 #[] (fun args w => by kernel_rfl) badR s w (fun W x hx hW => bad1_any x W hx))
      obtain ⟨q, hq⟩ : ∃ q, q = s.data.toList.any badC := ⟨_, rfl⟩
      rw [← hq]
      have HQ := Lib.hid hq
      clear hb hsz hq h0 e1
      have hl2 : decide ((120 : Int) < (s.size : Int)) = false := decide_eq_false (by omega)
      go_enter Tryz.func180, Tryz.ntmps180
      go_wp2_with (go_at_call 228; refine HC.out.mono ?_; rintro e w' ⟨rfl, hb⟩)
      go_ret
      refine ⟨?_, hb⟩
      rw [HQ.out]
      have := HI.out
      rw [List.drop_zero] at this
      rw [← this]
      rfl
end Go.Proofs.YtciikcmiiebfpaaGreatDoor
end

/- Enter -/
section
/- (*Disk).enter: a file more. -/
namespace Go.Proofs.YtciikcmiiebfpaaGreatDoor
open Go Go.RowKit Go.Maps Go.Proofs.YtciikcmiiebfpaaGreatDoorW.PrintWords Go.Proofs.YtciikcmiiebfpaaGreatDoor.PTopicsGets Go.Proofs.YtciikcmiiebfpaaGreatDoorW.PrintMore
set_option linter.unusedVariables false

/-- A new file: both its rows are new; whichever was made first. -/
theorem file_new {w wA wB : World} {O : Nat → Own} {x : Nm} {vA vB : Value} {b : List Int} (hA : RB wA (fun k => w.heap.size ≤ k) vA b) (hAB : Below wA.heap.size wA wB) (hB : RB wB (fun k => wA.heap.size ≤ k) vB b) (hw : w.heap.size ≤ wA.heap.size) {w5 : World} {m : Nat}
    (hg : (wB.alloc (.cells #[vA, vB, .slice none 0 0] 252)).grownBy w5 (some m)) (hm : m < w.heap.size) :
    File w5 (paint (paint (paint O w.heap.size wA.heap.size (.safe x)) wA.heap.size wB.heap.size (.seen x)) wB.heap.size (wB.heap.size + 1) (.file x)) x wB.heap.size ⟨b, b, []⟩ := by
  have hz := hAB.size
  have hs : (wB.alloc (.cells #[vA, vB, .slice none 0 0] 252)).heap.size = wB.heap.size + 1 := World.size_alloc _ _
  have keep : ∀ k, k < wB.heap.size → k ≠ m → w5.heap[k]? = wB.heap[k]? := fun k hk hn => (hg.block k (by omega) (fun e => hn (Option.some.inj e))).trans (((Below.refl wB.heap.size wB).alloc (Nat.le_refl _) _).block k hk)
  refine ⟨vA, vB, .slice none 0 0, ⟨(hg.block wB.heap.size (by omega) (fun e => by have := Option.some.inj e; omega)).trans (heap_alloc_new _ _), paint_new (Nat.le_refl _) (Nat.lt_succ_self _), ?_, ?_, Kd.R_nil _ _ _ _ _⟩⟩
  · refine Kd.R_mono (Kd.R_step (Kd.R_bound hA) (w1 := w5) (fun k hk hl => ?_)) (fun k hk => ?_)
    · have h1 : w.heap.size ≤ k := hk.1
      exact (keep k (by omega) (by omega)).trans (hAB.block k hl)
    · have h1 : w.heap.size ≤ k := hk.1
      have h2 := hk.2.2.1
      show paint (paint (paint O w.heap.size wA.heap.size (.safe x)) wA.heap.size wB.heap.size (.seen x)) wB.heap.size (wB.heap.size + 1) (.file x) k = _
      rw [paint_old (by omega), paint_old (by omega), paint_new h1 h2]
  · refine Kd.R_mono (Kd.R_step (Kd.R_bound hB) (w1 := w5) (fun k hk hl => ?_)) (fun k hk => ?_)
    · have h1 : wA.heap.size ≤ k := hk.1
      exact keep k hl (by omega)
    · have h1 : wA.heap.size ≤ k := hk.1
      have h2 := hk.2.2.1
      show paint (paint (paint O w.heap.size wA.heap.size (.safe x)) wA.heap.size wB.heap.size (.seen x)) wB.heap.size (wB.heap.size + 1) (.file x) k = _
      rw [paint_old (by omega), paint_new h1 h2]
theorem file_new2 {w wA wB : World} {O : Nat → Own} {x : Nm} {vA vB : Value} {b : List Int} (hA : RB wA (fun k => w.heap.size ≤ k) vA b) (hAB : Below wA.heap.size wA wB) (hB : RB wB (fun k => wA.heap.size ≤ k) vB b) (hw : w.heap.size ≤ wA.heap.size) {w5 : World} {m : Nat}
    (hg : (wB.alloc (.cells #[vB, vA, .slice none 0 0] 252)).grownBy w5 (some m)) (hm : m < w.heap.size) :
    File w5 (paint (paint (paint O w.heap.size wA.heap.size (.seen x)) wA.heap.size wB.heap.size (.safe x)) wB.heap.size (wB.heap.size + 1) (.file x)) x wB.heap.size ⟨b, b, []⟩ := by
  have hz := hAB.size
  have hs : (wB.alloc (.cells #[vB, vA, .slice none 0 0] 252)).heap.size = wB.heap.size + 1 := World.size_alloc _ _
  have keep : ∀ k, k < wB.heap.size → k ≠ m → w5.heap[k]? = wB.heap[k]? := fun k hk hn => (hg.block k (by omega) (fun e => hn (Option.some.inj e))).trans (((Below.refl wB.heap.size wB).alloc (Nat.le_refl _) _).block k hk)
  refine ⟨vB, vA, .slice none 0 0, ⟨(hg.block wB.heap.size (by omega) (fun e => by have := Option.some.inj e; omega)).trans (heap_alloc_new _ _), paint_new (Nat.le_refl _) (Nat.lt_succ_self _), ?_, ?_, Kd.R_nil _ _ _ _ _⟩⟩
  · refine Kd.R_mono (Kd.R_step (Kd.R_bound hB) (w1 := w5) (fun k hk hl => ?_)) (fun k hk => ?_)
    · have h1 : wA.heap.size ≤ k := hk.1
      exact keep k hl (by omega)
    · have h1 : wA.heap.size ≤ k := hk.1
      have h2 := hk.2.2.1
      show paint (paint (paint O w.heap.size wA.heap.size (.seen x)) wA.heap.size wB.heap.size (.safe x)) wB.heap.size (wB.heap.size + 1) (.file x) k = _
      rw [paint_old (by omega), paint_new h1 h2]
  · refine Kd.R_mono (Kd.R_step (Kd.R_bound hA) (w1 := w5) (fun k hk hl => ?_)) (fun k hk => ?_)
    · have h1 : w.heap.size ≤ k := hk.1
      exact (keep k (by omega) (by omega)).trans (hAB.block k hl)
    · have h1 : w.heap.size ≤ k := hk.1
      have h2 := hk.2.2.1
      show paint (paint (paint O w.heap.size wA.heap.size (.seen x)) wA.heap.size wB.heap.size (.safe x)) wB.heap.size (wB.heap.size + 1) (.file x) k = _
      rw [paint_old (by omega), paint_old (by omega), paint_new h1 h2]

/-- A file is stored under a name. -/
theorem da_store {w w' : World} {d m : Nat} {O O' : Nat → Own} {k : Dk} {N : Nat} {pv : Value} {Z : List (Nm × (Nat × Fil))} {x : Nm} {p : Nat} {f : Fil} (h : DA w d m O k N pv Z) (hm : ML w' m (put (mapV (·.1) Z) x p)) (hF : File w' O' x p f) (hO : ∀ b, b < w.heap.size → O' b = O b)
    (hs : w.heap.size ≤ w'.heap.size) (hb : ∀ b, b < w.heap.size → b ≠ m → w'.heap[b]? = w.heap[b]?) (hlt : ∀ b, O' b ≠ .none → b < w'.heap.size) (hok : Dk.ok { k with files := put k.files x f } N) :
    DA w' d m O' { k with files := put k.files x f } N pv (put Z x (p, f)) := by
  have ne : ∀ b c, O b = c → c ≠ .map → b ≠ m := fun b c ho hc e => hc (by rw [← ho, e]; exact h.om)
  have ld := blk_lt h.blk
  refine ⟨(hb d ld (ne d _ h.od Own.noConfusion)).trans h.blk, (hO d ld).trans h.od, (hO m h.mp.lt).trans h.om, by rw [mapV_put]; exact hm, R_own h.plan (fun b hl ho => (hO b hl).trans ho) (fun b hl ho => hb b hl (ne b _ ho Own.noConfusion)), by rw [mapV_put, ← h.files], fun y q g hy => ?_, hlt, hok⟩
  rcases mem_put.1 hy with e | ⟨hy, hne⟩
  · injection e with e1 e2
    injection e2 with e2 e3
    subst e1 e2 e3
    exact hF
  · refine ((h.file y q g hy).own_ (fun b hl => hO b hl)).step (fun b hl ho => hb b hl (fun e => ?_))
    rw [hO b hl, e, h.om] at ho
    rcases ho with ho | ho | ho | ho <;> cases ho
/-- Three paints beyond a heap. -/
theorem paint3_old {O : Nat → Own} {a b c e : Nat} {c1 c2 c3 : Own} (h1 : a ≤ b) (h2 : b ≤ c) {k : Nat} (hk : k < a) : paint (paint (paint O a b c1) b c c2) c e c3 k = O k := by
  rw [paint_old (by omega), paint_old (by omega), paint_old hk]
theorem paint3_lt {O : Nat → Own} {a b c e n : Nat} {c1 c2 c3 : Own} (hO : ∀ k, O k ≠ .none → k < n) (h0 : n ≤ e) (h1 : b ≤ e) (h2 : c ≤ e) {k : Nat} (hk : paint (paint (paint O a b c1) b c c2) c e c3 k ≠ .none) : k < e := by
  unfold paint at hk
  split at hk
  · omega
  · split at hk
    · omega
    · split at hk
      · omega
      · have := hO k hk; omega
theorem paint3_foot {S : Nat → Prop} {O : Nat → Own} {a b c e : Nat} {c1 c2 c3 : Own} (hS : ∀ b, S b ↔ O b ≠ .none) (h1 : a ≤ b) (h2 : b ≤ c) (k : Nat) (hk : paint (paint (paint O a b c1) b c c2) c e c3 k ≠ .none) : S k ∨ a ≤ k := by
  by_cases hl : k < a
  · rw [paint3_old h1 h2 hl] at hk; exact .inl ((hS k).2 hk)
  · exact .inr (by omega)

/-- What the store of a new file leaves. -/
def Stored (w : World) (d N : Nat) (S : Nat → Prop) (k : Dk) (wx : World) : Prop := ∃ S', Disk wx d S' k N ∧ Tch S w wx ∧ ∀ b, S' b → S b ∨ w.heap.size ≤ b
theorem enter_end {w w0 wA wB w5 : World} {d m N : Nat} {O : Nat → Own} {k : Dk} {pv : Value} {Z : List (Nm × (Nat × Fil))} {S : Nat → Prop} {x : Nm} {vA vB v1 v2 : Value} {b : List Int} (h : DA w d m O k N pv Z) (hS : ∀ b, S b ↔ O b ≠ .none) (hb : Below w.heap.size w w0)
    (hA : RB wA (fun k => w0.heap.size ≤ k) vA b) (hbA : Below w0.heap.size w0 wA) (hB : RB wB (fun k => wA.heap.size ≤ k) vB b) (hbB : Below wA.heap.size wA wB) (hv : (v1 = vA ∧ v2 = vB) ∨ (v1 = vB ∧ v2 = vA))
    (hm5 : ML w5 m (put (mapV (·.1) Z) x wB.heap.size)) (hg5 : (wB.alloc (.cells #[v1, v2, .slice none 0 0] 252)).grownBy w5 (some m)) (hok : Dk.ok { k with files := put k.files x ⟨b, b, []⟩ } N) :
    Stored w d N S { k with files := put k.files x ⟨b, b, []⟩ } w5 := by
  have z1 := hb.size
  have z2 := hbA.size
  have z3 := hbB.size
  have hml := h.mp.lt
  have hs : (wB.alloc (.cells #[v1, v2, .slice none 0 0] 252)).heap.size = wB.heap.size + 1 := World.size_alloc _ _
  have z5 := hg5.size
  have hBall : Below w.heap.size w (wB.alloc (.cells #[v1, v2, .slice none 0 0] 252)) := (((hb.trans (hbA.mono z1)).trans (hbB.mono (by omega)))).alloc (by omega) _
  have hkeep : ∀ b, b < w.heap.size → b ≠ m → w5.heap[b]? = w.heap[b]? := fun b hl hn => (hg5.block b (by omega) (fun e => hn (Option.some.inj e))).trans (hBall.block b hl)
  have hT : Tch S w w5 := (Tch.of_below hBall).trans (some_m hg5 ((hS m).2 (by rw [h.om]; exact Own.noConfusion)))
  rcases hv with ⟨e1, e2⟩ | ⟨e1, e2⟩
  · subst e1 e2
    exact ⟨_, ⟨m, _, pv, _, da_store h hm5 (file_new (O := O) (x := x) hA hbB hB z2 hg5 (by omega)) (fun b hl => paint3_old z2 z3 (by omega)) (by omega) hkeep (fun b hb => Nat.lt_of_lt_of_le (paint3_lt h.lt (by omega) (by omega) (by omega) hb) (show wB.heap.size + 1 ≤ w5.heap.size by omega)) hok, fun b => Iff.rfl⟩, hT, fun b hb => (paint3_foot hS z2 z3 b hb).imp_right (fun h => by omega)⟩
  · subst e1 e2
    exact ⟨_, ⟨m, _, pv, _, da_store h hm5 (file_new2 (O := O) (x := x) hA hbB hB z2 hg5 (by omega)) (fun b hl => paint3_old z2 z3 (by omega)) (by omega) hkeep (fun b hb => Nat.lt_of_lt_of_le (paint3_lt h.lt (by omega) (by omega) (by omega) hb) (show wB.heap.size + 1 ≤ w5.heap.size by omega)) hok, fun b => Iff.rfl⟩, hT, fun b hb => (paint3_foot hS z2 z3 b hb).imp_right (fun h => by omega)⟩
theorem put_box {w wB : World} {d m N : Nat} {O : Nat → Own} {k : Dk} {pv : Value} {Z : List (Nm × (Nat × Fil))} (h : DA w d m O k N pv Z) (hb : Below w.heap.size w wB) (hl : k.files.length < maxLen) {s : ByteArray} (hs : s.size ≤ maxLen) (v1 v2 : Value) :
    ∃ w', (Instr.mapUpdate 55 (.map (some m)) (.string s) (.pointer (some ⟨wB.heap.size, 0, none⟩))).run Tryz.prog (wB.alloc (.cells #[v1, v2, .slice none 0 0] 252)) = .ok () w' ∧ ML w' m (put (mapV (·.1) Z) s.data.toList wB.heap.size) ∧ (wB.alloc (.cells #[v1, v2, .slice none 0 0] 252)).grownBy w' (some m) :=
  (h.below (hb.alloc hb.size _)).mp.put_run (by rw [mapV_length, ← mapV_length (·.2) Z, ← h.files]; exact hl) hs wB.heap.size
theorem enter_ok {k : Dk} {N : Nat} {x : Nm} {b : List Int} (h : k.ok N) (hx : badN x = false) (hn : ¬ 256 ≤ k.files.length) (hl : look k.files x = none) (hb : Byt b) (hbl : b.length ≤ big) : Dk.ok { k with files := put k.files x ⟨b, b, []⟩ } N := by
  refine ⟨fun p hp => ?_, h.2.1, h.2.2.1, ?_, h.2.2.2.2⟩
  · rcases mem_put.1 hp with e | ⟨hp, _⟩
    · subst e
      refine ⟨Wf.refl hbl hb, Nat.zero_le _, ?_⟩
      unfold badN at hx
      simp only [Bool.or_eq_false_iff, decide_eq_false_iff_not] at hx
      simp only
      omega
    · exact h.1 p hp
  · show (put k.files x _).length ≤ 256
    unfold put
    rw [ins_length, del_of_none hl]
    omega

set_option maxRecDepth 100000 in
set_option maxHeartbeats 2000000 in
theorem enter_any (w : World) (d N : Nat) (S : Nat → Prop) (k : Dk) (s : ByteArray) (A : Option Addr) (n c : Nat) (b : List Int) (h : Disk w d S k N) (hs : s.size ≤ maxLen)
    (hC : ∀ W, Below w.heap.size w W → (Kd.int .u8).C W A n b) (hb : Byt b) (hbl : n ≤ big) :
    Calls Tryz.prog 130 #[.pointer (some ⟨d, 0, none⟩), .string s, .slice A n c] w (SPost S d N w (enterD k s.data.toList b)) := by
  obtain ⟨m, O, pv, Z, h, hS⟩ := h
  have HD := Lib.hid (show Disk w d S k N from ⟨m, O, pv, Z, h, hS⟩)
  have H := Lib.hid h
  have HS := Lib.hid hS
  have HC := Lib.hid hC
  have HB := Lib.hid hb
  have HLF := Lib.hid (h.look_files s.data.toList)
  have HBN := Lib.hid (bad_any s w)
  have hnl := (hC w (Below.refl _ _)).1
  have HNL := Lib.hid hnl
  have hdl := h.cells.2
  obtain ⟨q, hq⟩ : ∃ q, q = badN s.data.toList := ⟨_, rfl⟩
  rw [← hq] at HBN
  have HQ := Lib.hid hq
  clear h hS hC hb hnl hq
  cases q with
  | true =>
    have HR : Hid (enterD k s.data.toList b = (k, 40)) := by show _ = _; unfold enterD; rw [if_pos HQ.out.symm]
    go_enter Tryz.func130, Tryz.ntmps130
    go_wp2_with (go_at_call 180; refine HBN.out.mono ?_; rintro e w1 ⟨rfl, hb1⟩)
    go_ret
    rw [HR.out]
    exact ⟨S, rfl, HD.out.below hb1, Tch.of_below hb1, fun b hb => .inl hb⟩
  | false =>
    cases hz : look Z s.data.toList with
    | some pf =>
      obtain ⟨p, f⟩ := pf
      have HR : Hid (enterD k s.data.toList b = (k, 184)) := by show _ = _; unfold enterD; rw [if_neg (by rw [← HQ.out]; decide), HLF.out, hz]; rfl
      have HLK : Hid (∀ W, Below w.heap.size w W → (Instr.lookup 55 (.map (some m)) (.string s) false).run Tryz.prog W = .ok (.pointer (some ⟨p, 0, none⟩)) W) := fun W hW => by
        have := (H.out.below hW).mp.look_run hs
        rw [look_mapV, hz] at this
        exact this
      clear hz
      go_enter Tryz.func130, Tryz.ntmps130
      go_wp2_with (go_at_call 180; refine HBN.out.mono ?_; rintro e w1 ⟨rfl, hb1⟩; have lk := HLK.out w1 hb1; obtain ⟨⟨c0, _⟩, hdl1⟩ := (H.out.below hb1).cells)
      go_ret
      rw [HR.out]
      exact ⟨S, rfl, HD.out.below hb1, Tch.of_below hb1, fun b hb => .inl hb⟩
    | none =>
      have HLK : Hid (∀ W, Below w.heap.size w W → (Instr.lookup 55 (.map (some m)) (.string s) false).run Tryz.prog W = .ok (.pointer none) W) := fun W hW => by
        have := (H.out.below hW).mp.look_run hs
        rw [look_mapV, hz] at this
        exact this
      have hlf : look k.files s.data.toList = none := by rw [HLF.out, hz]; rfl
      obtain ⟨L, hL⟩ : ∃ L, L = k.files.length := ⟨_, rfl⟩
      have HL := Lib.hid hL
      have HLN : Hid (∀ W ty, Below w.heap.size w W → (Builtin.len_ #[55] ty #[.map (some m)]).run Tryz.prog W = .ok (.int .i64 L) W) := fun W ty hW => by
        have := (H.out.below hW).mp.len_run ty
        rw [mapV_length, ← mapV_length (·.2) Z, ← H.out.files, ← hL] at this
        exact this
      have HLF2 := Lib.hid hlf
      clear hz hlf hL
      by_cases hm : 256 ≤ L
      · have hm2 : decide ((256 : Int) ≤ (L : Int)) = true := decide_eq_true (by omega)
        have HR : Hid (enterD k s.data.toList b = (k, 9)) := by show _ = _; unfold enterD; rw [if_neg (by rw [← HQ.out]; decide), HLF2.out, if_neg (by decide), if_pos (by rw [← HL.out]; exact hm)]
        clear hm
        go_enter Tryz.func130, Tryz.ntmps130
        go_wp2_with (go_at_call 180; refine HBN.out.mono ?_; rintro e w1 ⟨rfl, hb1⟩; have lk := HLK.out w1 hb1; have ln := fun ty => HLN.out w1 ty hb1; obtain ⟨⟨c0, _⟩, hdl1⟩ := (H.out.below hb1).cells)
        go_ret
        rw [HR.out]
        exact ⟨S, rfl, HD.out.below hb1, Tch.of_below hb1, fun b hb => .inl hb⟩
      · have hm2 : decide ((256 : Int) ≤ (L : Int)) = false := decide_eq_false (by omega)
        have HR : Hid (enterD k s.data.toList b = ({ k with files := put k.files s.data.toList ⟨b, b, []⟩ }, 0)) := by show _ = _; unfold enterD; rw [if_neg (by rw [← HQ.out]; decide), HLF2.out, if_neg (by decide), if_neg (by rw [← HL.out]; exact hm)]
        have HOK := Lib.hid (enter_ok H.out.ok HQ.out.symm (by rw [← HL.out]; exact hm) HLF2.out HB.out (by rw [HNL.out]; exact hbl))
        clear hm
        go_enter Tryz.func130, Tryz.ntmps130
        go_upto_region 7 with (go_at_call 180; refine HBN.out.mono ?_; rintro e w1 ⟨rfl, hb1⟩; have lk := HLK.out w1 hb1; have ln := fun ty => HLN.out w1 ty hb1; obtain ⟨⟨c0, _⟩, hdl1⟩ := (H.out.below hb1).cells; have HB1 := Lib.hid hb1)
        have HD1 : Hid (Below w.heap.size w w1.drew) := HB1.out.trans (below_drew (Below.refl _ _))
        have hd := HD1.out
        have HNL2 : Hid (n * 1 ≤ 140737488355328) := by show _ ≤ _; unfold big at hbl; omega
        have hLL : Hid (k.files.length < maxLen) := by show _ < _; have := H.out.ok.2.2.2.1; unfold maxLen; omega
        have tok1 : True := trivial
        clear lk ln
        go_cut [] from 25 to 35 (fun wx => Stored w d N S { k with files := put k.files s.data.toList ⟨b, b, []⟩ } wx)
        case first =>
          go_region_law (first
            | (go_simp; go_at_call 114; have _t := tok1; refine (clone_bytes A n c b _ (HC.out _ HD1.out) HNL2.out).mono ?_; rintro r wA ⟨vA, rfl, hv, hb⟩; obtain ⟨N5, B5, q5, rfl⟩ : ∃ n A q, vA = .slice A n q := (by obtain ⟨A_, q_, e_⟩ := Kd.R_slice hv; exact ⟨_, A_, q_, e_⟩); have HVA := Lib.hid hv; have HBA := Lib.hid hb; have hBA : Hid (Below w.heap.size w wA) := HD1.out.trans (hb.mono HD1.out.size); obtain ⟨⟨c0, _⟩, hdl2⟩ := (H.out.below hBA.out).cells; clear hv hb tok1 _t)
            | (go_simp; go_at_call 114; refine (clone_bytes A n c b _ (HC.out _ hBA.out) HNL2.out).mono ?_; rintro r wB ⟨vB, rfl, hv, hb⟩; obtain ⟨N6, B6, q6, rfl⟩ : ∃ n A q, vB = .slice A n q := (by obtain ⟨A_, q_, e_⟩ := Kd.R_slice hv; exact ⟨_, A_, q_, e_⟩); have HVB := Lib.hid hv; have HBB := Lib.hid hb; have hBB : Hid (Below w.heap.size w wB) := hBA.out.trans (hb.mono hBA.out.size); obtain ⟨⟨c0, _⟩, hdl2⟩ := (H.out.below hBB.out).cells; obtain ⟨wx, hrx, hmx, hgx⟩ := put_box H.out hBB.out hLL.out hs (.slice B5 N5 q5) (.slice B6 N6 q6); obtain ⟨wy, hry, hmy, hgy⟩ := put_box H.out hBB.out hLL.out hs (.slice B6 N6 q6) (.slice B5 N5 q5); have HEX := Lib.hid (enter_end H.out HS.out HD1.out HVA.out HBA.out HVB.out HBB.out (.inl ⟨rfl, rfl⟩) hmx hgx HOK.out); have HEY := Lib.hid (enter_end H.out HS.out HD1.out HVA.out HBA.out HVB.out HBB.out (.inr ⟨rfl, rfl⟩) hmy hgy HOK.out); clear hv hb hmx hgx hmy hgy))
          all_goals
            go_wp2_with fail
            go_meet
            first | exact HEX.out | exact HEY.out
        case rest =>
        obtain ⟨S', hD5, hT5, hS5⟩ := hcut
        have HD5 := Lib.hid hD5
        clear hD5
        go_wp2_with fail
        go_ret
        rw [HR.out]
        exact ⟨S', rfl, HD5.out, hT5, hS5⟩
end Go.Proofs.YtciikcmiiebfpaaGreatDoor
end

/- Meth -/
section
/- PRINTED by gen_meth.py: Create, Append, Cut, Sync, Remove: each is a step. -/
namespace Go.Proofs.YtciikcmiiebfpaaGreatDoor
open Go Go.RowKit Go.Maps Go.Proofs.YtciikcmiiebfpaaGreatDoorW.PrintWords Go.Proofs.YtciikcmiiebfpaaGreatDoor.PTopicsGets Go.Proofs.YtciikcmiiebfpaaGreatDoorW.PrintMore
set_option linter.unusedVariables false

theorem box_new (w : World) (v : Value) (T : TypeId) : Box (w.alloc (.cells #[v] T)) w.heap.size v := (blk_cell (heap_alloc_new w _) 0).trans rfl
theorem Box.later {w w' : World} {b : Nat} {v : Value} {S : Nat → Prop} (h : Box w b v) (ht : Tch S w w') (hb : ¬ S b) : Box w' b v := (ht.cell (a := ⟨b, 0, none⟩) h.lt hb).trans h
theorem Box.below {w w' : World} {b : Nat} {v : Value} (h : Box w b v) (hb : Below w.heap.size w w') : Box w' b v := (hb.cell (p := ⟨b, 0, none⟩) h.lt).trans h
theorem Dk.ok.chs {k : Dk} {N : Nat} (h : k.ok N) : ∀ p ∈ (inc k).files, p.2.chs.length + 1 ≤ N + 1 := fun p hp => Nat.succ_le_succ (h.1 p hp).2.1
set_option maxRecDepth 100000 in
theorem nothing_any (n : Int) (w : World) : Calls Tryz.prog 98 #[.int .i64 n] w fun e w' => e = .returned (.tuple #[]) ∧ w' = w := by
  go_enter Tryz.func98, Tryz.ntmps98
  go_wp2
  go_end0
  exact ⟨rfl, rfl⟩
theorem nothing_q {d N : Nat} {S : Nat → Prop} {k : Dk} {W : World} (n : Int) (h : Disk W d S k N) : Calls Tryz.prog 98 #[.int .i64 n] W (QPost S d N W k) :=
  (nothing_any n W).mono fun e w' ⟨he, hw⟩ => by subst hw; exact ⟨S, he, h, Tch.refl _ _, fun b hb => .inl hb⟩

set_option maxRecDepth 100000 in
theorem create1_any (w : World) (d N : Nat) (S : Nat → Prop) (k : Dk) (s : ByteArray) (bd bn : Nat) (h : Disk w d S k N) (hs : s.size ≤ maxLen) (x1 : Box w bd (.pointer (some ⟨d, 0, none⟩))) (x2 : Box w bn (.string s)) :
    Calls Tryz.prog 129 #[.pointer (some ⟨bd, 0, none⟩), .pointer (some ⟨bn, 0, none⟩)] w (SPost S d N w (createD s.data.toList k)) := by
  have HE := Lib.hid (enter_any w d N S k s none 0 0 [] h hs (fun W _ => Kd.C_nil _ W) (fun b hb => by cases hb) (by decide))
  unfold Box at x1 x2
  clear h
  go_enter Tryz.func129, Tryz.ntmps129
  go_wp2_with (go_at_call 130; refine HE.out.mono ?_; rintro e w2 ⟨S', rfl, hD2, hT2, hS2⟩)
  go_ret
  exact ⟨S', rfl, hD2, hT2, hS2⟩

set_option maxRecDepth 100000 in
set_option maxHeartbeats 1000000 in
theorem create_any (w : World) (d N : Nat) (S : Nat → Prop) (k : Dk) (s : ByteArray) (h : Disk w d S k N) (hN : N < 1000000000000) (hs : s.size ≤ maxLen) :
    Calls Tryz.prog 72 #[.pointer (some ⟨d, 0, none⟩), .string s] w (SPost S d (N + 1) w (stepD (createD s.data.toList) (fun k _ => k) k)) := by
  have HD := Lib.hid h
  obtain ⟨W0, hW0⟩ : ∃ W0, W0 = ((w.alloc (.cells #[.pointer (some ⟨d, 0, none⟩)] 24)).alloc (.cells #[.string s] 9)) := ⟨_, rfl⟩
  have hB : Below w.heap.size w W0 := by
    rw [hW0]
    exact ((Below.refl _ _).alloc (Nat.le_refl _) _).alloc (by simp) _
  have s1 : (w.alloc (.cells #[.pointer (some ⟨d, 0, none⟩)] 24)).heap.size = w.heap.size + 1 := World.size_alloc _ _
  have x1 : Box W0 w.heap.size (.pointer (some ⟨d, 0, none⟩)) := by
    rw [hW0]
    exact (box_new w _ _).below ((Below.refl _ _).alloc (Nat.le_refl _) _)
  have x2 : Box W0 (w.heap.size + 1) (.string s) := by
    rw [hW0, ← s1]
    exact (box_new _ _ _)
  have hlt : ∀ j, w.heap.size ≤ j → ¬ S j := fun j hj hS => by have := h.lt hS; omega
  have hok := h.okk
  have HD0 := h.below hB
  have HST := Lib.hid (step_any W0 d N S k HD0 (Nat.le_of_lt hN) 129 98 #[.pointer (some ⟨w.heap.size, 0, none⟩), .pointer (some ⟨w.heap.size + 1, 0, none⟩)] #[] (fun args w => by kernel_rfl) (fun args w => by kernel_rfl) (createD s.data.toList) (fun k _ => k)
    (fun W hT hD => create1_any W d (N + 1) S (inc k) s _ _ hD hs (x1.later hT (hlt _ (Nat.le_refl _))) (x2.later hT (hlt _ (by omega))))
    (fun W n hn hT hD => nothing_q n hD))
  have HB := Lib.hid hB
  have HX1 := Lib.hid x1
  rw [hW0] at HX1 HST HB
  clear hB x1 x2 hlt hok HD0 h s1 hW0
  go_enter Tryz.func72, Tryz.ntmps72
  go_wp2_with (go_at_call 96; refine HST.out.mono ?_; rintro e w2 ⟨S', rfl, hD2, hT2, hS2⟩)
  go_ret
  exact ⟨S', rfl, hD2, (Tch.of_below HB.out).trans hT2, fun b hb => (hS2 b hb).imp_right (fun h => Nat.le_trans HB.out.size h)⟩

set_option maxRecDepth 100000 in
set_option maxHeartbeats 1000000 in
theorem append_any (w : World) (d N : Nat) (S : Nat → Prop) (k : Dk) (s : ByteArray) (A : Option Addr) (n c : Nat) (b : List Int) (h : Disk w d S k N) (hN : N < 1000000000000) (hs : s.size ≤ maxLen) (hC : ∀ W, Tch S w W → (Kd.int .u8).C W A n b) (hb : Byt b) (hbl : n ≤ big) (hnc : n ≤ c) :
    Calls Tryz.prog 74 #[.pointer (some ⟨d, 0, none⟩), .string s, (.slice A n c)] w (SPost S d (N + 1) w (stepD (appendD b s.data.toList) (partD b s.data.toList) k)) := by
  have HD := Lib.hid h
  obtain ⟨W0, hW0⟩ : ∃ W0, W0 = (((w.alloc (.cells #[.pointer (some ⟨d, 0, none⟩)] 24)).alloc (.cells #[.string s] 9)).alloc (.cells #[(.slice A n c)] 51)) := ⟨_, rfl⟩
  have hB : Below w.heap.size w W0 := by
    rw [hW0]
    exact (((Below.refl _ _).alloc (Nat.le_refl _) _).alloc (by simp) _).alloc (by simp; omega) _
  have s1 : (w.alloc (.cells #[.pointer (some ⟨d, 0, none⟩)] 24)).heap.size = w.heap.size + 1 := World.size_alloc _ _
  have x1 : Box W0 w.heap.size (.pointer (some ⟨d, 0, none⟩)) := by
    rw [hW0]
    exact Box.below ((box_new w _ _).below ((Below.refl _ _).alloc (Nat.le_refl _) _)) ((Below.refl _ _).alloc (Nat.le_refl _) _)
  have x2 : Box W0 (w.heap.size + 1) (.string s) := by
    rw [hW0, ← s1]
    exact Box.below ((box_new _ _ _)) ((Below.refl _ _).alloc (Nat.le_refl _) _)
  have s2 : ((w.alloc (.cells #[.pointer (some ⟨d, 0, none⟩)] 24)).alloc (.cells #[.string s] 9)).heap.size = w.heap.size + 2 := by rw [World.size_alloc, s1]
  have x3 : Box W0 (w.heap.size + 2) ((.slice A n c)) := by
    rw [hW0, ← s2]
    exact box_new _ _ _
  have hlt : ∀ j, w.heap.size ≤ j → ¬ S j := fun j hj hS => by have := h.lt hS; omega
  have hok := h.okk
  have HD0 := h.below hB
  have HST := Lib.hid (step_any W0 d N S k HD0 (Nat.le_of_lt hN) 131 134 #[.pointer (some ⟨w.heap.size, 0, none⟩), .pointer (some ⟨w.heap.size + 1, 0, none⟩), .pointer (some ⟨w.heap.size + 2, 0, none⟩)] #[.pointer (some ⟨w.heap.size, 0, none⟩), .pointer (some ⟨w.heap.size + 1, 0, none⟩), .pointer (some ⟨w.heap.size + 2, 0, none⟩)] (fun args w => by kernel_rfl) (fun args w => by kernel_rfl) (appendD b s.data.toList) (partD b s.data.toList)
    (fun W hT hD => append1_any W d (N + 1) S (inc k) s A n c b _ _ _ hD hok.chs (by omega) hs (x1.later hT (hlt _ (Nat.le_refl _))) (x2.later hT (hlt _ (by omega))) (x3.later hT (hlt _ (by omega))) (fun W' hT' => hC W' (((Tch.of_below hB).trans hT).trans hT')) hb hbl)
    (fun W u hu hT hD => append2_any W d (N + 1) S (inc k) s A n c b _ _ _ hD hok.chs (by omega) hs (x1.later hT (hlt _ (Nat.le_refl _))) (x2.later hT (hlt _ (by omega))) (x3.later hT (hlt _ (by omega))) (fun W' hT' => hC W' (((Tch.of_below hB).trans hT).trans hT')) hb hbl hnc ⟨hlt _ (Nat.le_refl _), hlt _ (by omega)⟩ u hu))
  have HB := Lib.hid hB
  have HX1 := Lib.hid x1
  rw [hW0] at HX1 HST HB
  clear hB x1 x2 hlt hok HD0 h s1 hW0 x3 s2 hC
  go_enter Tryz.func74, Tryz.ntmps74
  go_wp2_with (go_at_call 96; refine HST.out.mono ?_; rintro e w2 ⟨S', rfl, hD2, hT2, hS2⟩)
  go_ret
  exact ⟨S', rfl, hD2, (Tch.of_below HB.out).trans hT2, fun b hb => (hS2 b hb).imp_right (fun h => Nat.le_trans HB.out.size h)⟩

set_option maxRecDepth 100000 in
set_option maxHeartbeats 1000000 in
theorem sync_any (w : World) (d N : Nat) (S : Nat → Prop) (k : Dk) (s : ByteArray) (h : Disk w d S k N) (hN : N < 1000000000000) (hs : s.size ≤ maxLen) :
    Calls Tryz.prog 75 #[.pointer (some ⟨d, 0, none⟩), .string s] w (SPost S d (N + 1) w (stepD (syncD s.data.toList) (fun k _ => k) k)) := by
  have HD := Lib.hid h
  obtain ⟨W0, hW0⟩ : ∃ W0, W0 = ((w.alloc (.cells #[.pointer (some ⟨d, 0, none⟩)] 24)).alloc (.cells #[.string s] 9)) := ⟨_, rfl⟩
  have hB : Below w.heap.size w W0 := by
    rw [hW0]
    exact ((Below.refl _ _).alloc (Nat.le_refl _) _).alloc (by simp) _
  have s1 : (w.alloc (.cells #[.pointer (some ⟨d, 0, none⟩)] 24)).heap.size = w.heap.size + 1 := World.size_alloc _ _
  have x1 : Box W0 w.heap.size (.pointer (some ⟨d, 0, none⟩)) := by
    rw [hW0]
    exact (box_new w _ _).below ((Below.refl _ _).alloc (Nat.le_refl _) _)
  have x2 : Box W0 (w.heap.size + 1) (.string s) := by
    rw [hW0, ← s1]
    exact (box_new _ _ _)
  have hlt : ∀ j, w.heap.size ≤ j → ¬ S j := fun j hj hS => by have := h.lt hS; omega
  have hok := h.okk
  have HD0 := h.below hB
  have HST := Lib.hid (step_any W0 d N S k HD0 (Nat.le_of_lt hN) 135 98 #[.pointer (some ⟨w.heap.size, 0, none⟩), .pointer (some ⟨w.heap.size + 1, 0, none⟩)] #[] (fun args w => by kernel_rfl) (fun args w => by kernel_rfl) (syncD s.data.toList) (fun k _ => k)
    (fun W hT hD => sync1_any W d (N + 1) S (inc k) s _ _ hD hs (x1.later hT (hlt _ (Nat.le_refl _))) (x2.later hT (hlt _ (by omega))))
    (fun W n hn hT hD => nothing_q n hD))
  have HB := Lib.hid hB
  have HX1 := Lib.hid x1
  rw [hW0] at HX1 HST HB
  clear hB x1 x2 hlt hok HD0 h s1 hW0
  go_enter Tryz.func75, Tryz.ntmps75
  go_wp2_with (go_at_call 96; refine HST.out.mono ?_; rintro e w2 ⟨S', rfl, hD2, hT2, hS2⟩)
  go_ret
  exact ⟨S', rfl, hD2, (Tch.of_below HB.out).trans hT2, fun b hb => (hS2 b hb).imp_right (fun h => Nat.le_trans HB.out.size h)⟩

end Go.Proofs.YtciikcmiiebfpaaGreatDoor
end
