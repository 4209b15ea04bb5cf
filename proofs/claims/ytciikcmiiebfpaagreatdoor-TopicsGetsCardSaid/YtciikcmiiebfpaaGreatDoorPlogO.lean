/- PlogN, PlogO as one text (a claim holds at most 60 files). -/
import Derived.Test.YtciikcmiiebfpaaGreatDoorSegS
import Derived.Test.YtciikcmiiebfpaaGreatDoorLoadS
import Derived.Test.YtciikcmiiebfpaaGreatDoorLbClash

/- PlogN -/
section
/- plog: names; probe; what idem does for a set without a producer; the bases on a disk without files. -/
namespace Go.Proofs.YtciikcmiiebfpaaGreatDoor
open Go Go.RowKit Go.Maps Go.Proofs.YtciikcmiiebfpaaGreatDoorW.PrintWords Go.Proofs.YtciikcmiiebfpaaGreatDoor.PTopicsGets Go.Proofs.YtciikcmiiebfpaaGreatDoorW.PrintMore
set_option linter.unusedVariables false
set_option linter.unusedSimpArgs false

/-- A segment's file. -/
def nameS (dir : ByteArray) (b : Nat) : ByteArray := dir ++ ⟨#[47]⟩ ++ Lb.fileS b
theorem fileS_size (b : Nat) (hb : b ≤ 4611686018427387904) : (Lb.fileS b).size = 24 := by
  unfold Lb.fileS
  rw [Lb.strOf_size, List.length_append, Lb.dec_length]
  have := Lb.nd19 hb
  unfold Lb.decLen
  show max _ 20 + 4 = 24
  omega
theorem nameS_size (dir : ByteArray) (b : Nat) (hb : b ≤ 4611686018427387904) : (nameS dir b).size = dir.size + 25 := by
  unfold nameS
  rw [ByteArray.size_append, ByteArray.size_append, fileS_size b hb]
  show dir.size + 1 + 24 = _
  omega

set_option maxRecDepth 100000 in
theorem name_any (dir : ByteArray) (hd : dir.size ≤ 1000) (b : Nat) (hb : b ≤ 4611686018427387904) (w : World) (hl : Lb.LibOk w) :
    Calls Tryz.prog 50 #[.string dir, .int .i64 (b : Int)] w fun r w' => r = .returned (.string (nameS dir b)) ∧ Below w.heap.size w w' := by
  have hf := Lb.file_any w (b : Int) hl
  have ha : Lb.fileAns (b : Int) = .tuple #[.string (Lb.fileS b), .int .i64 0] := by
    unfold Lb.fileAns
    rw [if_neg (by omega)]
    rfl
  rw [ha] at hf
  have HF := Lib.hid hf
  have h1 := fileS_size b hb
  have HN : Hid (nameS dir b = dir ++ ⟨#[47]⟩ ++ Lb.fileS b) := rfl
  have h2 : (dir ++ (⟨#[47]⟩ : ByteArray)).size = dir.size + 1 := by rw [ByteArray.size_append]; rfl
  clear hl hf ha
  generalize Lb.fileS b = f at *
  go_enter Tryz.func50, Tryz.ntmps50
  go_wp2_with fail
  refine HF.out.mono ?_
  rintro r w1 ⟨rfl, hb1⟩
  have HB := Lib.hid hb1
  clear hb1 HF
  go_wp2_with fail
  all_goals
    go_ret
    exact ⟨by rw [HN.out]; rfl, HB.out⟩

theorem bad_none (ep seq count : Int) (w : World) : Calls Tryz.prog 68 #[.int .i64 (-1), .int .i16 ep, .int .i32 seq, .int .i64 count] w fun r w' => w' = w ∧ r = .returned (.bool false) := by
  go_enter Tryz.func68, Tryz.ntmps68
  go_wp2_with fail
  all_goals
    go_ret
    exact ⟨rfl, rfl⟩
theorem note_none (t : Value) (ep seq count base : Int) (w : World) : Calls Tryz.prog 35 #[t, .int .i64 (-1), .int .i16 ep, .int .i32 seq, .int .i64 count, .int .i64 base] w fun r w' => w' = w ∧ r = .returned (.int .i64 0) := by
  go_enter Tryz.func35, Tryz.ntmps35
  go_wp2_with fail
  refine (bad_none ep seq count w).mono ?_
  rintro r w1 ⟨rfl, rfl⟩
  go_wp2_with fail
  all_goals
    go_ret
    exact ⟨rfl, rfl⟩
theorem idemNew_any (w : World) : Calls Tryz.prog 46 #[] w fun r w' => Below w.heap.size w w' ∧ r = .returned (.pointer (some ⟨w.heap.size + 1, 0, none⟩)) := by
  have hmm := @run_makeMap Tryz.prog
  go_enter Tryz.func46, Tryz.ntmps46
  go_wp2_with fail
  go_ret
  exact ⟨((Below.refl _ _).alloc (Nat.le_refl _) _).alloc (by rw [World.size_alloc]; omega) _, rfl⟩
end Go.Proofs.YtciikcmiiebfpaaGreatDoor
end

/- PlogO -/
section
/- plog: probe; the bases on a disk without files; a range backward over nothing. -/
namespace Go.Proofs.YtciikcmiiebfpaaGreatDoor
open Go Go.RowKit Go.Maps Go.Proofs.YtciikcmiiebfpaaGreatDoorW.PrintWords Go.Proofs.YtciikcmiiebfpaaGreatDoor.PTopicsGets Go.Proofs.YtciikcmiiebfpaaGreatDoorW.PrintMore
set_option linter.unusedVariables false
set_option linter.unusedSimpArgs false

theorem loadD_one (room : Int) (s : ByteArray) (hb : badN s.data.toList = false) : (loadD room [⟨s, []⟩]).2 = 0 := by
  unfold loadD
  show (loadL (newD room) (_ :: [])).2 = 0
  rw [loadL]
  have e : (enterD (newD room) s.data.toList []).2 = 0 := by
    unfold enterD
    rw [if_neg (by rw [hb]; decide)]
    rfl
  dsimp only
  rw [if_pos e]
  rfl
set_option maxRecDepth 100000 in
set_option maxHeartbeats 2000000 in
theorem probe_any (dir : ByteArray) (hd : dir.size ≤ 1000) (hbad : badN (nameS dir 0).data.toList = false) (w : World) (hl : Lb.LibOk w) :
    Calls Tryz.prog 44 #[.string dir] w fun r w' => r = .returned (.int .i64 0) ∧ Below w.heap.size w w' := by
  have HF := Lib.hid (name_any dir hd 0 (by decide) w hl)
  have hs := nameS_size dir 0 (by decide)
  have HLD : ∀ W : World, ∀ b T, W.heap[b]? = some (.cells #[.string (nameS dir 0), .slice none 0 0] T (0, 0)) →
      Calls Tryz.prog 87 #[.int .i64 0, .slice (some ⟨b, 0, none⟩) 1 1] W fun r w' => (∃ p, r = .returned (.tuple #[p, .int .i64 0])) ∧ Below W.heap.size W w' := by
    intro W b T hb
    refine (load_any W 0 (some ⟨b, 0, none⟩) 1 1 [⟨nameS dir 0, []⟩] ⟨rfl, fun i f hi => ?_⟩ (by decide) ?_).mono ?_
    · match i, hi with
      | 0, hi =>
        obtain rfl : _ = f := Option.some.inj hi
        exact ⟨b, 0, none, 0, rfl, (Array.getElem?_eq_some_iff.1 hb).1, blk_cell hb 0, blk_cell hb 1, Nat.le_refl _, C_zero _ _ _⟩
    · intro f hf
      obtain rfl := List.mem_singleton.1 hf
      exact ⟨by dsimp only; rw [hs]; show _ ≤ maxLen; unfold maxLen; omega, (fun x hx => by cases hx), Nat.zero_le _⟩
    · intro e W' h
      rcases h with ⟨_, d, rfl, h⟩ | ⟨h, _⟩
      · exact ⟨⟨_, rfl⟩, h.bl⟩
      · exact absurd (loadD_one 0 _ hbad) h
  have HLD := Lib.hid HLD
  clear hl hbad hs
  generalize nameS dir 0 = f at *
  go_enter Tryz.func44, Tryz.ntmps44
  go_wp2_with fail
  refine HF.out.mono ?_
  rintro r w1 ⟨rfl, hb1⟩
  have HB := Lib.hid hb1
  clear hb1 HF
  go_wp2_with fail
  refine (HLD.out _ w1.heap.size _ (heap_alloc_new _ _)).mono ?_
  rintro r w2 ⟨⟨p, rfl⟩, hb2⟩
  have HB2 := Lib.hid hb2
  clear hb2 HLD
  go_wp2_with fail
  all_goals
    go_ret
    exact ⟨rfl, (HB.out.alloc (HB.out.size) _).trans (HB2.out.mono (by rw [World.size_alloc]; have := HB.out.size; omega))⟩
set_option maxRecDepth 100000 in
theorem isort_nil (f : Value) (w : World) : Calls Tryz.prog 197 #[.slice none 0 0, .int .i64 0, .int .i64 0, f] w fun r w' => r = .returned (.tuple #[]) ∧ w' = w := by
  go_enter Tryz.func197, Tryz.ntmps197
  go_wp2_with fail
  refine wp_loop_rounds 1 ?_
  rw [rounds_succ]
  go_wp2_with fail
  all_goals
    first | refine bodyPost_ret (results_none rfl _ _ _) rfl ?_ | refine bodyPost_end (results_none rfl _ _ _) rfl ?_
    exact ⟨rfl, rfl⟩
set_option maxRecDepth 100000 in
theorem pdq_nil (f : Value) (w : World) : Calls Tryz.prog 149 #[.slice none 0 0, .int .i64 0, .int .i64 0, .int .i64 0, f] w fun r w' => r = .returned (.tuple #[]) ∧ w' = w := by
  go_enter Tryz.func149, Tryz.ntmps149
  go_wp2_with fail
  refine wp_loop_rounds 1 ?_
  rw [rounds_succ]
  go_wp2_with fail
  refine (isort_nil f w).mono ?_
  rintro r w1 ⟨rfl, rfl⟩
  go_wp2_with fail
  all_goals
    first | refine bodyPost_ret (results_none rfl _ _ _) rfl ?_ | refine bodyPost_end (results_none rfl _ _ _) rfl ?_
    exact ⟨rfl, rfl⟩
set_option maxRecDepth 100000 in
theorem sort_nil (f : Value) (w : World) : Calls Tryz.prog 91 #[.slice none 0 0, f] w fun r w' => r = .returned (.tuple #[]) ∧ w' = w := by
  go_enter Tryz.func91, Tryz.ntmps91
  go_wp2_with fail
  refine (Tryz.bits_Len 0 w (by decide) (by decide)).mono ?_
  rintro r w1 ⟨rfl, rfl⟩
  have e : (Lib.bitLen (0 : Int).toNat : Int) = 0 := by decide
  rw [e]
  go_wp2_with fail
  refine (pdq_nil f w1).mono ?_
  rintro r w2 ⟨rfl, rfl⟩
  go_wp2_with fail
  all_goals
    first | refine bodyPost_ret (results_none rfl _ _ _) rfl ?_ | refine bodyPost_end (results_none rfl _ _ _) rfl ?_
    exact ⟨rfl, rfl⟩
set_option maxRecDepth 100000 in
theorem list_none (w : World) (d N : Nat) (S : Nat → Prop) (k : Dk) (h : Disk w d S k N) (hk : k.files = []) (ho : k.off = false) :
    Calls Tryz.prog 88 #[.pointer (some ⟨d, 0, none⟩)] w fun r w' => (∃ A c, r = .returned (.tuple #[.slice A 0 c, .int .i64 0])) ∧ Below w.heap.size w w' := by
  have HN := Lib.hid (names_any w d N S k h)
  have HE : Hid (namesD k = []) := by show _ = _; unfold namesD; rw [hk]; rfl
  obtain ⟨m, O, pv, Z, h, hS⟩ := h
  obtain ⟨⟨c0, _, _, _, c4⟩, hdl⟩ := h.cells
  rw [ho] at c4
  clear h hS hk ho
  go_enter Tryz.func88, Tryz.ntmps88
  go_wp2_with fail
  refine HN.out.mono ?_
  rintro r w1 ⟨v, rfl, hv, hb⟩
  rw [HE.out] at hv
  obtain ⟨A, c, rfl⟩ : ∃ A c, v = .slice A 0 c := by obtain ⟨A_, q_, e_⟩ := Kd.R_slice hv; exact ⟨A_, q_, e_⟩
  have HB := Lib.hid hb
  clear hv hb
  go_wp2_with fail
  all_goals
    go_ret2
    exact ⟨⟨A, c, rfl⟩, HB.out⟩
set_option maxRecDepth 100000 in
theorem bases_none (dir : ByteArray) (w : World) (d N : Nat) (S : Nat → Prop) (k : Dk) (h : Disk w d S k N) (hk : k.files = []) (ho : k.off = false) :
    Calls Tryz.prog 45 #[.pointer (some ⟨d, 0, none⟩), .string dir] w fun r w' => r = .returned (.tuple #[.slice none 0 0, .int .i64 0]) ∧ Below w.heap.size w w' := by
  have HN := Lib.hid (list_none w d N S k h hk ho)
  clear h hk ho
  go_enter Tryz.func45, Tryz.ntmps45
  go_wp2_with fail
  refine HN.out.mono ?_
  rintro r w1 ⟨⟨A, c, rfl⟩, hb⟩
  have HB := Lib.hid hb
  clear hb
  go_wp2_with fail
  refine wp_loop_rounds 1 ?_
  rw [rounds_succ]
  go_wp2_with fail
  refine (sort_nil _ w1).mono ?_
  rintro r w2 ⟨rfl, rfl⟩
  go_wp2_with fail
  all_goals
    go_ret2
    exact ⟨rfl, HB.out⟩
end Go.Proofs.YtciikcmiiebfpaaGreatDoor
end
