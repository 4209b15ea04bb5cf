/- The law IndexPlays: the walk. -/
import Derived.Test.YtomlhedichdkkaaPlays
import Derived.Deep.CutRange
namespace Go.Proofs.Ytomlhedichdkkaa
open Go Go.RowKit
set_option linter.unusedVariables false

set_option maxRecDepth 20000 in
set_option maxHeartbeats 4000000 in
theorem plays_any (w : World) (base : Int) (xs : List Opr) (A0 : Option Addr) (c0 n : Nat) (hn : xs.length = n) (hm : n ≤ 1759218604390) (hr : ORow w A0 xs) (lo : -9223372036854775808 ≤ base) (hi : base ≤ 9223372036854775807) :
    Calls Try.prog 6 #[.int .i64 base, .slice A0 n c0] w fun r w' => r = .returned (.bool true) ∧ Below w.heap.size w w' := by
  have HN := Lib.hid hn
  have HR := Lib.hid hr
  clear hn hr
  go_enter Try.func6, Try.ntmps6
  go_wp2_with fail
  refine (fr_new base w lo hi).mono ?_
  rintro r w1 ⟨rfl, hx⟩
  have F1 := Lib.hid hx
  clear hx
  go_wp2_with fail
  refine (alive_any w1).mono ?_
  rintro r w2 ⟨rfl, h2⟩
  have F2 := Lib.hid (F1.out.below h2)
  have hw2 : w1.heap.size ≤ w2.heap.size := h2.size
  have hst0 : Stand w (w2.alloc (.cells #[.int .i64 base, .slice none 0 0] 47)) w.heap.size w2.heap.size base [] none 0 (fun k => w.heap.size ≤ k ∧ k < w1.heap.size) := by
    have hb := (Below.refl w2.heap.size w2).alloc (Nat.le_refl _) (.cells #[.int .i64 base, .slice none 0 0] 47)
    have hw1 := F1.out.bel.size
    refine ⟨⟨(F1.out.obj.below h2).below hb, fun k hk => ?_, fun h => absurd h (by simp), (fun a ha => by cases ha)⟩, rbox w2 base (.slice none 0 0), fun k hk => hk.1, fun hx => by omega, (fun a ha => by cases ha), F2.out.bel.trans (hb.mono F2.out.bel.size), by omega⟩
    have := hb.size
    omega
  have ST0 := Lib.hid hst0
  clear hst0 h2 hw2
  go_wp2_with fail
  generalize w2.alloc (.cells #[.int .i64 base, .slice none 0 0] 47) = w3 at *
  go_loopw [23] (fun i wr => ∃ (k : Nat) (L : List Ent) (A : Option Addr) (c : Nat) (P : Nat → Prop), i = .int .i64 (k : Int) ∧ k ≤ n ∧ L.length ≤ k ∧ Stand w wr w.heap.size w2.heap.size base L A c P) (fun i _ => n - (intOf i).toNat)
  case atStart => exact ⟨0, [], none, 0, _, rfl, Nat.zero_le _, Nat.le_refl _, ST0.out⟩
  case round =>
    obtain ⟨k, L, A, c, P, rfl, hkn, hlk, hst⟩ := hrel
    have ST := Lib.hid hst
    obtain ⟨m0, m1⟩ := hst.box.c
    have mf := hst.box.free
    have hbm : w2.heap.size < wr.heap.size := hst.box.lt
    clear hst
    by_cases hlt : k < n
    · obtain ⟨x, hx⟩ : ∃ x, xs[k]? = some x := ⟨_, List.getElem?_eq_getElem (by rw [HN.out]; exact hlt)⟩
      obtain ⟨b, o, rfl, hbl, hc⟩ := HR.out (by rw [HN.out]; omega)
      obtain ⟨hd, hM⟩ := hc k x hx
      have HM := Lib.hid hM
      obtain ⟨d0, d1, d2, d3, d4, d5, d6, d7, d8, d9, d10⟩ := hd.below ST.out.bel hbl
      have hask := fun (W : World) (h : Below wr.heap.size wr W) => asks_any W w.heap.size base L A c L.length P rfl (by omega) (ST.out.below h).ap x HM.out
      simp only [opVal] at hask
      have ASK := Lib.hid hask
      have hq1 : (0 : Int) ≤ (k : Int) := by omega
      have hq2 : (k : Int) < (n : Int) := by omega
      clear hask hc hx hd hM
      go_wp2_with fail
      have NB := Lib.hid ((Below.refl wr.heap.size wr).alloc (Nat.le_refl _) (.cells #[.int .i64 x.kd, .int .i64 x.e.base, .int .i64 x.e.count, .int .i64 x.e.at_, .int .i64 x.e.size, .int .i64 x.e.last, .int .i64 x.e.pid, .int .i16 x.e.pep, .int .i32 x.e.seq, .int .i64 x.N, .int .i64 x.M] 49))
      generalize wr.alloc (.cells #[.int .i64 x.kd, .int .i64 x.e.base, .int .i64 x.e.count, .int .i64 x.e.at_, .int .i64 x.e.size, .int .i64 x.e.last, .int .i64 x.e.pid, .int .i16 x.e.pep, .int .i32 x.e.seq, .int .i64 x.N, .int .i64 x.M] 49) = W1 at *
      refine (ASK.out W1 NB.out).mono ?_
      rintro r w4 ⟨L', A', c', P', rfl, hap, hp, hk, hl, hq⟩
      have ST1 := Lib.hid (ST.out.below NB.out)
      have b4 : RBox w4 w2.heap.size base (.slice A L.length c) := (hk.block _ ST1.out.box.lt ST1.out.far).trans ST1.out.box
      have ST4 := Lib.hid ((ST1.out.asked (c' := c') hap hp hk hq).below ((Below.refl _ _).alloc (Nat.le_refl _) (.cells #[.int .i64 base, .slice A' L'.length c'] 47)))
      have HL := Lib.hid hl
      have hlt4 : w2.heap.size < w4.heap.size := b4.lt
      have mf4 := b4.free
      obtain ⟨n0, n1⟩ := b4.c
      clear hap hp hk hl hq b4 m0 m1 mf hbm d0 d1 d2 d3 d4 d5 d6 d7 d8 d9 d10
      go_upto_region 10 with fail
      have hl5 : L'.length ≤ n := by have := HL.out; omega
      generalize ((w4.setCell ⟨w2.heap.size, 0, none⟩ (.int .i64 base)).setCell ⟨w2.heap.size, 1, none⟩ (.slice A' L'.length c')).alloc (.cells #[.int .i64 base, .slice A' L'.length c'] 47) = W5 at *
      clear n0 n1 mf4 hlt4
      obtain ⟨m0, m1⟩ := ST4.out.box.c
      have hbm : w2.heap.size < W5.heap.size := ST4.out.box.lt
      go_cut [64] from 35 to 64 (fun v wx => v = .bool false ∧ Below W5.heap.size W5 wx)
      case first =>
        have hd : Below W5.heap.size W5 W5.drew := (Below.refl _ _).drew
        have OB := Lib.hid (fun (W : World) (h : Below W5.heap.size W5 W) => (ST4.out.below h).ap)
        go_region_held3 (fun w' => w'.cell? ⟨w2.heap.size, 0, none⟩ = some (.int .i64 base) ∧ w'.cell? ⟨w2.heap.size, 1, none⟩ = some (.slice A' L'.length c') ∧ Below W5.heap.size W5 w') (go_keep)
          (first
            | (go_at_call 13; refine (ob_base (OB.out _ (‹_ ∧ _ ∧ Below W5.heap.size W5 _›).2.2).obj).mono ?_; rintro r wA ⟨rfl, rfl⟩)
            | (go_at_call 9; refine (ob_len (OB.out _ (‹_ ∧ _ ∧ Below W5.heap.size W5 _›).2.2).obj).mono ?_; rintro r wC ⟨rfl, rfl⟩)
            | (go_at_call 14; refine (ob_next (OB.out _ (‹_ ∧ _ ∧ Below W5.heap.size W5 _›).2.2).obj (by omega)).mono ?_; rintro r wB ⟨rfl, hB⟩; have hB1 : Below W5.heap.size W5 wB := step_bel' (‹_ ∧ _ ∧ Below W5.heap.size W5 _›).2.2 hB; have p0 := keep_cell hB1 hbm m0; have p1 := keep_cell hB1 hbm m1)
            | (go_at_call 15; refine (ob_size (OB.out _ (‹_ ∧ _ ∧ Below W5.heap.size W5 _›).2.2).obj (by omega)).mono ?_; rintro r wD ⟨rfl, hD⟩; have hD1 : Below W5.heap.size W5 wD := step_bel' (‹_ ∧ _ ∧ Below W5.heap.size W5 _›).2.2 hD; have q0 := keep_cell hD1 hbm m0; have q1 := keep_cell hD1 hbm m1)
            | (go_at_call 22; refine (rnext_any _ base L' A' c' L'.length rfl (by omega) (OB.out _ (‹_ ∧ _ ∧ Below W5.heap.size W5 _›).2.2).obj.val (OB.out _ (‹_ ∧ _ ∧ Below W5.heap.size W5 _›).2.2).row).mono ?_; rintro r wE ⟨rfl, hE⟩; have hE1 : Below W5.heap.size W5 wE := step_bel' (‹_ ∧ _ ∧ Below W5.heap.size W5 _›).2.2 hE; have r0 := keep_cell hE1 hbm m0; have r1 := keep_cell hE1 hbm m1)
            | (go_at_call 23; refine (rsize_any _ base L' A' c' L'.length rfl (by omega) (OB.out _ (‹_ ∧ _ ∧ Below W5.heap.size W5 _›).2.2).obj.val (OB.out _ (‹_ ∧ _ ∧ Below W5.heap.size W5 _›).2.2).row).mono ?_; rintro r wF ⟨rfl, hF⟩; have hF1 : Below W5.heap.size W5 wF := step_bel' (‹_ ∧ _ ∧ Below W5.heap.size W5 _›).2.2 hF; have s0 := keep_cell hF1 hbm m0; have s1 := keep_cell hF1 hbm m1))
        all_goals
          go_wp2_with fail
          go_meet
          exact ⟨rfl, by assumption⟩
      case rest =>
      obtain ⟨rfl, h8⟩ := hcut
      have ST8 := Lib.hid (ST4.out.below h8)
      clear h8
      go_wp2_with fail
      go_roundw
      case rel => exact ⟨k + 1, L', A', c', P', by go_num, by omega, by have := HL.out; omega, ST8.out⟩
      case measure => simp [intOf]; omega
    · have hkn2 : k = n := by omega
      subst hkn2
      clear mf
      go_wp2_with fail
      have hd : Below wr.heap.size wr wr.drew := (Below.refl _ _).drew
      have OB := Lib.hid (fun (W : World) (h : Below wr.heap.size wr W) => (ST.out.below h).ap)
      have BL := Lib.hid (fun (W : World) (h : Below wr.heap.size wr W) => (ST.out.below h).bel)
      go_region_held3 (fun w' => w'.cell? ⟨w2.heap.size, 0, none⟩ = some (.int .i64 base) ∧ w'.cell? ⟨w2.heap.size, 1, none⟩ = some (.slice A L.length c) ∧ Below wr.heap.size wr w') (go_keep)
        (first
          | (go_at_call 9; refine (ob_len (OB.out _ (‹_ ∧ _ ∧ Below wr.heap.size wr _›).2.2).obj).mono ?_; rintro r wC ⟨rfl, rfl⟩)
          | (go_at_call 10; refine (ob_all (OB.out _ (‹_ ∧ _ ∧ Below wr.heap.size wr _›).2.2).obj (by omega)).mono ?_; rintro r wA ⟨vA, rfl, hoA, hbA⟩; have hA : Below wr.heap.size wr wA := step_bel' (‹_ ∧ _ ∧ Below wr.heap.size wr _›).2.2 hbA; obtain ⟨AA, cA, rfl⟩ := hoA.slice; have rA := hoA.row; have p0 := keep_cell hA hbm m0; have p1 := keep_cell hA hbm m1)
          | (go_at_call 18; refine (alike_any _ L AA A cA c L.length rfl (by omega) rA (OB.out _ (‹_ ∧ _ ∧ Below wr.heap.size wr _›).2.2).row).mono ?_; rintro r wB ⟨rfl, hbB⟩; have hB : Below wr.heap.size wr wB := step_bel' (‹_ ∧ _ ∧ Below wr.heap.size wr _›).2.2 hbB; have q0 := keep_cell hB hbm m0; have q1 := keep_cell hB hbm m1))
      all_goals
        go_wp2_with fail
        go_ret
        exact ⟨rfl, BL.out _ (by assumption)⟩
end Go.Proofs.Ytomlhedichdkkaa
