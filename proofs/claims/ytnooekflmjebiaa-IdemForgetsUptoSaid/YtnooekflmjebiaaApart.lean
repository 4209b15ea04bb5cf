/- The walk of the law IdemApart: the script's loop. -/
import Derived.Test.YtnooekflmjebiaaApartP
namespace Go.Proofs.Ytnooekflmjebiaa
open Go Go.RowKit Go.Proofs.YtnooekflmjebiaaW.PrintWords Go.Proofs.Ytnooekflmjebiaa.PIdemPlays
set_option linter.unusedVariables false

def boxO (y : Opr) : Obj := .cells #[.int .i64 y.K, .int .i64 y.P, .int .i16 y.E, .int .i32 y.S, .int .i64 y.C, .int .i64 y.B] 36 (0, 0)
/-- What the walk reads of a call's box. -/
def BoxSee (g : Nat) (y : Opr) (W : World) : Prop :=
  W.cell? ⟨g, 0, none⟩ = some (.int .i64 y.K) ∧ W.cell? ⟨g, 1, none⟩ = some (.int .i64 y.P) ∧ W.cell? ⟨g, 2, none⟩ = some (.int .i16 y.E) ∧ W.cell? ⟨g, 3, none⟩ = some (.int .i32 y.S) ∧ W.cell? ⟨g, 4, none⟩ = some (.int .i64 y.C) ∧ W.cell? ⟨g, 5, none⟩ = some (.int .i64 y.B)
theorem box_see {g : Nat} {y : Opr} {W : World} (h : W.heap[g]? = some (boxO y)) : BoxSee g y W :=
  ⟨(blk_cell h 0).trans rfl, (blk_cell h 1).trans rfl, (blk_cell h 2).trans rfl, (blk_cell h 3).trans rfl, (blk_cell h 4).trans rfl, (blk_cell h 5).trans rfl⟩
theorem box_kept {g b n : Nat} {y : Opr} {W W' : World} {f : Int → Option Value} (h : W.heap[g]? = some (boxO y)) (hk : Kept (fun j => j = b) W W') (hb : Mp W b n f) : W'.heap[g]? = some (boxO y) := by
  refine (hk.block g (Array.getElem?_eq_some_iff.1 h).1 ?_).trans h
  rintro rfl
  obtain ⟨es, c, h2⟩ := hb.is_map
  unfold boxO at h
  rw [h] at h2
  cases h2

theorem app_keep {base a c t' b' n : Nat} {wq w6 : World} {o : Obj} {vm v6 va : Value} {L M : List S52} {g : Int → Option (Int × List Mk)}
    (hv : Kd.R k52 52 (wq.alloc o) base (fun _ => True) vm L) (hrr : Kd.R k52 52 (wq.alloc o) base (fun j => a ≤ j ∧ j < c) va M) (ht : Tab (wq.alloc o) t' b' n g)
    (how : ∀ q, vm.ownBlock = some q → q < a ∨ c ≤ q) (hsz : c ≤ wq.heap.size) (hg : (wq.alloc o).grownBy w6 vm.ownBlock) (hat : v6.ownBlock = vm.ownBlock ∨ ∃ k, v6.ownBlock = some k ∧ (wq.alloc o).heap.size ≤ k) :
    Tab w6 t' b' n g ∧ Kd.R k52 52 w6 base (fun j => a ≤ j ∧ j < c) va M ∧ (∀ q, v6.ownBlock = some q → q < a ∨ c ≤ q) ∧ c ≤ w6.heap.size := by
  have hs : (wq.alloc o).heap.size = wq.heap.size + 1 := World.size_alloc _ _
  refine ⟨ht.grown hg (fun k hk => by obtain ⟨cs, hc⟩ := Kd.R_typed hv k hk; exact ⟨cs, _, hc, by decide, by decide⟩), Kd.R_grown hrr hg (fun q hq he => ?_), own_hat how hat (by omega), ?_⟩
  · have h1 := hq.1
    have h2 := hq.2
    have := how q he.symm
    omega
  · have := hg.size
    omega

set_option maxRecDepth 100000 in
set_option maxHeartbeats 8000000 in
theorem apart_any (w : World) (xs : List Opr) (A : Option Addr) (c n : Nat) (hn : n = xs.length) (hm : n ≤ 1048576) (pid : Int) (hr : ORow w A xs) (hp : wf64 pid) :
    Calls Try.prog 5 #[.slice A n c, .int .i64 pid] w fun e w' => e = .returned (.bool true) ∧ Below w.heap.size w w' := by
  have HR := Lib.hid hr
  have HN := Lib.hid hn
  clear hr hn
  go_enter Try.func5, Try.ntmps5
  go_wp2_with fail
  refine (new_any _).mono ?_
  rintro e w1 ⟨t, b, rfl, hT, ht, hbl, hb1⟩
  have HT := Lib.hid (new_tab hT)
  have HB := Lib.hid hb1
  have HTL := Lib.hid (And.intro hT.lt.2 hbl)
  clear hT hb1 ht hbl
  go_wp2_with fail
  refine (new_any _).mono ?_
  rintro e w2 ⟨t', b', rfl, hT2, ht2, hbl2, hb2⟩
  have HS := Lib.hid (show Two w t b t' b' 0 g0 g0 w2 from ⟨HT.out.below hb2, new_tab hT2, HB.out.trans (hb2.mono HB.out.size), HTL.out.2, Nat.le_trans HB.out.size hbl2, by have := HTL.out.1; omega⟩)
  clear hT2 ht2 hbl2 hb2 HT HB HTL
  go_wp2_with (go_at_call 8; refine (alive_any _).mono ?_; rintro e w3 ⟨rfl, hb⟩; have HS3 := Lib.hid (HS.out.below hb); clear HS hb)
  go_loopw [33] (fun i wr => ∃ (k : Nat) (g : Int → Option (Int × List Mk)), k ≤ n ∧ i = .int .i64 k ∧ Hid (Two w t b t' b' (2 * k) g (rs g pid) wr)) (fun i _ => n - (intOf i).toNat)
  case atStart => exact ⟨0, g0, Nat.zero_le _, rfl, by show Two _ _ _ _ _ _ _ _ _; rw [show rs g0 pid = g0 by funext x; unfold rs g0; simp]; exact HS3.out⟩
  case round =>
    obtain ⟨k, g, hk, rfl, HS⟩ := hrel
    rename World => wr
    by_cases hkn : k < n
    · obtain ⟨bo, oo, hA, hbol, hcell⟩ := (HR.out.below HS.out.bl) (by have := HN.out; omega)
      subst hA
      obtain ⟨y, hy⟩ : ∃ y, xs[k]? = some y := ⟨_, List.getElem?_eq_getElem (by have := HN.out; omega)⟩
      obtain ⟨hc, hok⟩ := hcell k y hy
      have c0 := hc 0 _ rfl
      have c1 := hc 1 _ rfl
      have c2 := hc 2 _ rfl
      have c3 := hc 3 _ rfl
      have c4 := hc 4 _ rfl
      have c5 := hc 5 _ rfl
      rw [Nat.add_zero] at c0
      have HY := Lib.hid hy
      have HOK := Lib.hid hok
      clear hcell hc hy hok
      have HS1 : Hid (Two w t b t' b' (2 * k) g (rs g pid) (wr.alloc (.cells #[.int .i64 y.K, .int .i64 y.P, .int .i16 y.E, .int .i32 y.S, .int .i64 y.C, .int .i64 y.B] 36))) := HS.out.below ((Below.refl _ _).alloc (Nat.le_refl _) _)
      have HBK : Hid ((wr.alloc (.cells #[.int .i64 y.K, .int .i64 y.P, .int .i16 y.E, .int .i32 y.S, .int .i64 y.C, .int .i64 y.B] 36)).heap[wr.heap.size]? = some (boxO y)) := heap_alloc_new _ _
      clear HS
      have HS := HS1
      clear HS1
      by_cases h4 : y.K = 4
      · have e4 : ((y.K : Int) == 4) = true := by rw [beq_iff_eq]; exact h4
        clear h4
        go_wp2_with (first
          | (go_at_call 13; (with_reducible refine (forget_any t b _ _ y.B _ HS.out.T (by omega)).mono ?_); rintro e w4 ⟨rfl, hT, hk4⟩; have N1 := Lib.hid (HS.out.first (Nat.le_refl _) hT hk4); have N2 := Lib.hid (box_kept HBK.out hk4 HS.out.T.mp.choose_spec); clear HS HBK hT hk4; have HS := N1; have HBK := N2; clear N1 N2; obtain ⟨p0, p1, p2, p3, p4, p5⟩ := box_see HBK.out)
          | (go_at_call 13; (with_reducible refine (forget_any t' b' _ _ y.B _ HS.out.A (by omega)).mono ?_); rintro e w5 ⟨rfl, hT, hk4⟩; have N1 := Lib.hid (HS.out.second (Nat.le_refl _) hT hk4); clear HS hT hk4; have HS := N1; clear N1))
        go_roundw
        case rel => exact ⟨k + 1, forgetT g y.B, by omega, by go_num, by show Two _ _ _ _ _ _ _ _ _; rw [← rs_forget]; exact HS.out.mono (by omega)⟩
        case measure => simp [intOf]; omega
      · have e4 : ((y.K : Int) == 4) = false := by rw [beq_eq_false_iff_ne]; exact h4
        clear h4
        by_cases hP : y.P = pid
        · have eP : ((y.P : Int) == pid) = true := by rw [beq_iff_eq]; exact hP
          have HP := Lib.hid hP
          clear hP
          go_wp2_with (first
            | (go_at_call 10; (with_reducible refine (note_any t b _ _ y.P y.E y.S y.C y.B _ HS.out.T HOK.out.p HOK.out.e HOK.out.s HOK.out.b (by unfold maxLen; omega)).mono ?_); rintro e w4 ⟨he, hT, hk4⟩; rw [note_code] at he; subst he; have N1 := Lib.hid (HS.out.first (Nat.le_succ _) hT hk4); have N2 := Lib.hid (box_kept HBK.out hk4 HS.out.T.mp.choose_spec); clear HS HBK hT hk4; have HS := N1; have HBK := N2; clear N1 N2; obtain ⟨p0, p1, p2, p3, p4, p5⟩ := box_see HBK.out)
            | (go_at_call 10; (with_reducible refine (note_any t' b' _ _ y.P y.E y.S y.C y.B _ HS.out.A HOK.out.p HOK.out.e HOK.out.s HOK.out.b (by unfold maxLen; omega)).mono ?_); rintro e w5 ⟨he, hT, hk4⟩; rw [note_code] at he; subst he; have N1 := Lib.hid (HS.out.second (Nat.le_succ _) hT hk4); have N2 := Lib.hid (box_kept HBK.out hk4 HS.out.A.mp.choose_spec); clear HS HBK hT hk4; have HS := N1; have HBK := N2; clear N1 N2; obtain ⟨p0, p1, p2, p3, p4, p5⟩ := box_see HBK.out)
            | (go_at_call 9; (with_reducible refine (judge_any t b _ _ pid y.E y.S y.C _ HS.out.T hp).mono ?_); rintro e w6 ⟨he, hb⟩; subst he; have N1 := Lib.hid (HS.out.below hb); have N2 := Lib.hid (blk_below HBK.out hb); clear HS HBK hb; have HS := N1; have HBK := N2; clear N1 N2; obtain ⟨p0, p1, p2, p3, p4, p5⟩ := box_see HBK.out)
            | (go_at_call 9; (with_reducible refine (judge_any t' b' _ _ pid y.E y.S y.C _ HS.out.A hp).mono ?_); rintro e w7 ⟨he, hb⟩; rw [HP.out, rs_note_same, rs_judge] at he; rw [HP.out]; subst he; have N1 := Lib.hid (HS.out.below hb); have N2 := Lib.hid (blk_below HBK.out hb); clear HS HBK hb; have HS := N1; have HBK := N2; clear N1 N2; obtain ⟨p0, p1, p2, p3, p4, p5⟩ := box_see HBK.out))
          go_roundw
          case rel => exact ⟨k + 1, (noteT g y.P y.E y.S y.C y.B).1, by omega, by go_num, by
            show Two _ _ _ _ _ _ _ _ _
            have h := HS.out
            rw [HP.out, rs_note_same] at h
            rw [HP.out]
            exact h.mono (by omega)⟩
          case measure => simp [intOf]; omega
        · have eP : ((y.P : Int) == pid) = false := by rw [beq_eq_false_iff_ne]; exact hP
          have HP := Lib.hid hP
          clear hP
          go_wp2_with (first
            | (go_at_call 10; (with_reducible refine (note_any t b _ _ y.P y.E y.S y.C y.B _ HS.out.T HOK.out.p HOK.out.e HOK.out.s HOK.out.b (by unfold maxLen; omega)).mono ?_); rintro e w4 ⟨he, hT, hk4⟩; rw [note_code] at he; subst he; have N1 := Lib.hid (HS.out.first (Nat.le_succ _) hT hk4); have N2 := Lib.hid (box_kept HBK.out hk4 HS.out.T.mp.choose_spec); clear HS HBK hT hk4; have HS := N1; have HBK := N2; clear N1 N2; obtain ⟨p0, p1, p2, p3, p4, p5⟩ := box_see HBK.out)
            | (go_at_call 9; (with_reducible refine (judge_any t b _ _ pid y.E y.S y.C _ HS.out.T hp).mono ?_); rintro e w6 ⟨he, hb⟩; subst he; have N1 := Lib.hid (HS.out.below hb); have N2 := Lib.hid (blk_below HBK.out hb); clear HS HBK hb; have HS := N1; have HBK := N2; clear N1 N2; obtain ⟨p0, p1, p2, p3, p4, p5⟩ := box_see HBK.out)
            | (go_at_call 9; (with_reducible refine (judge_any t' b' _ _ pid y.E y.S y.C _ HS.out.A hp).mono ?_); rintro e w7 ⟨he, hb⟩; rw [← rs_note_other g y.P pid y.E y.S y.C y.B HP.out, rs_judge] at he; subst he; have N1 := Lib.hid (HS.out.below hb); have N2 := Lib.hid (blk_below HBK.out hb); clear HS HBK hb; have HS := N1; have HBK := N2; clear N1 N2; obtain ⟨p0, p1, p2, p3, p4, p5⟩ := box_see HBK.out))
          go_roundw
          case rel => exact ⟨k + 1, (noteT g y.P y.E y.S y.C y.B).1, by omega, by go_num, by
            show Two _ _ _ _ _ _ _ _ _
            rw [rs_note_other g y.P pid y.E y.S y.C y.B HP.out]
            exact HS.out.mono (by omega)⟩
          case measure => simp [intOf]; omega
    · obtain rfl : k = n := by omega
      have hlw := HS.out.bl.size
      have HB1 : Hid (Below wr.heap.size wr (wr.alloc (.cells #[] 52))) := (Below.refl _ _).alloc (Nat.le_refl _) _
      have HS1 := Lib.hid (HS.out.below HB1.out)
      have hz1 : (wr.alloc (.cells #[] 52)).heap.size = wr.heap.size + 1 := World.size_alloc _ _
      have HZ1 := Lib.hid hz1
      have HO1 : Hid (Kd.R k52 52 (wr.alloc (.cells #[] 52)) wr.heap.size (fun _ => True) (.slice (some ⟨wr.heap.size, 0, none⟩) 0 0) ([] : List S52)) :=
        ⟨fun _ _ => trivial, [], ⟨rfl, .inr ⟨wr.heap.size, 0, #[], rfl, Nat.le_refl _, heap_alloc_new _ _, Nat.le_refl _, by decide, by decide, rfl⟩⟩, ⟨rfl, fun j p hj => by simp at hj⟩⟩
      clear hz1
      go_wp2_with (go_at_call 16; (with_reducible refine (all_any t b _ _ _ HS1.out.T (by omega)).mono ?_); rintro e w4 ⟨v, ks, rfl, hasc, hmem, hlen, hSS, hb⟩; obtain ⟨Aa, ca, rfl⟩ : ∃ A c, v = .slice A ks.length c := (by obtain ⟨A_, c_, e_⟩ := Kd.R_slice (Kd.S_R hSS); rw [List.length_map] at e_; exact ⟨A_, c_, e_⟩); have HASC := Lib.hid hasc; have HMEM := Lib.hid hmem; have HLN := Lib.hid hlen; have HRA := Lib.hid (Kd.R_bound (Kd.S_R hSS)); have HB4 := Lib.hid hb; clear hasc hmem hlen hSS hb)
      obtain ⟨m, hme⟩ : ∃ m, m = ks.length := ⟨_, rfl⟩
      have HME := Lib.hid hme
      have hmb : m ≤ 2097152 := by have := HLN.out; omega
      rw [← hme] at HRA ⊢
      clear hme
      have hB4 : Below wr.heap.size wr w4 := HB1.out.trans (HB4.out.mono (by rw [HZ1.out]; omega))
      have hz4 : wr.heap.size + 1 ≤ w4.heap.size := by have := HB4.out.size; rw [HZ1.out] at this; exact this
      have HBW4 := Lib.hid hB4
      have HA4 := Lib.hid (HS1.out.A.below HB4.out)
      have HO4 := Lib.hid (Kd.R_below HO1.out HB4.out)
      have hRA : Kd.R k52 52 w4 wr.heap.size (fun j => wr.heap.size + 1 ≤ j ∧ j < w4.heap.size) (.slice Aa m ca) (ks.map (kn g)) := Kd.R_lower (Kd.R_mono HRA.out (fun j hj => ⟨by have := hj.2.1; rw [HZ1.out] at this; exact this, hj.2.2.1⟩)) (by rw [HZ1.out]; omega)
      have HRB := Lib.hid hRA
      have HWB := Lib.hid HS.out.bl
      clear HRA hRA hB4 HS1 HO1 HB1
      go_loopw [16, 124] (fun vm i wq => ∃ j : Nat, j ≤ m ∧ i = .int .i64 j ∧ Hid (Kd.R k52 52 wq wr.heap.size (fun _ => True) vm (((ks.map (kn g)).take j).filter fun x => x.f0 == pid)) ∧ Hid (∀ q, vm.ownBlock = some q → q < wr.heap.size + 1 ∨ w4.heap.size ≤ q) ∧
        Hid (Kd.R k52 52 wq wr.heap.size (fun j => wr.heap.size + 1 ≤ j ∧ j < w4.heap.size) (.slice Aa m ca) (ks.map (kn g))) ∧ Hid (Tab wq t' b' (2 * k) (rs g pid)) ∧ Hid (Below wr.heap.size wr wq) ∧ Hid (w4.heap.size ≤ wq.heap.size)) (fun _ i _ => m - (intOf i).toNat)
      case atStart => exact ⟨0, Nat.zero_le _, rfl, HO4.out, by show ∀ _, _; intro q hq; simp [Value.ownBlock] at hq; omega, HRB.out, HA4.out, HBW4.out, Nat.le_refl _⟩
      case round =>
        rename World => wq
        obtain ⟨j, hj, rfl, HVM, HOW, HRR, HAA, HBB, HSZ⟩ := hrel
        by_cases hjm : j < m
        · obtain ⟨gA, A2, n2, q2, A3, n3, q3, A4, n4, q4, hAa, hgl, ⟨d0, d1, d2, d3, d4⟩, hMM⟩ := R_known HRR.out (by rw [List.length_map]; exact HME.out) hjm
          subst hAa
          have htk : (ks.map (kn g)).take (j + 1) = (ks.map (kn g)).take j ++ [(ks.map (kn g)).getD j z52] := by
            rw [List.take_add_one, List.getD_eq_getElem?_getD, List.getElem?_eq_getElem (by rw [List.length_map, ← HME.out]; exact hjm)]
            rfl
          have HTK := Lib.hid htk
          clear htk
          generalize (ks.map (kn g)).getD j z52 = x at d0 d1 hMM HTK
          obtain ⟨x0, x1, l2, l3, l4⟩ := x
          simp only at d0 d1 hMM
          have HMM := Lib.hid hMM
          clear hMM
          by_cases hxp : x0 = pid
          · have ex : ((x0 : Int) == pid) = true := by rw [beq_iff_eq]; exact hxp
            clear hxp
            have hW5 : k52.M (wq.alloc (.cells #[.int .i64 x0, .int .i16 x1, .slice A2 n2 q2, .slice A3 n3 q3, .slice A4 n4 q4] 52)) wr.heap.size (fun j => wr.heap.size + 1 ≤ j ∧ j < w4.heap.size) ⟨x0, x1, l2, l3, l4⟩ [.int .i64 x0, .int .i16 x1, .slice A2 n2 q2, .slice A3 n3 q3, .slice A4 n4 q4] := Kd.M_below HMM.out ((Below.refl _ _).alloc (Nat.le_refl _) _)
            have HM5 := Lib.hid hW5
            have HVM5 := Lib.hid (Kd.R_alloc HVM.out (.cells #[.int .i64 x0, .int .i16 x1, .slice A2 n2 q2, .slice A3 n3 q3, .slice A4 n4 q4] 52))
            have HRR5 := Lib.hid (Kd.R_alloc HRR.out (.cells #[.int .i64 x0, .int .i16 x1, .slice A2 n2 q2, .slice A3 n3 q3, .slice A4 n4 q4] 52))
            have HAA5 := Lib.hid (HAA.out.below ((Below.refl wq.heap.size wq).alloc (Nat.le_refl _) (.cells #[.int .i64 x0, .int .i16 x1, .slice A2 n2 q2, .slice A3 n3 q3, .slice A4 n4 q4] 52)))
            have HBB5 : Hid (Below wr.heap.size wr (wq.alloc (.cells #[.int .i64 x0, .int .i16 x1, .slice A2 n2 q2, .slice A3 n3 q3, .slice A4 n4 q4] 52))) := HBB.out.alloc HBB.out.size _
            have hLn : (((ks.map (kn g)).take j).filter fun x => x.f0 == pid).length + 1 ≤ 2097153 := by
              have h1 := List.length_filter_le (fun x : S52 => x.f0 == pid) ((ks.map (kn g)).take j)
              have h2 := List.length_take_le j (ks.map (kn g))
              omega
            have HLn := Lib.hid hLn
            clear hW5 hLn
            go_wp2_with (at_builtin; refine Kd.R_append k52 (w0 := wr) wr.heap.size rfl _ _ 46 52 (.agg #[.int .i64 0, .int .i16 0, .slice none 0 0, .slice none 0 0, .slice none 0 0]) 88 rfl Try.underlying46 info52 rfl (by decide) (by decide) u16 _ ⟨x0, x1, l2, l3, l4⟩ [.int .i64 x0, .int .i16 x1, .slice A2 n2 q2, .slice A3 n3 q3, .slice A4 n4 q4] (fun _ => True) (fun j => wr.heap.size + 1 ≤ j ∧ j < w4.heap.size) rfl (by rw [World.size_alloc]; rfl) HM5.out (fun q hq => ⟨trivial, fun he => by have := HOW.out q he.symm; omega⟩) (fun _ _ => trivial) HVM5.out HBB5.out HBB5.out.size (by have := HLn.out; omega) ?_; intro v6 w6 hr hb hg hat; have N0 := app_keep HVM5.out HRR5.out HAA5.out HOW.out HSZ.out hg hat; have N1 := Lib.hid hr; have N2 := Lib.hid N0.1; have N3 := Lib.hid N0.2.1; have N4 := Lib.hid hb; have N5 := Lib.hid N0.2.2.1; have N6 := Lib.hid N0.2.2.2; clear N0 hr hb hg hat)
            go_roundw
            case rel => exact ⟨j + 1, by omega, by go_num, by rw [HTK.out, List.filter_append]; simp only [List.filter_cons, ex]; simp only [if_true, List.filter_nil]; exact N1.out, N5.out, N3.out, N2.out, N4.out, N6.out⟩
            case measure => simp [intOf]; omega
          · have ex : ((x0 : Int) == pid) = false := by rw [beq_eq_false_iff_ne]; exact hxp
            clear hxp
            go_wp2_with fail
            go_roundw
            case rel => exact ⟨j + 1, by omega, by go_num, by rw [HTK.out, List.filter_append]; simp only [List.filter_cons, ex]; simp only [Bool.false_eq_true, if_false, List.filter_nil, List.append_nil]; exact Kd.R_alloc HVM.out _, HOW.out, Kd.R_alloc HRR.out _, HAA.out.below ((Below.refl _ _).alloc (Nat.le_refl _) _), HBB.out.alloc HBB.out.size _, by show _ ≤ _; rw [World.size_alloc]; exact Nat.le_succ_of_le HSZ.out⟩
            case measure => simp [intOf]; omega
        · obtain rfl : j = m := by omega
          have hfull : (ks.map (kn g)).take j = ks.map (kn g) := List.take_of_length_le (by rw [List.length_map, ← HME.out]; exact Nat.le_refl _)
          rw [hfull] at HVM
          clear hfull
          obtain ⟨Am, cm, rfl, _, _⟩ := Kd.R_reads HVM.out
          obtain ⟨L1, hL1⟩ : ∃ L1, L1 = (ks.map (kn g)).filter fun x => x.f0 == pid := ⟨_, rfl⟩
          have HL1 := Lib.hid hL1
          rw [← hL1] at HVM ⊢
          clear hL1
          go_wp2_with (first
            | (go_at_call 16; (with_reducible refine (all_any t' b' _ _ _ HAA.out (by omega)).mono ?_); rintro e w8 ⟨v8, ks2, rfl, hasc, hmem, hlen, hSS, hb⟩; have HEQ := Lib.hid (HL1.out.trans (apart_lists HASC.out HMEM.out hasc hmem)); obtain ⟨A8, c8, rfl, hC8⟩ : ∃ A c, v8 = .slice A L1.length c ∧ Kd.C k52 w8 A L1.length L1 := (by obtain ⟨A_, c_, e_, _, h_⟩ := Kd.R_reads (Kd.S_R hSS); rw [← HEQ.out] at e_ h_; exact ⟨A_, c_, e_, h_⟩); have HC8 := Lib.hid hC8; have HEV := Lib.hid (kn_even HAA.out.ok hmem); have HCM := Lib.hid (Kd.C_below (Kd.R_reads' HVM.out).2.2 hb); have HB8 := Lib.hid (HWB.out.trans ((HBB.out.trans (hb.mono HBB.out.size)).mono HWB.out.size)); have HLL := Lib.hid hlen; clear hasc hmem hlen hSS hb hC8)
            | (go_at_call 15; refine (alike_same _ _ _ _ L1 _ HCM.out HC8.out (by rw [HEQ.out]; exact HEV.out) (by rw [HEQ.out, List.length_map]; have := HLL.out; omega)).mono ?_; rintro e w9 ⟨rfl, hb⟩; have HB9 := Lib.hid (HB8.out.trans (hb.mono HB8.out.size)); clear hb))
          go_ret
          exact ⟨rfl, HB9.out⟩
end Go.Proofs.Ytnooekflmjebiaa
