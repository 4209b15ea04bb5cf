/- PRINTED by gen_forg.py: the walk of the law IdemForgets. -/
import Derived.Test.YtnooekflmjebiaaForgT
import Derived.Deep.CutRange
namespace Go.Proofs.Ytnooekflmjebiaa
open Go Go.RowKit Go.Proofs.YtnooekflmjebiaaW.PrintWords Go.Proofs.Ytnooekflmjebiaa.PIdemPlays
set_option linter.unusedVariables false

set_option maxRecDepth 100000 in
set_option maxHeartbeats 32000000 in
theorem forgets_any (w : World) (xs : List Opr) (A : Option Addr) (c nn : Nat) (hn : nn = xs.length) (hm : nn ≤ 1048576) (base : Int) (hr : ORow w A xs) :
    Calls Try.prog 6 #[.slice A nn c, .int .i64 base] w fun e w' => e = .returned (.bool true) ∧ Below w.heap.size w w' := by
  have HR := Lib.hid hr
  have HN := Lib.hid hn
  clear hr hn
  go_enter Try.func6, Try.ntmps6
  go_wp2_with (first
    | (go_at_call 7; refine (new_any _).mono ?_; rintro e w1 ⟨t, b, rfl, hT, ht, hbl, hb1⟩; have HT := Lib.hid (new_tab hT); have HB := Lib.hid hb1; have HBL := Lib.hid hbl; clear hT hb1 ht hbl)
    | (go_at_call 8; refine (alive_any _).mono ?_; rintro e w3 ⟨rfl, hb⟩; have HT3 := Lib.hid (HT.out.below hb); have HB3 := Lib.hid (HB.out.trans (hb.mono HB.out.size)); clear HT HB hb))
  go_loopw [6, 31] (fun v i wr => ∃ (k cc : Nat) (g : Int → Option (Int × List Mk)), k ≤ nn ∧ i = .int .i64 k ∧ v = .int .i64 cc ∧ cc ≤ k ∧ Hid (cc = 0 ↔ noneG g) ∧ Hid (Tab wr t b k g) ∧ Hid (Below w.heap.size w wr)) (fun _ i _ => nn - (intOf i).toNat)
  case atStart => exact ⟨0, 0, g0, Nat.zero_le _, rfl, rfl, Nat.le_refl _, ⟨fun _ x => rfl, fun _ => rfl⟩, HT3.out, HB3.out⟩
  case round =>
    rename_i A0 c0 _
    obtain ⟨k, cc, g, hk, rfl, rfl, hck, HCN, HT, HB⟩ := hrel
    rename World => wr
    by_cases hkn : k < nn
    · obtain ⟨bo, oo, hA, hbol, hcell⟩ := (HR.out.below HB.out) (by have := HN.out; omega)
      subst hA
      obtain ⟨y, hy⟩ : ∃ y, xs[k]? = some y := ⟨_, List.getElem?_eq_getElem (by have := HN.out; omega)⟩
      obtain ⟨hc, hok⟩ := hcell k y hy
      have q0 := hc 0 _ rfl
      have q1 := hc 1 _ rfl
      have q2 := hc 2 _ rfl
      have q3 := hc 3 _ rfl
      have q4 := hc 4 _ rfl
      have q5 := hc 5 _ rfl
      rw [Nat.add_zero] at q0
      have HOK := Lib.hid hok
      clear hcell hc hok hy
      have HT1 : Hid (Tab (wr.alloc (.cells #[.int .i64 y.K, .int .i64 y.P, .int .i16 y.E, .int .i32 y.S, .int .i64 y.C, .int .i64 y.B] 36)) t b k g) := HT.out.below ((Below.refl _ _).alloc (Nat.le_refl _) _)
      have HB1 : Hid (Below w.heap.size w (wr.alloc (.cells #[.int .i64 y.K, .int .i64 y.P, .int .i16 y.E, .int .i32 y.S, .int .i64 y.C, .int .i64 y.B] 36))) := HB.out.alloc HB.out.size _
      have HBK : Hid ((wr.alloc (.cells #[.int .i64 y.K, .int .i64 y.P, .int .i16 y.E, .int .i32 y.S, .int .i64 y.C, .int .i64 y.B] 36)).heap[wr.heap.size]? = some (boxO y)) := heap_alloc_new _ _
      clear HT HB
      obtain ⟨q, hq⟩ : ∃ q, noteC y.P y.E y.S y.C y.B = q := ⟨_, rfl⟩
      have HQ := Lib.hid hq
      clear hq
      by_cases hq0 : q = 0
      · have eq0 : ((q : Int) == 0) = true := by rw [beq_iff_eq]; exact hq0
        have HQ0 := Lib.hid hq0
        clear hq0
        by_cases hp : 0 ≤ y.P
        · have ep : decide (0 ≤ y.P) = true := decide_eq_true hp
          have HP := Lib.hid hp
          clear hp
          go_wp2_with (go_at_call 10; refine (note_any t b _ _ y.P y.E y.S y.C y.B _ HT1.out HOK.out.p HOK.out.e HOK.out.s HOK.out.b (by unfold maxLen; omega)).mono ?_; rintro e w4 ⟨he, hT, hk⟩; rw [note_code, HQ.out] at he; subst he; have HT2 := Lib.hid hT; have HBK2 := Lib.hid (box_kept HBK.out hk (Tab.mp HT1.out).choose_spec); have HB2 := Lib.hid (HB1.out.trans (hk.below HB1.out.size (fun j hj => by rw [hj]; exact HBL.out))); clear hT hk; obtain ⟨p0, p1, p2, p3, p4, p5⟩ := box_see HBK2.out)
          go_roundw
          case rel => exact ⟨k + 1, cc + 1, _, by omega, by go_num, by go_num, by omega, ⟨fun h => absurd h (Nat.succ_ne_zero _), fun h => absurd h (note_yes g y.P y.E y.S y.C y.B (HQ.out.trans HQ0.out) HP.out)⟩, HT2.out, HB2.out⟩
          case measure => simp [intOf]; omega
        · have ep : decide (0 ≤ y.P) = false := decide_eq_false hp
          have HP : Hid (y.P < 0) := by show y.P < 0; omega
          clear hp
          go_wp2_with (go_at_call 10; refine (note_any t b _ _ y.P y.E y.S y.C y.B _ HT1.out HOK.out.p HOK.out.e HOK.out.s HOK.out.b (by unfold maxLen; omega)).mono ?_; rintro e w4 ⟨he, hT, hk⟩; rw [note_code, HQ.out] at he; subst he; have HT2 := Lib.hid hT; have HBK2 := Lib.hid (box_kept HBK.out hk (Tab.mp HT1.out).choose_spec); have HB2 := Lib.hid (HB1.out.trans (hk.below HB1.out.size (fun j hj => by rw [hj]; exact HBL.out))); clear hT hk; obtain ⟨p0, p1, p2, p3, p4, p5⟩ := box_see HBK2.out)
          go_roundw
          case rel => exact ⟨k + 1, cc, _, by omega, by go_num, by go_num, by omega, (by rw [note_no g y.P y.E y.S y.C y.B (.inr HP.out)]; exact HCN.out), HT2.out, HB2.out⟩
          case measure => simp [intOf]; omega
      · have eq0 : ((q : Int) == 0) = false := by rw [beq_eq_false_iff_ne]; exact hq0
        have HQ0 := Lib.hid hq0
        clear hq0
        go_wp2_with (go_at_call 10; refine (note_any t b _ _ y.P y.E y.S y.C y.B _ HT1.out HOK.out.p HOK.out.e HOK.out.s HOK.out.b (by unfold maxLen; omega)).mono ?_; rintro e w4 ⟨he, hT, hk⟩; rw [note_code, HQ.out] at he; subst he; have HT2 := Lib.hid hT; have HBK2 := Lib.hid (box_kept HBK.out hk (Tab.mp HT1.out).choose_spec); have HB2 := Lib.hid (HB1.out.trans (hk.below HB1.out.size (fun j hj => by rw [hj]; exact HBL.out))); clear hT hk; obtain ⟨p0, p1, p2, p3, p4, p5⟩ := box_see HBK2.out)
        go_roundw
        case rel => exact ⟨k + 1, cc, _, by omega, by go_num, by go_num, by omega, (by rw [note_no g y.P y.E y.S y.C y.B (.inl (by rw [HQ.out]; exact HQ0.out))]; exact HCN.out), HT2.out, HB2.out⟩
        case measure => simp [intOf]; omega
    · obtain rfl : k = nn := by omega
      go_wp2_with (go_at_call 16; refine (all_any t b _ _ _ HT.out (by omega)).mono ?_; rintro e w4 ⟨v4, ks, rfl, hasc, hmem, hlen, hSS, hb⟩; obtain ⟨m, hm4, Aa, ca, rfl⟩ : ∃ m, m = ks.length ∧ ∃ A c, v4 = .slice A m c := (by obtain ⟨A_, c_, e_⟩ := Kd.R_slice (Kd.S_R hSS); rw [List.length_map] at e_; exact ⟨_, rfl, A_, c_, e_⟩); have HASC := Lib.hid hasc; have HMEM := Lib.hid hmem; have HME := Lib.hid hm4; have HLN := Lib.hid hlen; have HC4 := Lib.hid (Kd.R_reads' (Kd.S_R hSS)).2.2; have HB4 := Lib.hid (HB.out.trans (hb.mono HB.out.size)); have HT4 := Lib.hid (HT.out.below hb); have hcm : ((cc : Int) == 0) = ((m : Int) == 0) := (by have e1 := none_keys hmem; have e2 := HCN.out; rw [← hm4] at e1; rw [Bool.eq_iff_iff, beq_iff_eq, beq_iff_eq]; have e3 : cc = 0 ↔ m = 0 := e2.trans e1.symm; omega); clear hasc hmem hlen hSS hb hm4)
      clear hcm
      have HZ : Hid (Kd.R k52 52 (w4.alloc (.cells #[] 52)) w4.heap.size (fun _ => True) (.slice (some ⟨w4.heap.size, 0, none⟩) 0 0) ([] : List S52)) :=
        ⟨fun _ _ => trivial, [], ⟨rfl, .inr ⟨w4.heap.size, 0, #[], rfl, Nat.le_refl _, heap_alloc_new _ _, Nat.le_refl _, by decide, by decide, rfl⟩⟩, ⟨rfl, fun j p hj => by simp at hj⟩⟩
      have hmb : m ≤ 1048576 := by have := HLN.out; have := HME.out; omega
      go_loopw [10, 67] (fun vm i wq => ∃ j : Nat, j ≤ m ∧ i = .int .i64 j ∧ Hid (Kd.R k52 52 wq w4.heap.size (fun _ => True) vm (wantL g base (ks.take j))) ∧ Hid (Below w4.heap.size w4 wq)) (fun _ i _ => m - (intOf i).toNat)
      case atStart => exact ⟨0, Nat.zero_le _, rfl, HZ.out, (Below.refl _ _).alloc (Nat.le_refl _) _⟩
      case round =>
        obtain ⟨j, hj, rfl, HW, HBq⟩ := hrel
        rename World => wo
        by_cases hjm : j < m
        · obtain ⟨x, hx⟩ : ∃ x, ks[j]? = some x := ⟨_, List.getElem?_eq_getElem (by have := HME.out; omega)⟩
          obtain ⟨⟨e, ms⟩, hgx⟩ := Option.isSome_iff_exists.1 ((HMEM.out x).1 (List.mem_of_getElem? hx))
          obtain ⟨_, _, _, _, hok1, hok2, _⟩ := HT4.out.ok x _ hgx
          simp only at hok1 hok2
          obtain ⟨bA, oA, rfl, hbA, b2, o2, q2, b3, o3, q3, b4, o4, q4, ⟨d0, d1, d2, d3, d4⟩, ⟨hb2, hb3, hb4⟩, hat⟩ := C_known (Kd.C_below HC4.out HBq.out) rfl hx hgx hok1
          have HX := Lib.hid hx
          have HGX := Lib.hid hgx
          have HAT := Lib.hid hat
          clear hx hgx hat
          obtain ⟨L, hL⟩ : ∃ L, L = ms.length := ⟨_, rfl⟩
          rw [← hL] at d2 d3 d4 hok1 hok2
          have HL := Lib.hid hL
          clear hL
          go_wp2_with fail
          have HK0 : Hid (Lf wo wo.heap.size (wo.heap.size + 1) x e #[.int .i64 x, .int .i16 e, .slice (some ⟨b2, o2, none⟩) L q2, .slice (some ⟨b3, o3, none⟩) L q3, .slice (some ⟨b4, o4, none⟩) L q4] (.slice none 0 0) (.slice none 0 0) (.slice none 0 0) [] [] [] ((wo.alloc (.cells #[.int .i64 x, .int .i16 e, .slice (some ⟨b2, o2, none⟩) L q2, .slice (some ⟨b3, o3, none⟩) L q3, .slice (some ⟨b4, o4, none⟩) L q4] 52)).alloc (.cells #[.int .i64 x, .int .i16 e, .slice none 0 0, .slice none 0 0, .slice none 0 0] 52))) := by
            refine ⟨Kd.R_nil _ _ _ _ _, Kd.R_nil _ _ _ _ _, Kd.R_nil _ _ _ _ _, ?_, blk_alloc (heap_alloc_new _ _) _, ((Below.refl _ _).alloc (Nat.le_refl _) _).alloc (by simp) _, Nat.le_succ _, by omega⟩
            have := heap_alloc_new (wo.alloc (.cells #[.int .i64 x, .int .i16 e, .slice (some ⟨b2, o2, none⟩) L q2, .slice (some ⟨b3, o3, none⟩) L q3, .slice (some ⟨b4, o4, none⟩) L q4] 52)) (.cells #[.int .i64 x, .int .i16 e, .slice none 0 0, .slice none 0 0, .slice none 0 0] 52)
            rw [World.size_alloc] at this
            exact this
          generalize (wo.alloc (.cells #[.int .i64 x, .int .i16 e, .slice (some ⟨b2, o2, none⟩) L q2, .slice (some ⟨b3, o3, none⟩) L q3, .slice (some ⟨b4, o4, none⟩) L q4] 52)).alloc (.cells #[.int .i64 x, .int .i16 e, .slice none 0 0, .slice none 0 0, .slice none 0 0] 52) = W7 at HK0 ⊢
          have HLT : Hid (b2 < wo.heap.size ∧ b3 < wo.heap.size ∧ b4 < wo.heap.size) := ⟨hb2, hb3, hb4⟩
          go_loopw [107] (fun ii wq => ∃ (i : Nat) (u2 u3 u4 : Value), i ≤ L ∧ ii = .int .i64 i ∧ Hid (Lf wo wo.heap.size (wo.heap.size + 1) x e #[.int .i64 x, .int .i16 e, .slice (some ⟨b2, o2, none⟩) L q2, .slice (some ⟨b3, o3, none⟩) L q3, .slice (some ⟨b4, o4, none⟩) L q4] u2 u3 u4 ((fm base (ms.take i)).map Mk.seq) ((fm base (ms.take i)).map Mk.count) ((fm base (ms.take i)).map Mk.base) wq)) (fun ii _ => L - (intOf ii).toNat)
          case atStart => exact ⟨0, _, _, _, Nat.zero_le _, rfl, HK0.out⟩
          case round =>
            obtain ⟨i, u2, u3, u4, hi, rfl, HLf⟩ := hrel
            have hz13 : wo.heap.size + 1 < wr.heap.size := blk_lt HLf.out.k13
            have hz12 : wo.heap.size < wr.heap.size := by omega
            obtain ⟨⟨a2, a3, a4⟩, ⟨z2, z3, z4⟩, ⟨f2, f3, f4⟩, _, _⟩ := lf_see (k := .int .i64 x) HLf.out.k13 HLf.out.k12
            by_cases hiL : i < L
            · obtain ⟨mk, hmk⟩ : ∃ mk, ms[i]? = some mk := ⟨_, List.getElem?_eq_getElem (by have := HL.out; omega)⟩
              obtain ⟨e2, e3, e4⟩ := HAT.out i mk hmk
              have M2 := Lib.hid e2
              have M3 := Lib.hid e3
              have M4 := Lib.hid e4
              have k2 := (HLf.out.bl.cell (p := ⟨b2, o2 + i, none⟩) HLT.out.1).trans e2
              have k3 := (HLf.out.bl.cell (p := ⟨b3, o3 + i, none⟩) HLT.out.2.1).trans e3
              have k4 := (HLf.out.bl.cell (p := ⟨b4, o4 + i, none⟩) HLT.out.2.2).trans e4
              have HFT := Lib.hid (fm_take base hmk)
              clear e2 e3 e4 hmk
              by_cases hbs : base ≤ mk.base
              · have eb : decide (base ≤ mk.base) = true := decide_eq_true hbs
                have HBS := Lib.hid hbs
                clear hbs
                have HC := HLf
                clear HLf
                have hfl : (fm base (ms.take i)).length ≤ 5 := by unfold fm; exact Nat.le_trans (List.length_filter_le _ _) (Nat.le_trans (List.length_take_le _ _) (by omega))
                have HL2 : Hid (((fm base (ms.take i)).map Mk.seq).length ≤ 5) := by show _ ≤ 5; rw [List.length_map]; exact hfl
                have HL3 : Hid (((fm base (ms.take i)).map Mk.count).length ≤ 5) := by show _ ≤ 5; rw [List.length_map]; exact hfl
                have HL4 : Hid (((fm base (ms.take i)).map Mk.base).length ≤ 5) := by show _ ≤ 5; rw [List.length_map]; exact hfl
                clear hfl
                go_upto_region 25 with fail
                go_cut [] from 117 to 126 (fun wx => ∃ (n2 : Nat) (B2 : Option Addr) (c2 : Nat), Lf wo wo.heap.size (wo.heap.size + 1) x e #[.int .i64 x, .int .i16 e, .slice (some ⟨b2, o2, none⟩) L q2, .slice (some ⟨b3, o3, none⟩) L q3, .slice (some ⟨b4, o4, none⟩) L q4] (.slice B2 n2 c2) u3 u4 (((fm base (ms.take i)).map Mk.seq) ++ [mk.seq]) ((fm base (ms.take i)).map Mk.count) ((fm base (ms.take i)).map Mk.base) wx)
                case first =>
                  go_wp2_with fail
                  go_region_law (refine step_int (w0 := wo) wo.heap.size rfl (.tmp 118) (.tmp 124) 27 21 (.int .i32 0) 4 rfl Try.underlying27 info21 rfl (by decide) wr u2 ((fm base (ms.take i)).map Mk.seq) mk.seq rfl rfl HC.out.r2 HC.out.bl HC.out.bl.size (by have := HL2.out; omega) ?_; intro v2 w5 hr hb hg; obtain ⟨n2, B2, c2, rfl⟩ : ∃ n A q, v2 = .slice A n q := (by obtain ⟨A_, q_, e_⟩ := Kd.R_slice hr; exact ⟨_, A_, q_, e_⟩); obtain ⟨⟨⟨a22, a23, a24⟩, ⟨z22, z23, z24⟩, ⟨f22, f23, f24⟩, h23, h22⟩, hc⟩ := Lf.app2 HC.out.drew hr hb hg; have HN_ := Lib.hid hc; clear hr hb hg hc)
                  all_goals (go_wp2_with fail; go_meet; exact ⟨_, _, _, HN_.out⟩)
                case rest =>
                  rename World => w5
                  obtain ⟨n2, B2, c2, hcut⟩ := hcut
                  have HC' := Lib.hid hcut
                  clear HC hcut
                  have HC := HC'
                  clear HC'
                  have hy13 : wo.heap.size + 1 < w5.heap.size := blk_lt HC.out.k13
                  obtain ⟨⟨a22, a23, a24⟩, ⟨z22, z23, z24⟩, ⟨f22, f23, f24⟩, _, _⟩ := lf_see (k := .int .i64 x) HC.out.k13 HC.out.k12
                  have k22 := (HC.out.bl.cell (p := ⟨b2, o2 + i, none⟩) HLT.out.1).trans M2.out
                  have k23 := (HC.out.bl.cell (p := ⟨b3, o3 + i, none⟩) HLT.out.2.1).trans M3.out
                  have k24 := (HC.out.bl.cell (p := ⟨b4, o4 + i, none⟩) HLT.out.2.2).trans M4.out
                  go_upto_region 26 with fail
                  go_cut [] from 127 to 136 (fun wx => ∃ (n3 : Nat) (B3 : Option Addr) (c3 : Nat), Lf wo wo.heap.size (wo.heap.size + 1) x e #[.int .i64 x, .int .i16 e, .slice (some ⟨b2, o2, none⟩) L q2, .slice (some ⟨b3, o3, none⟩) L q3, .slice (some ⟨b4, o4, none⟩) L q4] (.slice B2 n2 c2) (.slice B3 n3 c3) u4 (((fm base (ms.take i)).map Mk.seq) ++ [mk.seq]) (((fm base (ms.take i)).map Mk.count) ++ [mk.count]) ((fm base (ms.take i)).map Mk.base) wx)
                  case first =>
                    go_wp2_with fail
                    go_region_law (refine step_int (w0 := wo) wo.heap.size rfl (.tmp 128) (.tmp 134) 23 3 (.int .i64 0) 8 rfl Try.underlying23 info3 rfl (by decide) w5 u3 ((fm base (ms.take i)).map Mk.count) mk.count rfl rfl HC.out.r3 HC.out.bl HC.out.bl.size (by have := HL3.out; omega) ?_; intro v3 w6 hr hb hg; obtain ⟨n3, B3, c3, rfl⟩ : ∃ n A q, v3 = .slice A n q := (by obtain ⟨A_, q_, e_⟩ := Kd.R_slice hr; exact ⟨_, A_, q_, e_⟩); obtain ⟨⟨⟨a32, a33, a34⟩, ⟨z32, z33, z34⟩, ⟨f32, f33, f34⟩, h33, h32⟩, hc⟩ := Lf.app3 HC.out.drew hr hb hg; have HN_ := Lib.hid hc; clear hr hb hg hc)
                    all_goals (go_wp2_with fail; go_meet; exact ⟨_, _, _, HN_.out⟩)
                  case rest =>
                    rename World => w6
                    obtain ⟨n3, B3, c3, hcut⟩ := hcut
                    have HC' := Lib.hid hcut
                    clear HC hcut
                    have HC := HC'
                    clear HC'
                    have hy13 : wo.heap.size + 1 < w6.heap.size := blk_lt HC.out.k13
                    obtain ⟨⟨a32, a33, a34⟩, ⟨z32, z33, z34⟩, ⟨f32, f33, f34⟩, _, _⟩ := lf_see (k := .int .i64 x) HC.out.k13 HC.out.k12
                    have k32 := (HC.out.bl.cell (p := ⟨b2, o2 + i, none⟩) HLT.out.1).trans M2.out
                    have k33 := (HC.out.bl.cell (p := ⟨b3, o3 + i, none⟩) HLT.out.2.1).trans M3.out
                    have k34 := (HC.out.bl.cell (p := ⟨b4, o4 + i, none⟩) HLT.out.2.2).trans M4.out
                    go_wp2_with fail
                    go_region_law (refine step_int (w0 := wo) wo.heap.size rfl (.tmp 138) (.tmp 144) 50 2 (.int .i64 0) 8 rfl Try.underlying50 info2 rfl (by decide) w6 u4 ((fm base (ms.take i)).map Mk.base) mk.base rfl rfl HC.out.r4 HC.out.bl HC.out.bl.size (by have := HL4.out; omega) ?_; intro v4 w7 hr hb hg; obtain ⟨n4, B4, c4, rfl⟩ : ∃ n A q, v4 = .slice A n q := (by obtain ⟨A_, q_, e_⟩ := Kd.R_slice hr; exact ⟨_, A_, q_, e_⟩); obtain ⟨⟨⟨a42, a43, a44⟩, ⟨z42, z43, z44⟩, ⟨f42, f43, f44⟩, h43, h42⟩, hc⟩ := Lf.app4 HC.out.drew hr hb hg; have HN_ := Lib.hid hc; clear hr hb hg hc)
                    all_goals (go_wp2_with fail; go_roundw)
                    all_goals first
                      | exact ⟨i + 1, _, _, _, by omega, by go_num, by rw [HFT.out, if_pos HBS.out, List.map_append, List.map_append, List.map_append]; exact HN_.out⟩
                      | (simp [intOf]; omega)
              · have eb : decide (base ≤ mk.base) = false := decide_eq_false hbs
                have HBS := Lib.hid hbs
                clear hbs
                go_wp2_with fail
                go_roundw
                case rel => exact ⟨i + 1, u2, u3, u4, by omega, by go_num, by rw [HFT.out, if_neg (show ¬ base ≤ mk.base by have := HBS.out; omega), List.append_nil]; exact HLf.out⟩
                case measure => simp [intOf]; omega
            · obtain rfl : i = L := by omega
              have htk : ms.take i = ms := by rw [HL.out]; exact List.take_length
              rw [htk] at HLf
              clear htk a2 a3 a4 z2 z3 z4 f2 f3 f4
              obtain ⟨N, hN⟩ : ∃ N, N = (fm base ms).length := ⟨_, rfl⟩
              obtain ⟨B2, c2, rfl⟩ : ∃ A c, u2 = .slice A N c := by obtain ⟨A_, c_, e_⟩ := Kd.R_slice HLf.out.r2; rw [List.length_map, ← hN] at e_; exact ⟨_, _, e_⟩
              obtain ⟨B3, c3, rfl⟩ : ∃ A c, u3 = .slice A N c := by obtain ⟨A_, c_, e_⟩ := Kd.R_slice HLf.out.r3; rw [List.length_map, ← hN] at e_; exact ⟨_, _, e_⟩
              obtain ⟨B4, c4, rfl⟩ : ∃ A c, u4 = .slice A N c := by obtain ⟨A_, c_, e_⟩ := Kd.R_slice HLf.out.r4; rw [List.length_map, ← hN] at e_; exact ⟨_, _, e_⟩
              have g0 := (blk_cell HLf.out.k13 0).trans rfl
              have g1 := (blk_cell HLf.out.k13 1).trans rfl
              have g2 := (blk_cell HLf.out.k13 2).trans rfl
              have g3 := (blk_cell HLf.out.k13 3).trans rfl
              have g4 := (blk_cell HLf.out.k13 4).trans rfl
              have hlf : lf g base x = ⟨x, e, (fm base ms).map Mk.seq, (fm base ms).map Mk.count, (fm base ms).map Mk.base⟩ := by unfold lf; rw [HGX.out]
              have hlo : w4.heap.size ≤ wo.heap.size := HBq.out.size
              have HMM : Hid (k52.M wr w4.heap.size (fun j => wo.heap.size ≤ j) (lf g base x) [.int .i64 x, .int .i16 e, .slice B2 N c2, .slice B3 N c3, .slice B4 N c4]) := by
                rw [hlf]
                exact k52_mkM wr w4.heap.size _ _ (Kd.R_lower (Kd.R_mono (Kd.R_bound HLf.out.r2) (fun j hj => hj.2.1)) hlo) (Kd.R_lower (Kd.R_mono (Kd.R_bound HLf.out.r3) (fun j hj => hj.2.1)) hlo) (Kd.R_lower (Kd.R_mono (Kd.R_bound HLf.out.r4) (fun j hj => hj.2.1)) hlo)
              have HVO := Lib.hid (Kd.R_lt HW.out)
              have HRW := Lib.hid (Kd.R_below HW.out HLf.out.bl)
              have HBW : Hid (Below w4.heap.size w4 wr) := HBq.out.trans (HLf.out.bl.mono hlo)
              have HWL : Hid ((wantL g base (ks.take j)).length + 1 ≤ 1048577) := by
                show _ ≤ 1048577
                unfold wantL
                have h1 := List.length_filter_le (fun x : S52 => decide (0 < x.f4.length)) ((ks.take j).map (lf g base))
                have h2 := List.length_take_le j ks
                rw [List.length_map] at h1
                omega
              have HWN : Hid (wantL g base (ks.take (j + 1)) = wantL g base (ks.take j) ++ if 0 < N then [lf g base x] else []) := by
                have h := want_next g base HX.out
                rw [show (lf g base x).f4.length = N by rw [hlf, hN]; exact List.length_map _] at h
                exact h
              clear hlf hlo hN
              by_cases hN0 : 0 < N
              · go_wp2_with (at_builtin; refine Kd.R_append k52 (w0 := w4) w4.heap.size rfl _ _ 46 52 (.agg #[.int .i64 0, .int .i16 0, .slice none 0 0, .slice none 0 0, .slice none 0 0]) 88 rfl Try.underlying46 info52 rfl (by decide) (by decide) u10 _ (lf g base x) [.int .i64 x, .int .i16 e, .slice B2 N c2, .slice B3 N c3, .slice B4 N c4] (fun _ => True) (fun j => wo.heap.size ≤ j) rfl rfl HMM.out (fun j hj => ⟨trivial, fun he => Nat.not_lt.2 hj (HVO.out j he.symm)⟩) (fun _ _ => trivial) HRW.out HBW.out HBW.out.size (by have := HWL.out; omega) ?_; intro v1 w1 hr hb hg hat; have HR1 := Lib.hid hr; have HB1 := Lib.hid hb; clear hr hb hg hat)
                go_roundw
                case rel => exact ⟨j + 1, by omega, by go_num, by rw [HWN.out, if_pos hN0]; exact HR1.out, HB1.out⟩
                case measure => simp [intOf]; omega
              · go_wp2_with fail
                go_roundw
                case rel => exact ⟨j + 1, by omega, by go_num, by rw [HWN.out, if_neg hN0, List.append_nil]; exact HRW.out, HBW.out⟩
                case measure => simp [intOf]; omega
        · obtain rfl : j = m := by omega
          have htk : ks.take j = ks := by rw [HME.out]; exact List.take_length
          rw [htk] at HW
          obtain ⟨mw, hmw, Aw, cw, rfl⟩ : ∃ mw, mw = (wantL g base ks).length ∧ ∃ A c, u10 = .slice A mw c := by obtain ⟨A_, c_, e_⟩ := Kd.R_slice HW.out; exact ⟨_, rfl, A_, c_, e_⟩
          have HMW := Lib.hid hmw
          have HT5 : Hid (Tab wo t b k g) := HT4.out.below HBq.out
          have HB5 : Hid (Below w.heap.size w wo) := HB4.out.trans (HBq.out.mono HB4.out.size)
          clear hmw htk
          go_wp2_with (first
            | (go_at_call 13; refine (forget_any t b _ _ base _ HT5.out (by omega)).mono ?_; rintro e w6 ⟨rfl, hT, hk⟩; have HT6 := Lib.hid hT; have HW6 := Lib.hid (row_kept HW.out hk (Mp.is_map (Tab.mp HT5.out).choose_spec)); have HB6 := Lib.hid (HB5.out.trans (hk.below HB5.out.size (fun j hj => by rw [hj]; exact HBL.out))); clear hT hk)
            | (go_at_call 16; refine (all_want t b _ mw g base ks _ HASC.out HMEM.out HT6.out (by omega) HMW.out).mono ?_; rintro e w7 ⟨A7, c7, rfl, hSS, hev, hmb7, hb⟩; have HSS := Lib.hid hSS; have HEV := Lib.hid hev; have HMB7 := Lib.hid hmb7; have HC7 := Lib.hid (Kd.C_below (Kd.R_reads' HW6.out).2.2 hb); have HB7 := Lib.hid hb; clear hSS hev hmb7 hb)
            | (go_at_call 15; refine (alike_n A7 Aw c7 cw mw _ _ HMW.out (Kd.S_reads' HSS.out).2.2 HC7.out HEV.out (by rw [← HMW.out]; have := HMB7.out; omega)).mono ?_; rintro e w8 ⟨rfl, hb⟩; have HS8 := Lib.hid (Kd.S_below HSS.out hb); have HB8 := Lib.hid (HB7.out.trans (hb.mono HB7.out.size)); clear hb))
          have hmwb : mw ≤ 1048576 := HMB7.out
          go_loopw [17, 177, 168] (fun _ _ ii wr => ∃ (i : Nat) (Xs : List S52), i ≤ mw ∧ ii = .int .i64 i ∧ Hid (Kd.S k52 52 wr w6.heap.size (fun _ => True) (.slice A7 mw c7) Xs) ∧ Hid (Sp (wantL g base ks) Xs i 0) ∧ Hid (Below w6.heap.size w6 wr)) (fun _ _ ii _ => mw - (intOf ii).toNat)
          case atStart => exact ⟨0, _, Nat.zero_le _, rfl, HS8.out, Sp.start HEV.out, HB8.out⟩
          case round =>
            obtain ⟨i, Xs, hi, rfl, HS, HSp, HBs⟩ := hrel
            by_cases him : i < mw
            · obtain ⟨y, hy⟩ : ∃ y, (wantL g base ks)[i]? = some y := ⟨_, List.getElem?_eq_getElem (by have := HMW.out; omega)⟩
              obtain ⟨x, hx⟩ : ∃ x, Xs[i]? = some x := ⟨_, List.getElem?_eq_getElem (by have := HMW.out; have := HSp.out.1; omega)⟩
              obtain ⟨g7, cap7, hA, _⟩ := Kd.S_form HS.out (by have := (List.getElem?_eq_some_iff.1 hx).1; omega)
              injection hA with hA hA1 hA2
              clear hA1 hA2
              subst hA
              obtain ⟨oki, v2, v3, v4, o⟩ := S_open HS.out hx
              have hx4 := (HSp.out.2 i x y hx hy).1.2.2
              obtain ⟨N, hN⟩ : ∃ N, N = y.f4.length := ⟨_, rfl⟩
              obtain ⟨A4, q4, rfl⟩ : ∃ A c, v4 = .slice A N c := by obtain ⟨A_, c_, e_⟩ := Kd.R_slice o.r4; rw [hx4, ← hN] at e_; exact ⟨_, _, e_⟩
              have hd4 := o.c 4 _ rfl
              have hgl := World.block_lt_of_cell? wr _ hd4
              have hev := HEV.out y (List.mem_of_getElem? hy)
              have hNb : N ≤ 1000000000 := by rw [hN]; have h1 := hev.2.1; have h2 := hev.2.2; omega
              have HY := Lib.hid hy
              have HN4 := Lib.hid hN
              clear hy hx o hx4 hN hev
              go_wp2_with fail
              clear hd4 hgl
              go_loopw [17, 177] (fun _ jj wq => ∃ (j : Nat) (Xs : List S52), j ≤ N ∧ jj = .int .i64 j ∧ Hid (SK wq w6.heap.size g7 mw c7 Xs) ∧ Hid (Sp (wantL g base ks) Xs i j) ∧ Hid (Below w6.heap.size w6 wq)) (fun _ jj _ => N - (intOf jj).toNat)
              case atStart => exact ⟨0, Xs, Nat.zero_le _, rfl, HS.out, HSp.out, HBs.out⟩
              case round =>
                clear HS HSp HBs
                obtain ⟨j, Xs, hj, rfl, HS, HSp, HBs⟩ := hrel
                by_cases hjN : j < N
                · obtain ⟨x, hx⟩ : ∃ x, Xs[i]? = some x := ⟨_, List.getElem?_eq_getElem (by have := HMW.out; have := HSp.out.1; omega)⟩
                  obtain ⟨⟨l2, l3, l4⟩, _⟩ := HSp.out.2 i x y hx HY.out
                  rw [← HN4.out] at l2 l3 l4
                  obtain ⟨b2, q2, b3, q3, b4, q4, u2, u3, u4, ⟨d2, d3, d4⟩, ⟨e2, e3, e4⟩, ⟨f2, f3, f4⟩, ⟨m2, m3, m4⟩, ⟨n2, n3, n4, n23, n24, n34⟩, ⟨p2, p3, p4⟩, hS3⟩ := spoil3 HS.out hx l2 l3 l4 hjN
                  have HS3 := Lib.hid hS3
                  have HSp3 := Lib.hid (HSp.out.step hx HY.out (by rw [← HN4.out]; exact hjN))
                  have HBs3 := Lib.hid (((HBs.out.setCell (p := ⟨b4, j, none⟩) p4 (.int .i64 (-9))).setCell (p := ⟨b2, j, none⟩) p2 (.int .i32 (-9))).setCell (p := ⟨b3, j, none⟩) p3 (.int .i64 (-9)))
                  clear hS3 l2 l3 l4 hx p2 p3 p4
                  go_wp2_with fail
                  go_roundw
                  case rel => exact ⟨j + 1, _, by omega, by go_num, HS3.out, HSp3.out, HBs3.out⟩
                  case measure => simp [intOf]; omega
                · obtain rfl : j = N := by omega
                  go_wp2_with fail
                  go_roundw
                  case rel => exact ⟨i + 1, Xs, by omega, by go_num, HS.out, HSp.out.row HY.out HN4.out, HBs.out⟩
                  case measure => simp [intOf]; omega
            · obtain rfl : mw = i := by omega
              have HSq : Hid (Sq (wantL g base ks) Xs 0 0) := Sq.start (by have h := HSp.out; rw [HMW.out] at h; exact h)
              have HCW : Hid (Kd.C k52 w6 Aw mw (wantL g base ks)) := by rw [HMW.out]; exact (Kd.R_reads' HW6.out).2.2
              clear HSp
              go_wp2_with fail
              go_loopw [19, 205] (fun u19 ii wr => ∃ (i : Nat) (Xs : List S52), i ≤ mw ∧ ii = .int .i64 i ∧ Hid (Kd.S k52 52 wr w6.heap.size (fun _ => True) (.slice A7 mw c7) Xs) ∧ Hid (Sq (wantL g base ks) Xs i 0) ∧ Hid (Below w6.heap.size w6 wr)) (fun _ ii _ => mw - (intOf ii).toNat)
              case atStart => exact ⟨0, Xs, Nat.zero_le _, rfl, HS.out, HSq.out, HBs.out⟩
              case round =>
                clear HS HSq HBs
                obtain ⟨i, Xs, hi, rfl, HS, HSq, HBs⟩ := hrel
                by_cases him : i < mw
                · obtain ⟨y, hy⟩ : ∃ y, (wantL g base ks)[i]? = some y := ⟨_, List.getElem?_eq_getElem (by have := HMW.out; omega)⟩
                  obtain ⟨x, hx⟩ : ∃ x, Xs[i]? = some x := ⟨_, List.getElem?_eq_getElem (by have := HMW.out; have := HSq.out.1; omega)⟩
                  obtain ⟨g7, cap7, hA, _⟩ := Kd.S_form HS.out (by have := (List.getElem?_eq_some_iff.1 hx).1; omega)
                  injection hA with hA hA1 hA2
                  clear hA1 hA2
                  subst hA
                  have hev := HEV.out y (List.mem_of_getElem? hy)
                  have HNb : Hid (y.f4.length ≤ 1000000000) := by show _ ≤ _; have h1 := hev.2.1; have h2 := hev.2.2; omega
                  have HY := Lib.hid hy
                  clear hy hx hev
                  go_wp2_with fail
                  go_loopw [19] (fun kk wq => ∃ (k8 : Nat) (Xs : List S52), k8 ≤ 8 ∧ kk = .int .i64 k8 ∧ Hid (SK wq w6.heap.size g7 mw c7 Xs) ∧ Hid (Sq (wantL g base ks) Xs i k8) ∧ Hid (Below w6.heap.size w6 wq)) (fun kk _ => 8 - (intOf kk).toNat)
                  case atStart => exact ⟨0, Xs, Nat.zero_le _, rfl, HS.out, HSq.out, HBs.out⟩
                  case round =>
                    clear HS HSq HBs
                    rename World => wq
                    obtain ⟨k8, Xs, hk8, rfl, HS, HSq, HBs⟩ := hrel
                    by_cases hk : k8 < 8
                    · obtain ⟨x, hx⟩ : ∃ x, Xs[i]? = some x := ⟨_, List.getElem?_eq_getElem (by have := HMW.out; have := HSq.out.1; omega)⟩
                      obtain ⟨oki, v2, v3, v4, o⟩ := S_open HS.out hx
                      obtain ⟨⟨l2, l3, l4⟩, _⟩ := HSq.out.2 i x y hx HY.out
                      have HL2 : Hid ((x.f2.length + 1) * 4 ≤ 140737488355328) := by show _ ≤ _; have := HNb.out; omega
                      have HL3 : Hid ((x.f3.length + 1) * 8 ≤ 140737488355328) := by show _ ≤ _; have := HNb.out; omega
                      have HL4 : Hid ((x.f4.length + 1) * 8 ≤ 140737488355328) := by show _ ≤ _; have := HNb.out; omega
                      have HX := Lib.hid hx
                      have HG7 := Lib.hid o.bg
                      obtain ⟨A2, q2, e2⟩ := Kd.R_slice o.r2
                      obtain ⟨A3, q3, e3⟩ := Kd.R_slice o.r3
                      obtain ⟨A4, q4, e4⟩ := Kd.R_slice o.r4
                      obtain ⟨N2, hN2⟩ : ∃ N2, N2 = x.f2.length := ⟨_, rfl⟩
                      obtain ⟨N3, hN3⟩ : ∃ N3, N3 = x.f3.length := ⟨_, rfl⟩
                      obtain ⟨N4, hN4⟩ : ∃ N4, N4 = x.f4.length := ⟨_, rfl⟩
                      rw [← hN2] at e2
                      rw [← hN3] at e3
                      rw [← hN4] at e4
                      subst e2
                      subst e3
                      subst e4
                      have d2 := o.c 2 _ rfl
                      have d3 := o.c 3 _ rfl
                      have d4 := o.c 4 _ rfl
                      have hgl := World.block_lt_of_cell? wq _ d4
                      have O := Lib.hid o
                      clear o hx l2 l3 l4 hN2 hN3 hN4
                      go_upto_region 54 with (at_builtin; refine Kd.R_append (Kd.int .i64) (w0 := w6) w6.heap.size rfl (.tmp 218) (.tmp 220) 50 2 (.int .i64 0) 8 rfl Try.underlying50 info2 rfl (by decide) (by decide) (.slice A4 N4 q4) x.f4 k8 [.int .i64 k8] (okw wq oki) (fun _ => False) rfl rfl rfl (fun _ h => h.elim) (fun _ h => .inr ⟨trivial, h⟩) (Kd.R_mono O.out.r4 (fun _ h => .inl h)) HBs.out HBs.out.size HL4.out ?_; intro v4' w5 hr hb hg hat; obtain ⟨N4', hN4, B4, p4, rfl⟩ : ∃ n, n = (x.f4 ++ [(k8 : Int)]).length ∧ ∃ A q, v4' = .slice A n q := (by obtain ⟨A_, q_, e_⟩ := Kd.R_slice hr; exact ⟨_, rfl, _, _, e_⟩); obtain ⟨ho, hc, hf, hl⟩ := O.out.app4 hr hg; have a4 := hc 4 _ rfl; have f4 := hf 4; have HO := Lib.hid ho; have HB5 := Lib.hid (hb.setCell (p := ⟨g7, i * 5 + 4, none⟩) HG7.out (.slice B4 N4' p4)); clear hr hb hg hat ho hc hf hN4)
                      clear d2 d3 d4 a4 f4
                      generalize w5.setCell ⟨g7, i * 5 + 4, none⟩ (.slice B4 N4' p4) = W5 at HO HB5 ⊢
                      have d2 := HO.out.c 2 _ rfl
                      have hgl5 := World.block_lt_of_cell? W5 _ d2
                      have kw : IntKind.i32.wrap (k8 : Int) = k8 := IntWalk.i32_in _ (by omega)
                      go_upto_region 55 with (at_builtin; refine Kd.R_append (Kd.int .i32) (w0 := w6) w6.heap.size rfl (.tmp 230) (.tmp 233) 27 21 (.int .i32 0) 4 rfl Try.underlying27 info21 rfl (by decide) (by decide) (.slice A2 N2 q2) x.f2 k8 [.int .i32 k8] (okw W5 (okw wq oki)) (fun _ => False) rfl rfl rfl (fun _ h => h.elim) (fun _ h => .inr ⟨trivial, h⟩) (Kd.R_mono HO.out.r2 (fun _ h => .inl h)) HB5.out HB5.out.size HL2.out ?_; intro v2' w7 hr hb hg hat; obtain ⟨N2', hN2, B2, p2, rfl⟩ : ∃ n, n = (x.f2 ++ [(k8 : Int)]).length ∧ ∃ A q, v2' = .slice A n q := (by obtain ⟨A_, q_, e_⟩ := Kd.R_slice hr; exact ⟨_, rfl, _, _, e_⟩); obtain ⟨ho, hc, hf, hl⟩ := HO.out.app2 hr hg; have a2 := hc 2 _ rfl; have f2 := hf 2; have HO2 := Lib.hid ho; have HB7 := Lib.hid (hb.setCell (p := ⟨g7, i * 5 + 2, none⟩) HG7.out (.slice B2 N2' p2)); clear hr hb hg hat ho hc hf hN2)
                      clear d2 a2 f2 kw
                      generalize w7.setCell ⟨g7, i * 5 + 2, none⟩ (.slice B2 N2' p2) = W7 at HO2 HB7 ⊢
                      have d3 := HO2.out.c 3 _ rfl
                      have hgl7 := World.block_lt_of_cell? W7 _ d3
                      go_wp2_with (at_builtin; refine Kd.R_append (Kd.int .i64) (w0 := w6) w6.heap.size rfl (.tmp 243) (.tmp 245) 23 3 (.int .i64 0) 8 rfl Try.underlying23 info3 rfl (by decide) (by decide) (.slice A3 N3 q3) x.f3 k8 [.int .i64 k8] (okw W7 (okw W5 (okw wq oki))) (fun _ => False) rfl rfl rfl (fun _ h => h.elim) (fun _ h => .inr ⟨trivial, h⟩) (Kd.R_mono HO2.out.r3 (fun _ h => .inl h)) HB7.out HB7.out.size HL3.out ?_; intro v3' w8 hr hb hg hat; obtain ⟨N3', hN3, B3, p3, rfl⟩ : ∃ n, n = (x.f3 ++ [(k8 : Int)]).length ∧ ∃ A q, v3' = .slice A n q := (by obtain ⟨A_, q_, e_⟩ := Kd.R_slice hr; exact ⟨_, rfl, _, _, e_⟩); obtain ⟨ho, hc, hf, hl⟩ := HO2.out.app3 hr hg; have a3 := hc 3 _ rfl; have f3 := hf 3; have HO3 := Lib.hid ho; have HB8 := Lib.hid (hb.setCell (p := ⟨g7, i * 5 + 3, none⟩) HG7.out (.slice B3 N3' p3)); clear hr hb hg hat ho hc hf hN3)
                      go_roundw
                      case rel => exact ⟨k8 + 1, _, by omega, by go_num, HO3.out.back, HSq.out.step HX.out HY.out hk, HB8.out⟩
                      case measure => simp [intOf]; omega
                    · obtain rfl : k8 = 8 := by omega
                      go_wp2_with fail
                      go_roundw
                      case rel => exact ⟨i + 1, Xs, by omega, by go_num, HS.out, HSq.out.row, HBs.out⟩
                      case measure => simp [intOf]; omega
                · obtain rfl : mw = i := by omega
                  clear him hi
                  go_wp2_with fail
                  have HCq := Lib.hid (Kd.C_below HCW.out HBs.out)
                  have HEND := Lib.hid (HB6.out.trans (HBs.out.mono HB6.out.size))
                  have HTq := Lib.hid (HT6.out.below HBs.out)
                  go_loop [21, 261, 252] (fun _ _ ii => ∃ i : Nat, i ≤ mw ∧ ii = .int .i64 i) (fun _ _ ii => mw - (intOf ii).toNat)
                  case atStart => exact ⟨0, Nat.zero_le _, rfl⟩
                  case round =>
                    obtain ⟨i, hi, rfl⟩ := hrel
                    by_cases him : i < mw
                    · obtain ⟨y, hy⟩ : ∃ y, (wantL g base ks)[i]? = some y := ⟨_, List.getElem?_eq_getElem (by have := HMW.out; omega)⟩
                      obtain ⟨x, hx⟩ : ∃ x, Xs[i]? = some x := ⟨_, List.getElem?_eq_getElem (by have := HMW.out; have := HSq.out.1; omega)⟩
                      obtain ⟨g7, cap7, hA, _⟩ := Kd.S_form HS.out (by have := (List.getElem?_eq_some_iff.1 hx).1; omega)
                      injection hA with hA hA1 hA2
                      clear hA1 hA2
                      subst hA
                      obtain ⟨bw, ow, A4, q4w, rfl, hbw, hcw⟩ := want_cell HCq.out HMW.out hy
                      obtain ⟨_, _, _, hbad⟩ := HSq.out.2 i x y hx hy
                      have hev := HEV.out y (List.mem_of_getElem? hy)
                      obtain ⟨N, hN⟩ : ∃ N, N = y.f4.length := ⟨_, rfl⟩
                      have hNb : N ≤ 1000000000 := by rw [hN]; have h1 := hev.2.1; have h2 := hev.2.2; omega
                      rw [← hN] at hcw hbad
                      have HX := Lib.hid hx
                      have HBAD := Lib.hid hbad
                      clear hy hx hev hN hbad
                      go_wp2_with fail
                      go_loop [21, 261] (fun _ jj => ∃ j : Nat, j ≤ N ∧ jj = .int .i64 j) (fun _ jj => N - (intOf jj).toNat)
                      case atStart => exact ⟨0, Nat.zero_le _, rfl⟩
                      case round =>
                        clear hcw
                        obtain ⟨j, hj, rfl⟩ := hrel
                        by_cases hjN : j < N
                        · obtain ⟨b2, n2, q2, b3, n3, q3, b4, n4, q4, ⟨d2, d3, d4⟩, ⟨e2, e3, e4⟩, ⟨m2, m3, m4⟩⟩ := read3 HS.out HX.out (HBAD.out j hjN)
                          go_wp2_with fail
                          go_round
                          case rel => exact ⟨j + 1, by omega, by go_num⟩
                          case measure => simp [intOf]; omega
                        · obtain rfl : j = N := by omega
                          go_wp2_with fail
                          go_round
                          case rel => exact ⟨i + 1, by omega, by go_num⟩
                          case measure => simp [intOf]; omega
                    · obtain rfl : i = mw := by omega
                      go_wp2_with (first
                        | (go_at_call 16; refine (all_want t b _ i g base ks _ HASC.out HMEM.out HTq.out (by omega) HMW.out).mono ?_; rintro e w7 ⟨A9, c9, rfl, hSS, hev, hmb7, hb⟩; have HSS9 := Lib.hid hSS; have HEV9 := Lib.hid hev; have HMB9 := Lib.hid hmb7; have HC9 := Lib.hid (Kd.C_below HCq.out hb); have HB9 := Lib.hid (HEND.out.trans (hb.mono HEND.out.size)); clear hSS hev hmb7 hb)
                        | (go_at_call 15; refine (alike_n A9 Aw c9 cw i _ _ HMW.out (Kd.S_reads' HSS9.out).2.2 (by rw [← HMW.out]; exact HC9.out) HEV9.out (by rw [← HMW.out]; have := HMB9.out; omega)).mono ?_; rintro e w8 ⟨rfl, hb⟩; have HBZ := Lib.hid (HB9.out.trans (hb.mono HB9.out.size)); clear hb))
                      go_ret
                      exact ⟨rfl, HBZ.out⟩
end Go.Proofs.Ytnooekflmjebiaa
