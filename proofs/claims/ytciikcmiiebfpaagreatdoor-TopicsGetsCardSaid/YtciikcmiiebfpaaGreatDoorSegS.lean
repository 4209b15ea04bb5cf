/- seg.Scan of one plain batch. -/
import Derived.Test.YtciikcmiiebfpaaGreatDoorSetD
namespace Go.Proofs.YtciikcmiiebfpaaGreatDoor
open Go Go.RowKit Go.Proofs.YtciikcmiiebfpaaGreatDoorW.PrintWords Go.Proofs.YtciikcmiiebfpaaGreatDoor.PTopicsGets Go.Proofs.YtciikcmiiebfpaaGreatDoorW.PrintMore
set_option linter.unusedVariables false
set_option linter.unusedSimpArgs false
attribute [local go_sem] max2_int min2_int max_two min_two max_three min_three

theorem infoEnt : (Tryz.prog.info? 109).map (fun i => (i.zero, i.size, i.bytes)) = some (some (.agg #[.int .i64 0, .int .i64 0, .int .i64 0, .int .i64 0, .int .i64 0, .int .i64 0, .int .i16 0, .int .i32 0]), 8, 56) := by kernel_rfl
/-- An entry's cells. -/
def entCells (base count at_ size last pid pep seq : Int) : List Value := [.int .i64 base, .int .i64 count, .int .i64 at_, .int .i64 size, .int .i64 last, .int .i64 pid, .int .i16 pep, .int .i32 seq]

set_option maxHeartbeats 8000000 in
set_option maxRecDepth 100000 in
theorem visit_ok (w : World) (b5 : Nat) (x1 x2 x3 : Value) (base count at_ size last pid pep seq v0 v12 v43 v51 v53 : Int) (R : Option Addr) (rn rc : Nat) (hx : w.heap[b5]? = some (.cells #[.slice none 0 0, x1, x2, x3] 106 (0, 0))) :
    Calls Tryz.prog 77 #[.agg #[.int .i64 base, .int .i64 count, .int .i64 at_, .int .i64 size, .int .i64 last, .int .i64 pid, .int .i16 pep, .int .i32 seq], .agg #[.int .i64 v0, .int .i32 v12, .int .i64 v43, .int .i16 v51, .int .i32 v53, .slice R rn rc], .pointer (some ⟨b5, 0, none⟩)] w fun r w' =>
      r = .returned (.tuple #[]) ∧ Tch (fun i => i = b5) w w' ∧ ∃ A c, w'.heap[b5]? = some (.cells #[.slice A 1 c, x1, x2, x3] 106 (0, 0)) ∧ Ix.Owns w' w.heap.size 109 8 (.slice A 1 c) 1 (entCells base count at_ size last pid pep seq) := by
  obtain ⟨W0, hW0⟩ : ∃ W0, W0 = (w.alloc (.cells #[.int .i64 base, .int .i64 count, .int .i64 at_, .int .i64 size, .int .i64 last, .int .i64 pid, .int .i16 pep, .int .i32 seq] 109)).alloc (.cells #[.int .i64 v0, .int .i32 v12, .int .i64 v43, .int .i16 v51, .int .i32 v53, .slice R rn rc] 95) := ⟨_, rfl⟩
  have hb : Below w.heap.size w W0 := by rw [hW0]; exact ((Below.refl _ _).alloc (Nat.le_refl _) _).alloc (by rw [World.size_alloc]; omega) _
  have hsz : W0.heap.size = w.heap.size + 2 := by rw [hW0, World.size_alloc, World.size_alloc]
  have he : W0.heap[w.heap.size]? = some (.cells #[.int .i64 base, .int .i64 count, .int .i64 at_, .int .i64 size, .int .i64 last, .int .i64 pid, .int .i16 pep, .int .i32 seq] 109 (0, 0)) := by
    rw [hW0]
    exact blk_below (blk_new _ _) ((Below.refl _ _).alloc (Nat.le_refl _) _)
  have HX0 := Lib.hid (blk_below hx hb)
  have HB0 := Lib.hid hb
  have HE0 := Lib.hid he
  have hA : Below W0.heap.size W0 (W0.alloc (.cells #[.int .i64 base, .int .i64 count, .int .i64 at_, .int .i64 size, .int .i64 last, .int .i64 pid, .int .i16 pep, .int .i32 seq] 109)) := (Below.refl _ _).alloc (Nat.le_refl _) _
  have HBX := Lib.hid (blk_new W0 (.cells #[.int .i64 base, .int .i64 count, .int .i64 at_, .int .i64 size, .int .i64 last, .int .i64 pid, .int .i16 pep, .int .i32 seq] 109))
  have HX1 := Lib.hid (blk_below HX0.out hA)
  have HB1 := Lib.hid (HB0.out.trans (hA.mono HB0.out.size))
  have HS1 := Lib.hid HB1.out.size
  have HL5 := Lib.hid (blk_lt hx)
  clear hx hb hsz he hA
  go_enter Tryz.func77, Tryz.ntmps77
  go_upto_region 1 with fail
  rw [← hW0]
  clear hW0
  have q0 := blk_cell HX0.out 0
  have e0 := blk_cell HE0.out 0
  have e1 := blk_cell HE0.out 1
  have e2 := blk_cell HE0.out 2
  have e3 := blk_cell HE0.out 3
  have e4 := blk_cell HE0.out 4
  have e5 := blk_cell HE0.out 5
  have e6 := blk_cell HE0.out 6
  have e7 := blk_cell HE0.out 7
  go_wp2_with (at_builtin; refine wpList_push rfl _ _ 104 109 8 56 _ rfl Tryz.underlying104 infoEnt rfl (by decide) _ w.heap.size W0.heap.size (.slice none 0 0) 0 [] (entCells base count at_ size last pid pep seq) rfl rfl HBX.out rfl rfl (Ix.Owns.nil _ _ _ _) (by simp only [maxLen]; omega) (by omega) HS1.out ?_; intro v8 w8 ho ht hs; obtain ⟨A8, c8, rfl⟩ := ho.slice; have x7 := ht.keep HX1.out (fun e => by cases e); have HO8 := Lib.hid ho; have HT8 := Lib.hid ht; have X7 := Lib.hid x7; have q7 := blk_cell x7 0; have f7 := blk_frozen x7 0; clear ho ht hs x7)
  have t8 : Tch (fun i => i = b5) w w8 := (Tch.of_below HB1.out).trans (HT8.out.mono (fun k hk => by cases hk))
  have t9 := Tch.set (S := fun i => i = b5) w8 ⟨b5, 0, none⟩ (.slice A8 (0 + 1) c8) rfl
  go_end0
  exact ⟨rfl, t8.trans t9, A8, c8, blk_put X7.out 0 _ rfl, Owns_tch HO8.out t9 (fun k hk e => Owns_ne HO8.out X7.out (by decide) k hk e)⟩

/-- The base, that a batch begins with. -/
theorem HeadOk.base_range {l : Bs} {v0 v12 v17 v27 v35 v43 v51 v53 v57 : Int} (h : HeadOk l v0 v12 v17 v27 v35 v43 v51 v53 v57) : 0 ≤ v0 ∧ v0 ≤ 4611686018427387648 := by
  have := h.base
  unfold badBase at this
  simp at this
  omega

set_option maxHeartbeats 8000000 in
set_option maxRecDepth 100000 in
theorem walk_one {w : World} {A : Option Addr} {n c : Nat} {l : Bs} {v0 v12 v17 v27 v35 v43 v51 v53 : Int} {ts : List Int} (b5 : Nat) (x1 x2 x3 : Value) (hx : w.heap[b5]? = some (.cells #[.slice none 0 0, x1, x2, x3] 106 (0, 0))) (hl : l.length = n) (hn : n ≤ c) (hs : n ≤ 36000) (HB : CB w A n l) (HT : Tab w) (h : BatOk l v0 v12 v17 v27 v35 v43 v51 v53 ts) :
    Calls Tryz.prog 76 #[.slice A n c, .int .i64 v0, .func (.func 77) #[] #[.pointer (some ⟨b5, 0, none⟩)]] w fun r w' =>
      r = .returned (.tuple #[.int .i64 (n : Int), .int .i64 (v0 + ts.length), .int .i64 0]) ∧ Tch (fun i => i = b5) w w' ∧ ∃ A' c', w'.heap[b5]? = some (.cells #[.slice A' 1 c', x1, x2, x3] 106 (0, 0)) ∧ Ix.Owns w' w.heap.size 109 8 (.slice A' 1 c') 1 (entCells v0 ts.length 0 n v35 v43 v51 v53) := by
  have e1 : ∀ args w, (callFunc 77 args).run Tryz.prog w = .ok (.enter 77 args) w := fun args w => by kernel_rfl
  have h61 := h.head.len
  obtain ⟨A5, c5, hc5, hcut, hM⟩ := piece_cut (A := A) hl hn (by omega) 0 (n : Int) n (by decide) (by omega) (by omega)
  have hpl : (l.drop (0 : Int).toNat).take n = l := by rw [show (0 : Int).toNat = 0 from rfl, List.drop_zero, ← hl, List.take_length]
  rw [hpl] at hM
  have hms := measure_any A n c l h.head.byt hn hl (by omega) 0 w HB
  rw [h.head.ms, hl] at hms
  have HMS := Lib.hid hms
  have HDEC := Lib.hid (fun (W : World) (hW : Below w.heap.size w W) => dec_ok hl hc5 (by omega) (hM W (HB.below hW)) (HT.below hW) h)
  have HCN := Lib.hid h.head.cnt
  have HLAST := Lib.hid h.last
  have HBR := Lib.hid h.head.base_range
  have HX5 := Lib.hid hx
  have hn0 : 61 ≤ n := by omega
  clear h HB HT hM hpl hms h61 hl hx
  go_enter Tryz.func76, Tryz.ntmps76
  go_wp2_with fail
  go_loopw [6, 7, 12, 60] (fun v6 v7 _ _ wr => (v6 = .int .i64 0 ∧ v7 = .int .i64 v0 ∧ wr = w) ∨ (v6 = .int .i64 (n : Int) ∧ v7 = .int .i64 (v0 + ts.length) ∧ Hid (Tch (fun i => i = b5) w wr ∧ ∃ A' c', wr.heap[b5]? = some (.cells #[.slice A' 1 c', x1, x2, x3] 106 (0, 0)) ∧ Ix.Owns wr w.heap.size 109 8 (.slice A' 1 c') 1 (entCells v0 ts.length 0 n v35 v43 v51 v53)))) (fun v6 _ _ _ _ => n - (intOf v6).toNat)
  case atStart => exact Or.inl ⟨rfl, rfl, rfl⟩
  case round =>
    rcases hrel with ⟨rfl, rfl, hwr⟩ | ⟨rfl, rfl, HE⟩
    · subst hwr
      go_wp2_with fail
      refine HMS.out.mono ?_
      rintro r w1 ⟨hb1, rfl⟩
      have HB1 := Lib.hid hb1
      clear hb1 HMS
      go_wp2_with fail
      refine (HDEC.out w1 HB1.out).mono ?_
      rintro r w2 ⟨hb2, R, rc, rs, rfl, hrs, hts⟩
      have HB2 := Lib.hid (HB1.out.trans (hb2.mono HB1.out.size))
      have hlen : rs.length = ts.length := by rw [← hts, List.length_map]
      have hcn := HCN.out
      obtain ⟨r0, hr0⟩ : ∃ r0, rs[0]? = some r0 := ⟨_, List.getElem?_eq_getElem (by omega)⟩
      unfold Recs at hrs
      rw [hlen] at hrs
      obtain ⟨g, cap, e, hg, hgl, hnc, hcm, hxr⟩ := hrs.form (by omega)
      injection e with e1' e2 e3
      subst e1'
      have HX := Lib.hid (fun (i : Nat) (r : PRec) (h : rs[i]? = some r) (j : Nat) (u : Value) (hj : j < 6) (hu : r.vs[j]? = some u) => hxr (i * 6 + j) u (by rw [recCells_get rs i r h j hj, hu]))
      have c0 : w2.cell? ⟨g, 0, none⟩ = some (.int .i64 r0.t) := HX.out 0 r0 hr0 0 _ (by decide) rfl
      have HL : Hid (v35 = rs.foldl (fun t x => max t x.t) r0.t) := by
        show _ = _
        rw [← HLAST.out, ← hts, ← lastT_map]
        cases rs with
        | nil => cases hr0
        | cons a b => obtain rfl : a = r0 := Option.some.inj hr0; rfl
      obtain ⟨N, hN⟩ : ∃ N, N = ts.length := ⟨_, rfl⟩
      rw [← hN] at hlen hnc hcn ⊢
      have HTN := Lib.hid hN
      have HN := Lib.hid hlen
      have HGL := Lib.hid hgl
      have hA : Below w2.heap.size w2 (w2.alloc (.cells #[.int .i64 v0, .int .i32 v12, .int .i64 v43, .int .i16 v51, .int .i32 v53, .slice (some ⟨g, 0, none⟩) N rc] 95)) := (Below.refl _ _).alloc (Nat.le_refl _) _
      have HB3 := Lib.hid (HB2.out.trans (hA.mono HB2.out.size))
      have HBx := Lib.hid (blk_new w2 (.cells #[.int .i64 v0, .int .i32 v12, .int .i64 v43, .int .i16 v51, .int .i32 v53, .slice (some ⟨g, 0, none⟩) N rc] 95))
      have c0' : (w2.alloc (.cells #[.int .i64 v0, .int .i32 v12, .int .i64 v43, .int .i16 v51, .int .i32 v53, .slice (some ⟨g, 0, none⟩) N rc] 95)).cell? ⟨g, 0, none⟩ = some (.int .i64 r0.t) := (hA.cell (p := ⟨g, 0, none⟩) hgl).trans c0
      have HXa : Hid (∀ (W : World), Below (w2.alloc (.cells #[.int .i64 v0, .int .i32 v12, .int .i64 v43, .int .i16 v51, .int .i32 v53, .slice (some ⟨g, 0, none⟩) N rc] 95)).heap.size (w2.alloc (.cells #[.int .i64 v0, .int .i32 v12, .int .i64 v43, .int .i16 v51, .int .i32 v53, .slice (some ⟨g, 0, none⟩) N rc] 95)) W → ∀ (i : Nat) (r : PRec), rs[i]? = some r → ∀ (j : Nat) (u : Value), j < 6 → r.vs[j]? = some u → W.cell? ⟨g, i * 6 + j, none⟩ = some u) := fun W hW i r h j u hj hu =>
        (((hA.trans (hW.mono hA.size)).cell (p := ⟨g, i * 6 + j, none⟩) hgl)).trans (HX.out i r h j u hj hu)
      obtain ⟨t0, ht0⟩ : ∃ t0, t0 = r0.t := ⟨_, rfl⟩
      rw [← ht0] at c0' HL
      clear ht0 hb2 hrs hts hxr e2 e3 hg hgl hcm c0 hN hlen hr0 HX hA
      go_wp2_with fail
      obtain ⟨bx, hbx⟩ : ∃ bx, bx = w2.heap.size := ⟨_, rfl⟩
      rw [← hbx]
      rw [← hbx] at HBx
      clear hbx c0'
      generalize w2.alloc (.cells #[.int .i64 v0, .int .i32 v12, .int .i64 v43, .int .i16 v51, .int .i32 v53, .slice (some ⟨g, 0, none⟩) N rc] 95) = W3 at *
      go_loopw [12, 60] (fun v12 v60 w4 => ∃ (i : Nat) (cur : Int), v12 = .int .i64 cur ∧ v60 = .int .i64 (i : Int) ∧ i ≤ N ∧ Hid ((rs.drop i).foldl (fun t x => max t x.t) cur = v35) ∧ Hid (Below W3.heap.size W3 w4)) (fun _ v60 _ => N - (intOf v60).toNat)
      case atStart => exact ⟨0, t0, rfl, rfl, Nat.zero_le _, HL.out.symm, Below.refl _ _⟩
      case round =>
        rename World => w4
        obtain ⟨i, cur, rfl, rfl, hi, HF, HB4⟩ := hrel
        by_cases c1 : i < N
        · obtain ⟨r, hr⟩ : ∃ r, rs[i]? = some r := ⟨_, List.getElem?_eq_getElem (by have := HN.out; omega)⟩
          have hcell := HXa.out w4 HB4.out i r hr
          have y0 : w4.cell? ⟨g, i * 6, none⟩ = some (.int .i64 r.t) := hcell 0 _ (by decide) rfl
          have y1 : w4.cell? ⟨g, i * 6 + 1, none⟩ = some (.bool false) := hcell 1 _ (by decide) rfl
          have y2 : w4.cell? ⟨g, i * 6 + 2, none⟩ = some (.slice r.A1 r.n1 r.c1) := hcell 2 _ (by decide) rfl
          have y3 : w4.cell? ⟨g, i * 6 + 3, none⟩ = some (.bool false) := hcell 3 _ (by decide) rfl
          have y4 : w4.cell? ⟨g, i * 6 + 4, none⟩ = some (.slice r.A2 r.n2 r.c2) := hcell 4 _ (by decide) rfl
          have y5 : w4.cell? ⟨g, i * 6 + 5, none⟩ = some (.slice none 0 0) := hcell 5 _ (by decide) rfl
          have hdrop : rs.drop i = r :: rs.drop (i + 1) := by
            rw [List.getElem?_eq_getElem (by have := HN.out; omega)] at hr
            rw [List.drop_eq_getElem_cons (by have := HN.out; omega), Option.some.inj hr]
          have hf := HF.out
          rw [hdrop, List.foldl_cons] at hf
          obtain ⟨t, A1, n1, c1', A2, n2, c2⟩ := r
          simp only at y0 y1 y2 y3 y4 y5 hf
          have HF2 := Lib.hid hf
          have HA : Hid (Below W3.heap.size W3 (w4.alloc (.cells #[.int .i64 t, .bool false, .slice A1 n1 c1', .bool false, .slice A2 n2 c2, .slice none 0 0] 118))) := HB4.out.alloc HB4.out.size _
          clear hcell hr hdrop hf HF
          by_cases c2' : cur < t
          · rw [Int.max_eq_right (Int.le_of_lt c2')] at HF2
            go_wp2_with fail
            go_roundw
            case rel => exact ⟨i + 1, t, rfl, rfl, by omega, HF2, HA⟩
            case measure => simp [intOf]; omega
          · rw [Int.max_eq_left (by omega)] at HF2
            go_wp2_with fail
            go_roundw
            case rel => exact ⟨i + 1, cur, rfl, rfl, by omega, HF2, HA⟩
            case measure => simp [intOf]; omega
        · have hf := HF.out
          rw [List.drop_eq_nil_of_le (by have := HN.out; omega)] at hf
          have hcur : cur = v35 := hf
          subst hcur
          have hb4 := HB3.out.trans (HB4.out.mono HB3.out.size)
          have HBW := Lib.hid hb4
          have hbx4 := blk_below HBx.out HB4.out
          have HBX4 := Lib.hid hbx4
          have g0 := blk_cell hbx4 0
          have g1 := blk_cell hbx4 1
          have g2 := blk_cell hbx4 2
          have g3 := blk_cell hbx4 3
          have g4 := blk_cell hbx4 4
          have g5 := blk_cell hbx4 5
          have HV := Lib.hid (visit_ok w4 b5 x1 x2 x3 v0 N 0 n cur v43 v51 v53 v0 v12 v43 v51 v53 (some ⟨g, 0, none⟩) N rc (blk_below HX5.out hb4))
          have HNE : Hid (bx ≠ b5) := blk_ne hbx4 (blk_below HX5.out hb4) (by decide)
          clear hf HF hb4 hbx4
          go_wp2_with fail
          refine HV.out.mono ?_
          rintro r w5 ⟨rfl, ht, A', c', hx5, ho5⟩
          have q5 : w5.cell? ⟨bx, 5, none⟩ = some (.slice (some ⟨g, 0, none⟩) N rc) := blk_cell (ht.keep HBX4.out HNE.out) 5
          have HTw := Lib.hid ((Tch.of_below (S := fun i => i = b5) HBW.out).trans ht)
          have HX6 := Lib.hid hx5
          have HO6 := Lib.hid (ho5.mono HBW.out.size)
          obtain ⟨hv0, hv1⟩ := HBR.out
          clear ht hx5 ho5 g0 g1 g2 g3 g4 g5 HV
          go_wp2_with fail
          go_roundw
          case rel => exact Or.inr ⟨by go_num, by rw [HTN.out], HTw.out, A', c', HX6.out, by rw [← HTN.out]; exact HO6.out⟩
          case measure => simp [intOf]; omega
    · go_wp2_with fail
      go_ret3
      exact ⟨rfl, HE.out⟩

set_option maxHeartbeats 8000000 in
set_option maxRecDepth 100000 in
theorem scan_one {w : World} {A : Option Addr} {n c : Nat} {l : Bs} {v0 v12 v17 v27 v35 v43 v51 v53 : Int} {ts : List Int} (hl : l.length = n) (hn : n ≤ c) (hs : n ≤ 36000) (HB : CB w A n l) (HT : Tab w) (h : BatOk l v0 v12 v17 v27 v35 v43 v51 v53 ts) :
    Calls Tryz.prog 32 #[.slice A n c, .int .i64 v0] w fun r w' => Below w.heap.size w w' ∧ ∃ A' c', r = .returned (.agg #[.slice A' 1 c', .int .i64 (n : Int), .int .i64 (v0 + ts.length), .int .i64 0]) ∧
      Ix.Owns w' w.heap.size 109 8 (.slice A' 1 c') 1 (entCells v0 ts.length 0 n v35 v43 v51 v53) := by
  have hmf : ∀ (fn : Fn) (first cap : Array Value) (w : World), (Instr.makeFunc fn first cap).run Tryz.prog w = .ok (.func fn first cap) w := fun _ _ _ _ => rfl
  obtain ⟨W0, hW0⟩ : ∃ W0, W0 = (w.alloc (.cells #[.slice none 0 0, .int .i64 0, .int .i64 0, .int .i64 0] 106)).alloc (.cells #[.slice none 0 0, .int .i64 0, .int .i64 0, .int .i64 0] 106) := ⟨_, rfl⟩
  have b1 : Below w.heap.size w W0 := by rw [hW0]; exact ((Below.refl _ _).alloc (Nat.le_refl _) _).alloc (by rw [World.size_alloc]; omega) _
  have x4 : W0.heap[w.heap.size]? = some (.cells #[.slice none 0 0, .int .i64 0, .int .i64 0, .int .i64 0] 106 (0, 0)) := by
    rw [hW0]
    exact blk_below (blk_new _ _) ((Below.refl _ _).alloc (Nat.le_refl _) _)
  have x5 : W0.heap[w.heap.size + 1]? = some (.cells #[.slice none 0 0, .int .i64 0, .int .i64 0, .int .i64 0] 106 (0, 0)) := by
    rw [hW0]
    have := blk_new (w.alloc (.cells #[.slice none 0 0, .int .i64 0, .int .i64 0, .int .i64 0] 106)) (.cells #[.slice none 0 0, .int .i64 0, .int .i64 0, .int .i64 0] 106)
    rw [World.size_alloc] at this
    exact this
  have HWK := Lib.hid (walk_one (w.heap.size + 1) (.int .i64 0) (.int .i64 0) (.int .i64 0) x5 hl hn hs (HB.below b1) (HT.below b1) h)
  have HB1 := Lib.hid b1
  have X4 := Lib.hid x4
  clear HB HT h b1 x4 x5 hl
  go_enter Tryz.func32, Tryz.ntmps32
  go_wp2_with fail
  rw [← hW0]
  clear hW0
  refine HWK.out.mono ?_
  rintro r w1 ⟨rfl, ht, A', c', hx, ho⟩
  have hx4 := ht.keep X4.out (by omega)
  have HB2 := Lib.hid (HB1.out.trans (ht.below HB1.out.size (fun i hi => by omega)))
  have HO := Lib.hid (ho.mono HB1.out.size)
  have HX := Lib.hid hx
  have HX4 := Lib.hid hx4
  have f1 := blk_frozen hx 1
  have f2 := blk_frozen hx 2
  have f3 := blk_frozen hx 3
  have q1 := blk_cell hx 1
  have q2 := blk_cell hx 2
  have q3 := blk_cell hx 3
  have q0 : w1.cell? ⟨w.heap.size + 1, 0, none⟩ = some (.slice A' 1 c') := blk_cell hx 0
  have k0 := blk_cell hx4 0
  have k1 := blk_cell hx4 1
  have k2 := blk_cell hx4 2
  have k3 := blk_cell hx4 3
  have g0 := blk_frozen hx4 0
  have g1 := blk_frozen hx4 1
  have g2 := blk_frozen hx4 2
  have g3 := blk_frozen hx4 3
  clear ht hx ho hx4 HWK X4 HB1
  go_wp2_with fail
  have t1 := Tch.set (S := fun i => i = w.heap.size + 1) w1 ⟨w.heap.size + 1, 1, none⟩ (.int .i64 (n : Int)) rfl
  have t2 := Tch.set (S := fun i => i = w.heap.size + 1) (w1.setCell ⟨w.heap.size + 1, 1, none⟩ (.int .i64 (n : Int))) ⟨w.heap.size + 1, 2, none⟩ (.int .i64 (v0 + ts.length)) rfl
  have t3 := Tch.set (S := fun i => i = w.heap.size + 1) ((w1.setCell ⟨w.heap.size + 1, 1, none⟩ (.int .i64 (n : Int))).setCell ⟨w.heap.size + 1, 2, none⟩ (.int .i64 (v0 + ts.length))) ⟨w.heap.size + 1, 3, none⟩ (.int .i64 0) rfl
  have t := (t1.trans t2).trans t3
  have hb3 := HB2.out.trans (t.below HB2.out.size (fun i hi => by omega))
  have ho3 := Owns_tch HO.out t (fun k hk e => Owns_ne HO.out HX.out (by decide) k hk e)
  have h0 := t.keep HX4.out (by omega)
  clear t1 t2 t3 t k0 k1 k2 k3 g0 g1 g2 g3 q0 q1 q2 q3 f1 f2 f3 HX HX4 HO HB2
  generalize ((w1.setCell ⟨w.heap.size + 1, 1, none⟩ (.int .i64 (n : Int))).setCell ⟨w.heap.size + 1, 2, none⟩ (.int .i64 (v0 + ts.length))).setCell ⟨w.heap.size + 1, 3, none⟩ (.int .i64 0) = W3 at *
  have h0' : W3.heap[w.heap.size]? = some (.cells [.slice none 0 0, .int .i64 0, .int .i64 0, .int .i64 0].toArray 106 (0, 0)) := h0
  have h7 := puts_all h0' [.slice A' 1 c', .int .i64 (n : Int), .int .i64 (v0 + ts.length), .int .i64 0] rfl
  have t6 := puts_tch w.heap.size [.slice A' 1 c', .int .i64 (n : Int), .int .i64 (v0 + ts.length), .int .i64 0] 0 W3
  have t7 : Below w.heap.size w (puts W3 w.heap.size 0 [.slice A' 1 c', .int .i64 (n : Int), .int .i64 (v0 + ts.length), .int .i64 0]) := hb3.trans (t6.below hb3.size (fun i hi => Nat.le_of_eq hi.symm))
  have hown := Owns_tch ho3 t6 (fun k hk e => Owns_ne ho3 h0 (by decide) k hk e)
  have hres := run_loadVar_row _ w.heap.size 106 106 _ _ _ h7 Tryz.underlying106 rfl (by kernel_rfl)
  simp only [puts, Nat.reduceAdd, Nat.zero_add] at hres t7 hown
  refine bodyPost_ret (results_c (p := 4) (ty := 106) rfl _ _ w.heap.size _ rfl hres) rfl ?_
  exact ⟨t7, A', c', rfl, hown⟩
end Go.Proofs.YtciikcmiiebfpaaGreatDoor
