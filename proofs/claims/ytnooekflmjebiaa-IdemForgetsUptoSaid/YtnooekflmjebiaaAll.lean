/- The walk of All. -/
import Derived.Test.YtnooekflmjebiaaCols
namespace Go.Proofs.Ytnooekflmjebiaa
open Go Go.RowKit Go.Proofs.YtnooekflmjebiaaW.PrintWords Go.Proofs.Ytnooekflmjebiaa.PIdemPlays
set_option linter.unusedVariables false

/-- What All tells of a producer. -/
def kn (g : Int → Option (Int × List Mk)) (x : Int) : S52 := match g x with
  | some (e, ms) => ⟨x, e, ms.map Mk.seq, ms.map Mk.count, ms.map Mk.base⟩
  | none => z52

/-- A row of numbers of the call's own, read. -/
theorem own_ints {w : World} {B : Nat} {v : Value} {ks : List Int} {e : TypeId} (h : w.ownsRow B e 1 v ks.length (ks.map encZ)) :
    ∃ A cap, v = .slice A ks.length cap ∧ ∀ i x, ks[i]? = some x → ∃ gb, A = some ⟨gb, 0, none⟩ ∧ gb < w.heap.size ∧ w.cell? ⟨gb, i, none⟩ = some (.int .i64 x) := by
  rcases h.2 with ⟨rfl, h0⟩ | ⟨g, cap, cur, rfl, hg, hh, h1, h2, h3, h4⟩
  · refine ⟨none, 0, by rw [h0], fun i x hx => ?_⟩
    have := (List.getElem?_eq_some_iff.1 hx).1
    omega
  · refine ⟨_, cap, rfl, fun i x hx => ⟨g, rfl, (Array.getElem?_eq_some_iff.1 hh).1, ?_⟩⟩
    have hi := (List.getElem?_eq_some_iff.1 hx).1
    rw [cell_of_row w g i cur e (0, 0) hh]
    have ht : cur.toList.take (ks.length * 1) = ks.map encZ := h4
    rw [Nat.mul_one] at ht
    have h5 : (cur.toList.take ks.length)[i]? = (ks.map encZ)[i]? := by rw [ht]
    rw [List.getElem?_take_of_lt hi] at h5
    rw [← Array.getElem?_toList, h5]
    simp [hx]

set_option maxRecDepth 100000 in
set_option maxHeartbeats 4000000 in
theorem all_any (t b n : Nat) (g : Int → Option (Int × List Mk)) (w : World) (h : Tab w t b n g) (hn : n * 88 ≤ 140737488355328) :
    Calls Try.prog 16 #[.pointer (some ⟨t, 0, none⟩)] w fun e w' => ∃ (v : Value) (ks : List Int), e = .returned v ∧ Asc ks ∧ (∀ x, x ∈ ks ↔ (g x).isSome = true) ∧ ks.length ≤ n ∧
      Kd.S k52 52 w' w.heap.size (fun _ => True) v (ks.map (kn g)) ∧ Below w.heap.size w w' := by
  have HTAB := Lib.hid h
  obtain ⟨f, hT, hg, hf⟩ := h
  have hfs : ∀ x, (f x).isSome = (g x).isSome := fun x => by
    cases hgx : g x with
    | none => rw [(hf x).1 hgx]; rfl
    | some m => obtain ⟨v, hv, _⟩ := (hf x).2 m hgx; rw [hv]; rfl
  have c0 := hT.c
  have hlt := hT.lt
  have HS := Lib.hid (sorted_any b n f w hT.mp (by omega))
  have HG := Lib.hid hg
  have HF := Lib.hid hf
  have HFS := Lib.hid hfs
  have HT := Lib.hid hT
  clear hT hg hf hfs
  go_enter Try.func16, Try.ntmps16
  go_wp2_with (first
    | (go_at_call 29; refine (keys_any b _).mono ?_; rintro e w' ⟨rfl, rfl⟩)
    | (go_at_call 33; refine HS.out.mono ?_; rintro e w2 ⟨v, ks, rfl, hasc, hmem, hlen, hrow, hb2⟩; obtain ⟨A, cap, rfl, hA⟩ := own_ints hrow; have HASC := Lib.hid hasc; have HMEM := Lib.hid hmem; have HA := Lib.hid hA; have HB2 := Lib.hid hb2; clear hasc hmem hrow hb2 hA))
  have hB2s : w.heap.size + 1 ≤ w2.heap.size := by have := HB2.out.size; rw [World.size_alloc] at this; exact this
  have HBW : Hid (Below w.heap.size w w2) := ((Below.refl w.heap.size w).alloc (Nat.le_refl _) _).trans (HB2.out.mono (Nat.le_succ _))
  have HTAB2 := Lib.hid (show Tab w2 t b n g from HTAB.out.below HBW.out)
  obtain ⟨len, hl⟩ : ∃ len, len = ks.length := ⟨_, rfl⟩
  have HL := Lib.hid hl
  rw [← hl] at hlen ⊢
  clear hl
  go_loopw [3, 17] (fun vo i wr => ∃ k : Nat, k ≤ len ∧ i = .int .i64 k ∧ Hid (Kd.S k52 52 wr w2.heap.size (fun _ => True) vo ((ks.take k).map (kn g))) ∧ Hid (Below w2.heap.size w2 wr)) (fun _ i _ => len - (intOf i).toNat)
  case atStart => exact ⟨0, Nat.zero_le _, rfl, Kd.S_nil _ _ _ _ _, Below.refl _ _⟩
  case round =>
    rename World => wo
    obtain ⟨k, hk, rfl, HOUT, HBR⟩ := hrel
    by_cases hlt2 : k < len
    · obtain ⟨x, hx⟩ : ∃ x, ks[k]? = some x := ⟨_, List.getElem?_eq_getElem (by have := HL.out; omega)⟩
      obtain ⟨gb, hgb, hgbl, hcell⟩ := HA.out k x hx
      subst hgb
      have hgs : (g x).isSome = true := by
        rw [← HFS.out, ← HMEM.out]
        exact List.mem_of_getElem? hx
      obtain ⟨m, hm⟩ := Option.isSome_iff_exists.1 hgs
      obtain ⟨e, ms⟩ := m
      obtain ⟨v0, hv0, hel⟩ := (HF.out x).2 _ hm
      obtain ⟨hx0, hx1, hok0, hok01, hok1, hok2, hok3⟩ := HG.out x _ hm
      have hbr := HBR.out
      have c1 : wo.cell? ⟨gb, k, none⟩ = some (.int .i64 x) := (hbr.cell (p := ⟨gb, k, none⟩) hgbl).trans hcell
      have hb0 := HBW.out.size
      have hBwo := (HBW.out.trans (hbr.mono (by omega)))
      have c2 : wo.cell? ⟨t, 0, none⟩ = some (.map (some b)) := (hBwo.cell (p := ⟨t, 0, none⟩) hlt.1).trans c0
      have HMP := Lib.hid (show Mp wo b n f from HT.out.mp.below hBwo)
      obtain ⟨go, gof, gcap, rfl, ⟨gcs, hgcs⟩, hat⟩ := hel.below hBwo
      have hgol : go < wo.heap.size := (Array.getElem?_eq_some_iff.1 hgcs).1
      clear hgcs
      have HAT := Lib.hid hat
      have HM := Lib.hid hm
      have HX := Lib.hid hx
      have HV := Lib.hid (show (f x).getD zmem = .agg #[.int .i16 e, .slice (some ⟨go, gof, none⟩) ms.length gcap] by rw [hv0]; rfl)
      have hwf : wf64 x := ⟨by omega, hx1⟩
      have HOK := Lib.hid hok3
      have hrs := hbr.size
      have HBO := Lib.hid hBwo
      clear hgs hv0 hel hbr hcell hBwo hat hm hx hok0 hok01 hok3 c0
      obtain ⟨L, hL⟩ : ∃ L, L = ms.length := ⟨_, rfl⟩
      have HLM := Lib.hid hL
      simp only at hok1 hok2
      rw [← hL] at hok1 hok2
      rw [← hL] at HV
      clear hL
      go_wp2_with (at_lookup; refine look_at _ rfl _ _ rfl (zeroE _) b n f rfl HMP.out x hwf rfl ?_; rw [HV.out])
      have HB7 : Hid (Below wo.heap.size wo ((wo.alloc (.cells #[.int .i16 e, .slice (some ⟨go, gof, none⟩) L gcap] 60)).alloc (.cells #[.int .i64 x, .int .i16 e, .slice none 0 0, .slice none 0 0, .slice none 0 0] 52))) :=
        ((Below.refl _ _).alloc (Nat.le_refl _) _).alloc (by simp) _
      have BK0 : Hid (((wo.alloc (.cells #[.int .i16 e, .slice (some ⟨go, gof, none⟩) L gcap] 60)).alloc (.cells #[.int .i64 x, .int .i16 e, .slice none 0 0, .slice none 0 0, .slice none 0 0] 52)).heap[wo.heap.size + 1]? = some (.cells #[.int .i64 x, .int .i16 e, .slice none 0 0, .slice none 0 0, .slice none 0 0] 52 (0, 0))) := by
        have := heap_alloc_new (wo.alloc (.cells #[.int .i16 e, .slice (some ⟨go, gof, none⟩) L gcap] 60)) (.cells #[.int .i64 x, .int .i16 e, .slice none 0 0, .slice none 0 0, .slice none 0 0] 52)
        rw [World.size_alloc] at this
        exact this
      generalize (wo.alloc (.cells #[.int .i16 e, .slice (some ⟨go, gof, none⟩) L gcap] 60)).alloc (.cells #[.int .i64 x, .int .i16 e, .slice none 0 0, .slice none 0 0, .slice none 0 0] 52) = W7 at HB7 BK0 ⊢
      go_loopw [34] (fun j wq => ∃ (i : Nat) (u2 u3 u4 : Value), i ≤ L ∧ j = .int .i64 i ∧ Hid ((Kd.int .i32).R 21 wq wo.heap.size (fun _ => True) u2 ((ms.take i).map Mk.seq)) ∧ Hid ((Kd.int .i64).R 3 wq wo.heap.size (fun _ => True) u3 ((ms.take i).map Mk.count)) ∧
          Hid ((Kd.int .i64).R 2 wq wo.heap.size (fun _ => True) u4 ((ms.take i).map Mk.base)) ∧ Hid (wq.heap[wo.heap.size + 1]? = some (.cells #[.int .i64 x, .int .i16 e, u2, u3, u4] 52 (0, 0))) ∧ Hid (Below wo.heap.size wo wq)) (fun j _ => L - (intOf j).toNat)
      case atStart => exact ⟨0, _, _, _, Nat.zero_le _, rfl, Kd.R_nil _ _ _ _ _, Kd.R_nil _ _ _ _ _, Kd.R_nil _ _ _ _ _, BK0.out, HB7.out⟩
      case round =>
        obtain ⟨i, u2, u3, u4, hi, rfl, HU2, HU3, HU4, BK7, HBQ⟩ := hrel
        by_cases hil : i < L
        · obtain ⟨m, hm⟩ : ∃ m, ms[i]? = some m := ⟨_, List.getElem?_eq_getElem (by have := HLM.out; omega)⟩
          have hat := HAT.out i m hm
          have k0 := (HBQ.out.cell (p := ⟨go, gof + i * 3, none⟩) hgol).trans hat.c0
          have k1 := (HBQ.out.cell (p := ⟨go, gof + i * 3 + 1, none⟩) hgol).trans hat.c1
          have k2 := (HBQ.out.cell (p := ⟨go, gof + i * 3 + 2, none⟩) hgol).trans hat.c2
          have d2 : wr.cell? ⟨wo.heap.size + 1, 2, none⟩ = some u2 := (blk_cell BK7.out 2).trans rfl
          have d3 : wr.cell? ⟨wo.heap.size + 1, 3, none⟩ = some u3 := (blk_cell BK7.out 3).trans rfl
          have d4 : wr.cell? ⟨wo.heap.size + 1, 4, none⟩ = some u4 := (blk_cell BK7.out 4).trans rfl
          have hz7 : wo.heap.size + 1 < wr.heap.size := blk_lt BK7.out
          have HMI := Lib.hid hm
          have HWO := Lib.hid HBQ.out.size
          clear hat hm
          have HC : Hid (Cols wo (wo.heap.size + 1) wr.heap.size x e m u2 u3 u4 ((ms.take i).map Mk.seq) ((ms.take i).map Mk.count) ((ms.take i).map Mk.base) (wr.alloc (.cells #[.int .i32 m.seq, .int .i64 m.count, .int .i64 m.base] 66))) :=
            ⟨Kd.R_alloc HU2.out _, Kd.R_alloc HU3.out _, Kd.R_alloc HU4.out _, blk_alloc BK7.out _, heap_alloc_new _ _, HBQ.out.alloc HBQ.out.size _, Nat.le_succ _, hz7⟩
          clear HU2 HU3 HU4 BK7 HBQ
          have hlen2 : ((ms.take i).map Mk.seq).length ≤ 5 := by rw [List.length_map]; exact Nat.le_trans (List.length_take_le _ _) (by omega)
          have hlen3 : ((ms.take i).map Mk.count).length ≤ 5 := by rw [List.length_map]; exact Nat.le_trans (List.length_take_le _ _) (by omega)
          have hlen4 : ((ms.take i).map Mk.base).length ≤ 5 := by rw [List.length_map]; exact Nat.le_trans (List.length_take_le _ _) (by omega)
          have HL2 := Lib.hid hlen2
          have HL3 := Lib.hid hlen3
          have HL4 := Lib.hid hlen4
          clear hlen2 hlen3 hlen4
          go_wp2_with (first
            | (at_builtin; refine Kd.R_append (Kd.int .i32) (w0 := wo) wo.heap.size rfl _ _ 27 21 (.int .i32 0) 4 rfl Try.underlying27 info21 rfl (by decide) (by decide) u2 _ m.seq [.int .i32 m.seq] (fun _ => True) (fun _ => False) rfl (by rw [World.size_alloc]; rfl) rfl (fun _ h => h.elim) (fun _ _ => trivial) HC.out.r2 HC.out.bl HC.out.bl.size (by have := HL2.out; omega) ?_; intro v2 w3 hr hb hg hat; obtain ⟨n2, A2, q2, rfl⟩ : ∃ n A q, v2 = .slice A n q := (by obtain ⟨A_, q_, e_⟩ := Kd.R_slice hr; exact ⟨_, A_, q_, e_⟩); obtain ⟨⟨⟨d22, d23, d24⟩, ⟨z22, z23, z24⟩, ⟨e20, e21, e22⟩, h72, h92⟩, hc⟩ := HC.out.app2 hr hb hg; have HN := Lib.hid hc; clear HC; have HC := HN; clear HN hr hb hg hat hc)
            | (at_builtin; refine Kd.R_append (Kd.int .i64) (w0 := wo) wo.heap.size rfl _ _ 23 3 (.int .i64 0) 8 rfl Try.underlying23 info3 rfl (by decide) (by decide) u3 _ m.count [.int .i64 m.count] (fun _ => True) (fun _ => False) rfl (by rw [size_set]; rfl) rfl (fun _ h => h.elim) (fun _ _ => trivial) HC.out.r3 HC.out.bl HC.out.bl.size (by have := HL3.out; omega) ?_; intro v3 w4 hr hb hg hat; obtain ⟨n3, A3, q3, rfl⟩ : ∃ n A q, v3 = .slice A n q := (by obtain ⟨A_, q_, e_⟩ := Kd.R_slice hr; exact ⟨_, A_, q_, e_⟩); obtain ⟨⟨⟨d32, d33, d34⟩, ⟨z32, z33, z34⟩, ⟨e30, e31, e32⟩, h73, h93⟩, hc⟩ := HC.out.app3 hr hb hg; have HN := Lib.hid hc; clear HC; have HC := HN; clear HN hr hb hg hat hc)
            | (at_builtin; refine Kd.R_append (Kd.int .i64) (w0 := wo) wo.heap.size rfl _ _ 50 2 (.int .i64 0) 8 rfl Try.underlying50 info2 rfl (by decide) (by decide) u4 _ m.base [.int .i64 m.base] (fun _ => True) (fun _ => False) rfl (by rw [size_set]; rfl) rfl (fun _ h => h.elim) (fun _ _ => trivial) HC.out.r4 HC.out.bl HC.out.bl.size (by have := HL4.out; omega) ?_; intro v4 w5 hr hb hg hat; obtain ⟨n4, A4, q4, rfl⟩ : ∃ n A q, v4 = .slice A n q := (by obtain ⟨A_, q_, e_⟩ := Kd.R_slice hr; exact ⟨_, A_, q_, e_⟩); obtain ⟨⟨⟨d42, d43, d44⟩, ⟨z42, z43, z44⟩, ⟨e40, e41, e42⟩, h74, h94⟩, hc⟩ := HC.out.app4 hr hb hg; have HN := Lib.hid hc; clear HC; have HC := HN; clear HN hr hb hg hat hc))
          have htk : ∀ {β : Type} (fn : Mk → β), (ms.take (i + 1)).map fn = (ms.take i).map fn ++ [fn m] := fun fn => by
            rw [List.take_add_one, List.map_append, HMI.out]
            rfl
          go_roundw
          case rel => exact ⟨i + 1, _, _, _, by omega, by go_num, by rw [htk]; exact HC.out.r2, by rw [htk]; exact HC.out.r3, by rw [htk]; exact HC.out.r4, HC.out.k7, HC.out.bl⟩
          case measure => simp [intOf]; omega
        · obtain rfl : i = L := by omega
          have htk : ms.take i = ms := by rw [HLM.out]; exact List.take_length
          rw [htk] at HU2 HU3 HU4
          clear htk
          have hkn : kn g x = ⟨x, e, ms.map Mk.seq, ms.map Mk.count, ms.map Mk.base⟩ := by unfold kn; rw [HM.out]
          have hvo := Kd.S_lt HOUT.out
          have hlo : w2.heap.size ≤ wo.heap.size := HBR.out.size
          have hM : k52.M wr w2.heap.size (fun j => wo.heap.size ≤ j) (kn g x) [.int .i64 x, .int .i16 e, u2, u3, u4] := by
            rw [hkn]
            exact k52_mkM wr w2.heap.size _ _ (Kd.R_lower (Kd.R_mono (Kd.R_bound HU2.out) (fun j hj => hj.2.1)) hlo) (Kd.R_lower (Kd.R_mono (Kd.R_bound HU3.out) (fun j hj => hj.2.1)) hlo) (Kd.R_lower (Kd.R_mono (Kd.R_bound HU4.out) (fun j hj => hj.2.1)) hlo)
          have hO := Kd.S_mono (ok' := fun j => True ∧ ¬ wo.heap.size ≤ j) (Kd.S_old HOUT.out HBQ.out) (fun j hj => ⟨trivial, Nat.not_le.2 hj.2⟩)
          have hBB : Below w2.heap.size w2 wr := HBR.out.trans (HBQ.out.mono hlo)
          obtain ⟨n2, A2, q2, rfl⟩ : ∃ n A q, u2 = .slice A n q := by obtain ⟨A_, q_, e_⟩ := Kd.R_slice HU2.out; exact ⟨_, A_, q_, e_⟩
          obtain ⟨n3, A3, q3, rfl⟩ : ∃ n A q, u3 = .slice A n q := by obtain ⟨A_, q_, e_⟩ := Kd.R_slice HU3.out; exact ⟨_, A_, q_, e_⟩
          obtain ⟨n4, A4, q4, rfl⟩ : ∃ n A q, u4 = .slice A n q := by obtain ⟨A_, q_, e_⟩ := Kd.R_slice HU4.out; exact ⟨_, A_, q_, e_⟩
          have d0 : wr.cell? ⟨wo.heap.size + 1, 0, none⟩ = some (.int .i64 x) := (blk_cell BK7.out 0).trans rfl
          have d1 : wr.cell? ⟨wo.heap.size + 1, 1, none⟩ = some (.int .i16 e) := (blk_cell BK7.out 1).trans rfl
          have d2 : wr.cell? ⟨wo.heap.size + 1, 2, none⟩ = some (.slice A2 n2 q2) := (blk_cell BK7.out 2).trans rfl
          have d3 : wr.cell? ⟨wo.heap.size + 1, 3, none⟩ = some (.slice A3 n3 q3) := (blk_cell BK7.out 3).trans rfl
          have d4 : wr.cell? ⟨wo.heap.size + 1, 4, none⟩ = some (.slice A4 n4 q4) := (blk_cell BK7.out 4).trans rfl
          have hxl : ((ks.take k).map (kn g)).length = k := by rw [List.length_map, List.length_take]; have := HL.out; omega
          have HMM := Lib.hid hM
          have HOO := Lib.hid hO
          have HBB := Lib.hid hBB
          have HVO := Lib.hid hvo
          have HXL := Lib.hid hxl
          clear hM hO hBB hvo hxl hkn
          go_wp2_with (at_builtin; refine Kd.S_append k52 (w0 := w2) w2.heap.size rfl _ _ 46 52 (.agg #[.int .i64 0, .int .i16 0, .slice none 0 0, .slice none 0 0, .slice none 0 0]) 88 rfl Try.underlying46 info52 rfl (by decide) (by decide) u3 _ (kn g x) [.int .i64 x, .int .i16 e, .slice A2 n2 q2, .slice A3 n3 q3, .slice A4 n4 q4] (fun _ => True) (fun j => wo.heap.size ≤ j) rfl rfl HMM.out (fun j hj => ⟨trivial, fun he => Nat.not_lt.2 hj (HVO.out j he.symm)⟩) (fun _ _ => trivial) HOO.out HBB.out HBB.out.size (by rw [HXL.out]; omega) ?_; intro v1 w1 hr hb hg hat; have HR := Lib.hid hr; have HB1 := Lib.hid hb; clear hr hb hg hat)
          go_roundw
          case rel => exact ⟨k + 1, by omega, by go_num, by rw [show (ks.take (k + 1)).map (kn g) = (ks.take k).map (kn g) ++ [kn g x] by rw [List.take_add_one, List.map_append, HX.out]; rfl]; exact HR.out, HB1.out⟩
          case measure => simp [intOf]; omega
    · obtain rfl : k = len := by omega
      have htk : ks.take k = ks := by rw [HL.out]; exact List.take_length
      rw [htk] at HOUT
      go_wp2_with fail
      go_ret
      exact ⟨_, ks, rfl, HASC.out, fun y => by rw [HMEM.out, HFS.out], by rw [← HL.out]; exact hlen, Kd.S_lower HOUT.out HBW.out.size, HBW.out.trans (HBR.out.mono HBW.out.size)⟩
end Go.Proofs.Ytnooekflmjebiaa
