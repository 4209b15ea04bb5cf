/- TopK, TopO as one text (a claim holds at most 60 files). -/
import Derived.Test.YtciikcmiiebfpaaGreatDoorRefV
import Derived.Test.YtciikcmiiebfpaaGreatDoorTopM
import Derived.Test.YtciikcmiiebfpaaGreatDoorPTopicsGetsx16
import Derived.Deep.CutRange

/- TopK -/
section
/- Rows of topics: as the printed word has them; slices.Clone; the law's twin. -/
namespace Go.Proofs.YtciikcmiiebfpaaGreatDoor
open Go Go.RowKit Go.Maps Go.Proofs.YtciikcmiiebfpaaGreatDoorW.PrintWords Go.Proofs.YtciikcmiiebfpaaGreatDoor.PTopicsGets Go.Proofs.YtciikcmiiebfpaaGreatDoorW.PrintMore
set_option linter.unusedVariables false
set_option linter.unusedSimpArgs false

abbrev SC := S48
def SC.conf (x : SC) : Conf := ⟨x.f0, x.f1⟩
def confs (l : List SC) : List Conf := l.map SC.conf
theorem crow_of {w : World} {A : Option Addr} {n : Nat} {l : List SC} (h : Kd.C k48 w A n l) : CRow w A n (confs l) := by
  have hn : n = l.length := (Kd.C_len h).symm
  refine ⟨by unfold confs; rw [List.length_map]; exact hn, fun i c hi => ?_⟩
  unfold confs at hi
  rw [List.getElem?_map] at hi
  obtain ⟨x, hx, rfl⟩ : ∃ x, l[i]? = some x ∧ x.conf = c := by
    cases hl : l[i]? with
    | none => rw [hl] at hi; cases hi
    | some x => rw [hl] at hi; exact ⟨x, rfl, Option.some.inj hi⟩
  have hlt := (List.getElem?_eq_some_iff.1 hx).1
  obtain ⟨ad, rfl, h0, h1⟩ := at_T48 h (i : Int) (by omega) (by omega)
  have hr : rd_T48 l (i : Int) = x := by unfold rd_T48; rw [Int.toNat_natCast, List.getD_eq_getElem?_getD, hx, Option.getD_some]
  rw [hr, Int.toNat_natCast] at h0 h1
  obtain ⟨b, o, sp⟩ := ad
  have hspot : sp = none := by
    obtain ⟨ad, e, g0, _⟩ := at_T48 h 0 (by decide) (by omega)
    have e' := Option.some.inj e
    subst e'
    simpa [Addr.add] using World.cell?_spot g0
  subst hspot
  rw [WideShapes.add_plain] at h0 h1
  exact ⟨b, o, rfl, World.block_lt_of_cell? w _ h0, h0, h1⟩
theorem info_k : (Tryz.prog.info? 48).map (fun i => (i.zero, i.size, i.bytes)) = some (some (.agg #[.string ⟨#[]⟩, .int .i64 0]), 2, 24) := by kernel_rfl
set_option maxRecDepth 100000 in
theorem clone_conf (A : Option Addr) (n c : Nat) (l : List SC) (w : World) (hC : k48.C w A n l) (hl : n * 24 ≤ 140737488355328) :
    Calls Tryz.prog 18 #[.slice A n c] w fun r w' => (∃ A' c', r = .returned (.slice A' n c') ∧ k48.C w' A' n l ∧ ∀ b, (Value.slice A' n c').ownBlock = some b → w.heap.size ≤ b) ∧ Below w.heap.size w w' := by
  have qS : ∀ (W : World) (a : Option Addr) (n k : Nat), (binOp .eql 22 (.slice a n k) (.slice none 0 0)).run Tryz.prog W = .ok (.bool a.isNone) W := fun W a n k => Lib.run_eql_slice_nil W _ _ a n k 0 0 Tryz.underlying22
  cases A with
  | none =>
    obtain ⟨rfl, rfl⟩ := C_short hC
    clear hC hl
    go_enter Tryz.func18, Tryz.ntmps18
    go_wp2_with fail
    go_ret
    exact ⟨⟨_, _, rfl, Kd.C_nil _ _, fun b h => by cases h⟩, Below.refl _ _⟩
  | some a =>
    have hn : n = l.length := (Kd.C_len hC).symm
    have HC := Lib.hid hC
    have HL := Lib.hid hl
    have HN := Lib.hid hn
    have HB : Hid (Below w.heap.size w (w.alloc (.cells #[] 48))) := (Below.refl w.heap.size w).alloc (Nat.le_refl _) _
    have HE := Lib.hid (R_empty (k48) 48 w (fun b => w.heap.size ≤ b) (Nat.le_refl _))
    clear hC hl hn
    go_enter Tryz.func18, Tryz.ntmps18
    go_wp2_with (at_builtin; refine Kd.R_append_rows (k48) (w0 := w) 0 rfl _ _ 22 48 (.agg #[.string ⟨#[]⟩, .int .i64 0]) 24 rfl Tryz.underlying22 info_k rfl (by decide) (by decide) _ [] l (some a) n c (fun b => w.heap.size ≤ b) (fun _ => False) rfl rfl HE.out (Kd.C_below HC.out HB.out) (fun x cs h => by obtain rfl := k48_open h; exact k48_mkM _ _ _ x) (fun _ h => h.elim) (fun b hb => Nat.le_trans HB.out.size hb) (HB.out.mono (Nat.zero_le _)) (Nat.zero_le _) (by rw [List.length_nil, Nat.zero_add]; exact HL.out) ?_; intro v1 w1 hr hb hg hat; have HR := Lib.hid hr; have HB1 : Hid (Below w.heap.size w w1) := grown_new HB.out hg (fun k hk => Nat.le_of_eq (Option.some.inj hk)); clear hr hb hg hat)
    go_ret
    obtain ⟨A9, c9, e9⟩ := Kd.R_slice HR.out
    rw [List.nil_append, ← HN.out] at e9
    have hr := HR.out
    rw [e9, List.nil_append] at hr
    refine ⟨⟨A9, c9, by rw [← e9]; rfl, ?_, hr.1⟩, HB1.out⟩
    have := (Kd.R_reads' hr).2.2
    rw [← HN.out] at this
    exact this
theorem twin_l : ∀ (k : Nat) (l : List SC) (i : Nat), l.length ≤ 5864062014800 → l.length < k + i → i ≤ l.length → leatlaw23_twin.l0 k (l.take i) l l.length i = some l
  | 0, l, i, hb, hk, hi => by omega
  | k + 1, l, i, hb, hk, hi => by
    unfold leatlaw23_twin.l0
    by_cases h : i < l.length
    · have hr : rd_T48 l (i : Int) = l[i] := by unfold rd_T48; rw [Int.toNat_natCast, List.getD_eq_getElem?_getD, List.getElem?_eq_getElem h, Option.getD_some]
      rw [if_pos (by omega), if_pos (by omega), if_pos (by omega), if_pos (by rw [List.length_take]; omega), hr, w64F (by omega)]
      rw [show l.take i ++ [(⟨l[i].f0, l[i].f1⟩ : SC)] = l.take (i + 1) from (List.take_append_getElem h)]
      exact twin_l k l (i + 1) hb (by omega) h
    · rw [if_neg (by omega), List.take_of_length_le (by omega)]
theorem twin_any (w : World) (A : Option Addr) (n c : Nat) (l : List SC) (hC : k48.C w A n l) (hc : n ≤ c) (hl : n ≤ 5864062014800) :
    Calls Tryz.prog 7 #[.slice A n c] w fun r w' => (∃ A' c', r = .returned (.slice A' n c') ∧ n ≤ c' ∧ k48.C w' A' n l) ∧ Below w.heap.size w w' := by
  obtain rfl : n = l.length := (Kd.C_len hC).symm
  refine (leatlaw23_twin.calls (l.length + 1) A c l l w hC hc (by unfold leatlaw23_twin.f; have := twin_l (l.length + 1) l 0 hl (by omega) (Nat.zero_le _); rw [List.take_zero] at this; exact this)).mono ?_
  rintro e w' ⟨v, rfl, hr, hb⟩
  obtain ⟨A', c', rfl⟩ := Kd.R_slice hr
  obtain ⟨_, h2, h3⟩ := Kd.R_reads' hr
  exact ⟨⟨A', c', rfl, h2, h3⟩, hb⟩
end Go.Proofs.YtciikcmiiebfpaaGreatDoor
end

/- TopO -/
section
/- topics.Open over a disk without files. -/
namespace Go.Proofs.YtciikcmiiebfpaaGreatDoor
open Go Go.RowKit Go.Maps Go.Proofs.YtciikcmiiebfpaaGreatDoorW.PrintWords Go.Proofs.YtciikcmiiebfpaaGreatDoor.PTopicsGets Go.Proofs.YtciikcmiiebfpaaGreatDoorW.PrintMore
set_option linter.unusedVariables false
set_option linter.unusedSimpArgs false

theorem info_plc : (Tryz.prog.info? 67).map (fun i => (i.zero, i.size, i.bytes)) = some (some (.agg #[.string ⟨#[]⟩, .int .i32 0]), 2, 24) := by kernel_rfl
/-- Topics with fresh logs; all made since w. -/
structure ToSt (w W : World) (d tb m : Nat) (pls : List Pl) (cv ov : Value) (n : Nat) (ys : List Value) : Prop where
  bt : TopB W tb cv ov m
  pm : PM W m (mapOf pls)
  ow : Ix.Owns W w.heap.size 67 2 ov n ys
  lg : ∀ x ∈ pls, (∃ t, LogB W x.2.2 d (Lb.dirS x.1 x.2.1) 100 (.slice none 0 0) t false) ∧ w.heap.size ≤ x.2.2
  bl : Below w.heap.size w W
  tg : w.heap.size ≤ tb
  mg : w.heap.size ≤ m
section
variable {w W W' : World} {d tb m n : Nat} {pls : List Pl} {cv ov : Value} {ys : List Value}
theorem ToSt.below (h : ToSt w W d tb m pls cv ov n ys) (hb : Below W.heap.size W W') : ToSt w W' d tb m pls cv ov n ys :=
  ⟨blk_below h.bt hb, h.pm.below hb, Owns_below h.ow hb, fun x hx => ⟨(h.lg x hx).1.imp fun t ht => ht.below hb, (h.lg x hx).2⟩, h.bl.trans (hb.mono h.bl.size), h.tg, h.mg⟩
theorem ToSt.tm (h : ToSt w W d tb m pls cv ov n ys) : tb ≠ m := fun e => by
  obtain ⟨es, c, hm⟩ := h.pm.is_map
  have := h.bt
  unfold TopB at this
  rw [e, hm] at this
  cases this
/-- The order's row has grown. -/
theorem ToSt.ord (h : ToSt w W d tb m pls cv ov n ys) {ov' : Value} {zs : List Value} (ho : Ix.Owns W' w.heap.size 67 2 ov' (n + 1) zs) (ht : Tch (fun k => ov.ownBlock = some k) W W') :
    ToSt w (W'.setCell ⟨tb, 1, none⟩ ov') d tb m pls cv ov' (n + 1) zs := by
  have hrt := (ht.block _ (blk_lt h.bt) (fun e => Owns_ne h.ow h.bt (by decide) _ e rfl)).trans h.bt
  have hpm := h.pm.kept (ht.block m h.pm.lt (fun e => by
    obtain ⟨c1, e1⟩ := h.ow.block_type m e
    obtain ⟨es, c, hm⟩ := h.pm.is_map
    rw [hm] at e1
    cases e1))
  have t1 := Tch.set (S := fun k => k = tb) W' ⟨tb, 1, none⟩ ov' rfl
  have hbl : Below w.heap.size w W' := h.bl.trans (ht.below h.bl.size (fun k hk => (Owns_ge h.ow k hk)))
  refine ⟨blk_put hrt 1 _ rfl, hpm.kept (t1.block m hpm.lt (by show ¬ _ = _; exact fun e => h.tm e.symm)), Owns_tch ho t1 (fun k hk e => Owns_ne ho hrt (by decide) k hk e), fun x hx => ⟨?_, (h.lg x hx).2⟩, hbl.trans (t1.below hbl.size (fun k hk => by have : k = tb := hk; have := h.tg; omega)), h.tg, h.mg⟩
  obtain ⟨t, hlx⟩ := (h.lg x hx).1
  have h1 := (ht.block _ (blk_lt hlx) (fun e => Owns_ne h.ow hlx (by decide) _ e rfl)).trans hlx
  exact ⟨t, (t1.block _ (blk_lt h1) (blk_ne h1 hrt (by decide))).trans h1⟩
/-- A log is laid in the map. -/
theorem ToSt.put (h : ToSt w W d tb m pls cv ov n ys) {x : Pl} (hm : PM W' m (put (mapOf pls) (pk x.1 x.2.1) x.2.2)) (hg : W.grownBy W' (some m)) (hx : (∃ t, LogB W x.2.2 d (Lb.dirS x.1 x.2.1) 100 (.slice none 0 0) t false) ∧ w.heap.size ≤ x.2.2) :
    ToSt w W' d tb m (pls ++ [x]) cv ov n ys := by
  have ht : Tch (fun k => k = m) W W' := Tch.of_grown hg (fun k hk => (Option.some.inj hk).symm)
  obtain ⟨es, c, hmm⟩ := h.pm.is_map
  refine ⟨(ht.block _ (blk_lt h.bt) (by show ¬ _ = _; exact h.tm)).trans h.bt, by rw [mapOf_snoc]; exact hm, Owns_tch h.ow ht (fun k hk e => by
    obtain ⟨c1, e1⟩ := h.ow.block_type k hk
    have e' : k = m := e
    rw [e', hmm] at e1
    cases e1), fun y hy => ?_, h.bl.trans (ht.below h.bl.size (fun k hk => by have : k = m := hk; have := h.mg; omega)), h.tg, h.mg⟩
  have hl : (∃ t, LogB W y.2.2 d (Lb.dirS y.1 y.2.1) 100 (.slice none 0 0) t false) ∧ w.heap.size ≤ y.2.2 := by
    rcases List.mem_append.1 hy with hy | hy
    · exact h.lg y hy
    · obtain rfl := List.mem_singleton.1 hy
      exact hx
  obtain ⟨⟨t, h1⟩, h2⟩ := hl
  refine ⟨⟨t, (ht.block _ (blk_lt h1) (fun e => ?_)).trans h1⟩, h2⟩
  have e' : y.2.2 = m := e
  unfold LogB at h1
  rw [e', hmm] at h1
  cases h1
end
set_option maxRecDepth 100000 in
set_option maxHeartbeats 4000000 in
theorem topen_any (w : World) (A : Option Addr) (n c : Nat) (l : List SC) (hC : k48.C w A n l) (hnc : n ≤ c) (hn : n ≤ 5864062014800) (hok : ∀ x ∈ confs l, x.nm.size ≤ 140737488351232) (hl : Lb.LibOk w)
    (d N : Nat) (S : Nat → Prop) (k : Dk) (hD : Disk w d S k N) (hk : k.files = []) (ho : k.off = false) (hS : ∀ b, S b → b < w.heap.size) :
    Calls Tryz.prog 6 #[.pointer (some ⟨d, 0, none⟩), .slice A n c, .int .i64 100] w fun r w' => Below w.heap.size w w' ∧
      ((checkE (confs l) ≠ 0 ∧ r = .returned (.tuple #[.pointer none, .int .i64 (checkE (confs l))])) ∨
       (checkE (confs l) = 0 ∧ ∃ w2 tb m pls Ac cc ov ys, r = .returned (.tuple #[.pointer (some ⟨tb, 0, none⟩), .int .i64 0]) ∧ Below w.heap.size w w2 ∧ ToSt w2 w' d tb m pls (.slice Ac n cc) ov pls.length ys ∧ pls.map (fun x => (x.1, x.2.1)) = plAll (confs l) ∧ k48.C w2 Ac n l ∧ ∀ b, (Value.slice Ac n cc).ownBlock = some b → w.heap.size ≤ b)) := by
  have hmm := @run_makeMap Tryz.prog
  have HCR := Lib.hid (crow_of hC)
  have HCK := Lib.hid (check_any w A n c (confs l) HCR.out hnc (by omega) hok hl)
  have HC := Lib.hid hC
  have HOK := Lib.hid hok
  have HL := Lib.hid hl
  have HD := Lib.hid hD
  have HS := Lib.hid hS
  have HK := Lib.hid hk
  have HO := Lib.hid ho
  obtain ⟨cs, hcs⟩ : ∃ cs, cs = confs l := ⟨_, rfl⟩
  rw [← hcs] at HCR HCK HOK ⊢
  clear hC hok hl hD hS hk ho hcs
  by_cases he : checkE cs = 0
  · obtain ⟨h8, hgood⟩ := checkE_ok he
    have HE := Lib.hid he
    have HG := Lib.hid hgood
    have HN : Hid (n = cs.length) := HCR.out.1
    have H8 : Hid (n ≤ 8) := by show _ ≤ _; rw [HCR.out.1]; exact h8
    rw [he] at HCK
    clear he h8 hgood
    go_enter Tryz.func6, Tryz.ntmps6
    go_wp2_with fail
    refine HCK.out.mono ?_
    rintro r w1 ⟨rfl, hb1⟩
    have HB1 := Lib.hid hb1
    have HCL := Lib.hid (clone_conf A n c l w1 (Kd.C_below HC.out hb1) (by have := H8.out; omega))
    clear hb1 HCK
    go_wp2_with fail
    refine HCL.out.mono ?_
    rintro r w2 ⟨⟨Ac, cc, rfl, hCc, hCo⟩, hb2⟩
    have HB2 := Lib.hid (HB1.out.trans (hb2.mono HB1.out.size))
    have HCC := Lib.hid hCc
    have HCO : Hid (∀ b, (Value.slice Ac n cc).ownBlock = some b → w.heap.size ≤ b) := fun b hb => Nat.le_trans HB1.out.size (hCo b hb)
    have HST1 : Hid (ToSt w2 ((w2.alloc (.map #[] 0)).alloc (.cells #[.slice Ac n cc, .slice none 0 0, .map (some w2.heap.size)] 62)) d (w2.heap.size + 1) w2.heap.size [] (.slice Ac n cc) (.slice none 0 0) 0 []) := by
      have h1 : Below w2.heap.size w2 (w2.alloc (.map #[] 0)) := (Below.refl _ _).alloc (Nat.le_refl _) _
      have h3 := blk_new (w2.alloc (.map #[] 0)) (.cells #[.slice Ac n cc, .slice none 0 0, .map (some w2.heap.size)] 62)
      rw [World.size_alloc] at h3
      exact ⟨h3, (PM.made w2).below ((Below.refl _ _).alloc (Nat.le_refl _) _), Ix.Owns.nil _ _ _ _, fun x hx => (nomatch hx), h1.alloc h1.size _, by omega, Nat.le_refl _⟩
    clear hb2 hCc hCo HCL HB1
    go_wp2_with fail
    generalize (w2.alloc (.map #[] 0)).alloc (.cells #[.slice Ac n cc, .slice none 0 0, .map (some w2.heap.size)] 62) = W1 at *
    obtain ⟨tb, htb⟩ : ∃ tb, tb = w2.heap.size + 1 := ⟨_, rfl⟩
    obtain ⟨m, hm⟩ : ∃ m, m = w2.heap.size := ⟨_, rfl⟩
    have HST1 : Hid (ToSt w2 W1 d tb m [] (.slice Ac n cc) (.slice none 0 0) 0 []) := by rw [htb, hm]; exact HST1.out
    rw [← htb]
    have hle := H8.out
    clear htb hm
    go_loopw [11, 12, 13, 14, 15, 16, 29, 36] (fun _ _ _ _ _ _ iv _ wr => ∃ (i : Nat) (pls : List Pl) (ov : Value) (ys : List Value), i ≤ n ∧ iv = .int .i64 i ∧ Hid (ToSt w2 wr d tb m pls (.slice Ac n cc) ov pls.length ys) ∧ Hid (pls.map (fun x => (x.1, x.2.1)) = plAll (cs.take i))) (fun _ _ _ _ _ _ iv _ _ => n - (intOf iv).toNat)
    case atStart => exact ⟨0, [], _, _, Nat.zero_le _, rfl, HST1.out, rfl⟩
    case round =>
      clear HST1
      obtain ⟨i, pls, ov, ys, hi, rfl, HST, HPL⟩ := hrel
      by_cases hin : i < n
      · obtain ⟨x, hx⟩ : ∃ x, cs[i]? = some x := ⟨_, List.getElem?_eq_getElem (by have := HN.out; omega)⟩
        obtain ⟨b, o, rfl, hbl0, hc0, hc1⟩ := HCR.out.2 i x hx
        have hbw : Below w.heap.size w wr := HB2.out.trans (HST.out.bl.mono HB2.out.size)
        have hbl := Nat.lt_of_lt_of_le hbl0 hbw.size
        have k0 := (hbw.cell (p := ⟨b, o + i * 2, none⟩) hbl0).trans hc0
        have k1 := (hbw.cell (p := ⟨b, o + i * 2 + 1, none⟩) hbl0).trans hc1
        obtain ⟨hxt, hx1, hx16⟩ := HG.out x (List.mem_of_getElem? hx)
        have HPA := Lib.hid (plTo_all hx)
        have HXT := Lib.hid hxt
        have HXS := Lib.hid (HOK.out x (List.mem_of_getElem? hx))
        have hpl : (plAll (cs.take i)).length ≤ 128 := by
          have h1 := plAll_length (cs.take i) (fun x hx => (HG.out x (List.mem_of_mem_take hx)).2.2)
          rw [List.length_take] at h1
          omega
        have HPLN := Lib.hid hpl
        clear hbl0 hc0 hc1 hx hxt hpl hbw
        obtain ⟨nm, pt⟩ := x
        dsimp only at k0 k1 hx1 hx16 HPA HXT HXS
        obtain ⟨P, rfl⟩ := Int.eq_ofNat_of_zero_le (show 0 ≤ pt by omega)
        have hP1 : 1 ≤ P := by omega
        have hP16 : P ≤ 16 := by omega
        rw [Int.toNat_natCast] at HPA
        have hw32 : IntKind.i32.wrap (P : Int) = (P : Int) := by simp [IntKind.wrap, IntKind.bits, IntKind.signed]; omega
        clear hx1 hx16
        have hB3 : Below wr.heap.size wr (wr.alloc (.cells #[.string nm, .int .i64 (P : Int)] 48)) := (Below.refl _ _).alloc (Nat.le_refl _) _
        have HST3 := Lib.hid (HST.out.below hB3)
        have HBX : Hid ((wr.alloc (.cells #[.string nm, .int .i64 (P : Int)] 48)).heap[wr.heap.size]? = some (.cells #[.string nm, .int .i64 (P : Int)] 48 (0, 0))) := blk_new _ _
        have HWS : Hid (w2.heap.size ≤ wr.heap.size) := HST.out.bl.size
        have HPL0 : Hid (pls.map (fun x => (x.1, x.2.1)) = plTo cs i 0 nm) := by show _ = _; rw [plTo_zero]; exact HPL.out
        clear hB3 HST HPL
        go_wp2_with fail
        generalize wr.alloc (.cells #[.string nm, .int .i64 (P : Int)] 48) = W3 at *
        obtain ⟨bx, hbx⟩ : ∃ bx, bx = wr.heap.size := ⟨_, rfl⟩
        rw [← hbx] at HBX HWS ⊢
        clear hbx k0 k1 hbl
        go_loopw [12, 13, 14, 15, 16, 36] (fun _ _ _ _ _ pq wx => ∃ (q : Nat) (pls : List Pl) (ov : Value) (ys : List Value), q ≤ P ∧ pq = .int .i32 q ∧ Hid (ToSt w2 wx d tb m pls (.slice Ac n cc) ov pls.length ys) ∧ Hid (pls.map (fun x => (x.1, x.2.1)) = plTo cs i q nm) ∧ Hid (wx.heap[bx]? = some (.cells #[.string nm, .int .i64 (P : Int)] 48 (0, 0)))) (fun _ _ _ _ _ pq _ => P - (intOf pq).toNat)
        case atStart => exact ⟨0, pls, ov, ys, Nat.zero_le _, rfl, HST3.out, HPL0.out, HBX.out⟩
        case round =>
          clear HST3 HPL0 HBX
          obtain ⟨q, pls, ov, ys, hq, rfl, HST, HPL, HBX⟩ := hrel
          by_cases hqP : q < P
          · have hbw : Below w.heap.size w wr := HB2.out.trans (HST.out.bl.mono HB2.out.size)
            have HBW := Lib.hid hbw
            have HDIR : Hid (Calls Tryz.prog 19 #[.string nm, .int .i32 (q : Int)] wr fun r w' => r = .returned (.tuple #[.string (Lb.dirS nm q), .int .i64 0]) ∧ Below wr.heap.size wr w') := by
              have h1 := Lb.dir_any nm wr HXS.out (q : Int) (by omega) (HL.out.below hbw)
              have h2 : Lb.dirAns nm (q : Int) = .tuple #[.string (Lb.dirS nm q), .int .i64 0] := by unfold Lb.dirAns; rw [if_pos HXT.out, if_neg (by omega), if_pos HXT.out, if_neg (by omega), Int.toNat_natCast]
              rw [h2] at h1
              exact h1
            have hw32q : IntKind.i32.wrap ((q : Int) + 1) = (q : Int) + 1 := by simp [IntKind.wrap, IntKind.bits, IntKind.signed]; omega
            have HGD := Lib.hid (dir_good HXT.out q (by omega))
            have k0 : wr.cell? ⟨bx, 0, none⟩ = some (.string nm) := cbox_0 HBX.out
            clear hbw
            go_wp2_with fail
            refine HDIR.out.mono ?_
            rintro r w4 ⟨rfl, hb4⟩
            have HST4 := Lib.hid (HST.out.below hb4)
            have HBX4 := Lib.hid (blk_below HBX.out hb4)
            have HBW4 := Lib.hid (HBW.out.trans (hb4.mono HBW.out.size))
            clear hb4 HDIR HST HBX HBW k0
            have HOP := Lib.hid (open_none (Lb.dirS nm q) HGD.out.2 HGD.out.1 w4 (HL.out.below HBW4.out) d N S k (HD.out.below HBW4.out) HK.out HO.out (fun b hb => Nat.lt_of_lt_of_le (HS.out b hb) HBW4.out.size))
            go_wp2_with fail
            refine HOP.out.mono ?_
            rintro r w5 ⟨lb, lt, rfl, hlb, hlg, hb5⟩
            have HST5 := Lib.hid (HST4.out.below hb5)
            have HBX5 := Lib.hid (blk_below HBX4.out hb5)
            have HLG5 := Lib.hid hlg
            have HLB : Hid (w2.heap.size ≤ lb) := Nat.le_trans HST4.out.bl.size hlb
            have k0 : w5.cell? ⟨bx, 0, none⟩ = some (.string nm) := cbox_0 HBX5.out
            clear hb5 hlg hlb HOP HST4 HBX4 HBW4 HGD
            go_upto_region 18 with fail
            obtain ⟨Ao, co, rfl⟩ := HST5.out.ow.slice
            obtain ⟨np, hnp⟩ : ∃ np, np = pls.length := ⟨_, rfl⟩
            have HNP := Lib.hid hnp
            rw [← hnp] at HST5
            have hnp2 : np ≤ 200 := by
              have h1 := congrArg List.length HPL.out
              rw [List.length_map] at h1
              rw [hnp, h1]
              have h2 := HPLN.out
              unfold plTo
              rw [List.length_append, List.length_map, List.length_range]
              omega
            have hB6 : Below w5.heap.size w5 (w5.alloc (.cells #[.string nm, .int .i32 (q : Int)] 67)) := (Below.refl _ _).alloc (Nat.le_refl _) _
            have HST6 := Lib.hid (HST5.out.below hB6)
            have HBX6 := Lib.hid (blk_below HBX5.out hB6)
            have HLG6 := Lib.hid (HLG5.out.below hB6)
            have HAT6 : Hid ((w5.alloc (.cells #[.string nm, .int .i32 (q : Int)] 67)).heap[w5.heap.size]? = some (.cells #[.string nm, .int .i32 (q : Int)] 67 (0, 0))) := blk_new _ _
            have HNE : Hid (∀ kk, (Value.slice Ao np co).ownBlock = some kk → kk < w5.heap.size) := fun kk hkk => (HST5.out.ow.lt kk hkk).2
            clear hnp hB6 HST5 HBX5 HLG5 k0
            generalize w5.alloc (.cells #[.string nm, .int .i32 (q : Int)] 67) = W6 at *
            obtain ⟨at_, hat⟩ : ∃ at_, at_ = w5.heap.size := ⟨_, rfl⟩
            rw [← hat] at HAT6 HNE ⊢
            clear hat
            have e0 : W6.cell? ⟨at_, 0, none⟩ = some (.string nm) := two_0 HAT6.out
            have e1 : W6.cell? ⟨at_, 1, none⟩ = some (.int .i32 (q : Int)) := two_1 HAT6.out
            have t1 : W6.cell? ⟨tb, 1, none⟩ = some (.slice Ao np co) := blk_cell HST6.out.bt 1
            have hB7 : Below W6.heap.size W6 (W6.alloc (.cells #[.string nm, .int .i32 (q : Int)] 67)) := (Below.refl _ _).alloc (Nat.le_refl _) _
            have HB7 := Lib.hid hB7
            have t1' : (W6.alloc (.cells #[.string nm, .int .i32 (q : Int)] 67)).cell? ⟨tb, 1, none⟩ = some (.slice Ao np co) := blk_cell (blk_below HST6.out.bt hB7) 1
            have HWL : Hid (w2.heap.size ≤ W6.heap.size) := HST6.out.bl.size
            clear hB7
            go_cut [] from 63 to 72 (fun wx => ∃ ov' zs, ToSt w2 wx d tb m pls (.slice Ac n cc) ov' (np + 1) zs ∧ LogB wx lb d (Lb.dirS nm q) 100 (.slice none 0 0) lt false ∧ wx.heap[at_]? = some (.cells #[.string nm, .int .i32 (q : Int)] 67 (0, 0)) ∧ wx.heap[bx]? = some (.cells #[.string nm, .int .i64 (P : Int)] 48 (0, 0)))
            case first =>
              go_region_law (refine step_push rfl _ _ 60 67 2 24 (.agg #[.string ⟨#[]⟩, .int .i32 0]) rfl Tryz.underlying60 info_plc rfl (by decide) _ w2.heap.size W6.heap.size (.slice Ao np co) np ys [.string nm, .int .i32 (q : Int)] rfl rfl (blk_new _ _) rfl rfl (Owns_below HST6.out.ow HB7.out.drew) (by unfold maxLen; omega) (by omega) (by show _ ≤ (W6.alloc _).heap.size; rw [World.size_alloc]; have := HWL.out; omega) ?_; intro v8 w8 ho ht hs; obtain ⟨A8, c8, rfl⟩ := ho.slice; have x7 := (ht.block tb (blk_lt (blk_below HST6.out.bt HB7.out.drew)) (fun e => Owns_ne HST6.out.ow HST6.out.bt (by decide) _ e rfl)).trans (blk_below HST6.out.bt HB7.out.drew); have HO8 := Lib.hid ho; have HT8 := Lib.hid ht; have q7 : w8.cell? ⟨tb, 1, none⟩ = some (.slice Ao np co) := blk_cell x7 1; have f7 := blk_frozen x7 1; have HX7 := Lib.hid x7; clear ho ht hs x7)
              all_goals
                go_wp2_with fail
                go_meet
                have g1 := (HT8.out.block lb (blk_lt (HLG6.out.below HB7.out.drew)) (fun e => Owns_ne HST6.out.ow HLG6.out (by decide) _ e rfl)).trans (HLG6.out.below HB7.out.drew)
                have g2 := (HT8.out.block at_ (blk_lt (blk_below HAT6.out HB7.out.drew)) (fun e => Nat.lt_irrefl _ (HNE.out _ e))).trans (blk_below HAT6.out HB7.out.drew)
                have g3 := (HT8.out.block bx (blk_lt (blk_below HBX6.out HB7.out.drew)) (fun e => Owns_ne HST6.out.ow HBX6.out (by decide) _ e rfl)).trans (blk_below HBX6.out HB7.out.drew)
                have t9 := Tch.set (S := fun k => k = tb) w8 ⟨tb, 1, none⟩ (.slice A8 (np + 1) c8) rfl
                exact ⟨_, _, (HST6.out.below HB7.out.drew).ord HO8.out HT8.out, (t9.block lb (blk_lt g1) (blk_ne g1 HX7.out (by decide))).trans g1, (t9.block at_ (blk_lt g2) (blk_ne g2 HX7.out (by decide))).trans g2, (t9.block bx (blk_lt g3) (blk_ne g3 HX7.out (by decide))).trans g3⟩
            case rest =>
            obtain ⟨ov2, zs, hST7, hLG7, hAT7, hBX7⟩ := hcut
            rename World => w7
            have HST7 := Lib.hid hST7
            have HLG7 := Lib.hid hLG7
            have HBX7 := Lib.hid hBX7
            have e0 : w7.cell? ⟨at_, 0, none⟩ = some (.string nm) := two_0 hAT7
            have e1 : w7.cell? ⟨at_, 1, none⟩ = some (.int .i32 (q : Int)) := two_1 hAT7
            have t2 : w7.cell? ⟨tb, 2, none⟩ = some (.map (some m)) := blk_cell hST7.bt 2
            have hnml : nm.size ≤ maxLen := by have := HXS.out; unfold maxLen; omega
            have hml : (mapOf pls).length < maxLen := by have h1 := mapOf_length pls; have h2 := HNP.out; unfold maxLen; omega
            obtain ⟨w9, hrun, hpm, hgr⟩ := (hST7.pm.below (Below.drew (Below.refl _ _))).put_run hml hnml (p := (q : Int)) (by omega) lb
            unfold plc fptr at hrun
            have HPM := Lib.hid hpm
            have HGR := Lib.hid hgr
            clear hST7 hLG7 hAT7 hBX7 hpm hgr HST6 HBX6 HLG6 HAT6 HNE HB7 t1 t1'
            have hst9 : ToSt w2 w9 d tb m (pls ++ [(nm, q, lb)]) (.slice Ac n cc) ov2 (np + 1) zs := (HST7.out.below (Below.drew (Below.refl _ _))).put (x := (nm, q, lb)) HPM.out HGR.out ⟨⟨lt, HLG7.out.below (Below.drew (Below.refl _ _))⟩, HLB.out⟩
            have HST9 : Hid (ToSt w2 w9 d tb m (pls ++ [(nm, q, lb)]) (.slice Ac n cc) ov2 (pls ++ [(nm, q, lb)]).length zs) := by
              have e : (pls ++ [(nm, q, lb)]).length = np + 1 := by rw [List.length_append, ← HNP.out]; rfl
              show ToSt _ _ _ _ _ _ _ _ _ _
              rw [e]
              exact hst9
            have hbx9 : w9.heap[bx]? = some (.cells #[.string nm, .int .i64 (P : Int)] 48 (0, 0)) := by
              have ht : Tch (fun k => k = m) w7.drew w9 := Tch.of_grown HGR.out (fun k hk => (Option.some.inj hk).symm)
              have h1 := blk_below HBX7.out (Below.drew (Below.refl w7.heap.size w7))
              refine (ht.block bx (blk_lt h1) (fun e => ?_)).trans h1
              obtain ⟨es, c, hm⟩ := (HST7.out.below (Below.drew (Below.refl _ _))).pm.is_map
              have e' : bx = m := e
              rw [e', hm] at h1
              cases h1
            have HBX9 := Lib.hid hbx9
            have HPL9 : Hid ((pls ++ [(nm, q, lb)]).map (fun x => (x.1, x.2.1)) = plTo cs i (q + 1) nm) := by show _ = _; rw [plTo_succ, List.map_append, HPL.out]; rfl
            clear hst9 hbx9
            go_upto_region 19 with fail
            go_region
            all_goals
              go_wp2_with fail
              go_roundw
              case rel => exact ⟨q + 1, pls ++ [(nm, q, lb)], ov2, zs, by omega, by go_num, HST9.out, HPL9.out, HBX9.out⟩
              case measure => simp [intOf]; omega
          · obtain rfl : q = P := by omega
            have HPL2 : Hid (pls.map (fun x => (x.1, x.2.1)) = plAll (cs.take (i + 1))) := by show _ = _; rw [HPL.out, HPA.out]
            go_wp2_with fail
            go_roundw
            case rel => exact ⟨i + 1, _, _, _, by omega, by go_num, HST.out, HPL2.out⟩
            case measure => simp [intOf]; omega
      · obtain rfl : i = n := by omega
        have HP2 : Hid (pls.map (fun x => (x.1, x.2.1)) = plAll cs) := by
          have := HPL.out
          rw [HN.out, List.take_length] at this
          exact this
        go_wp2_with fail
        go_ret2
        exact ⟨HB2.out.trans (HST.out.bl.mono HB2.out.size), .inr ⟨HE.out, w2, tb, m, pls, Ac, cc, ov, ys, rfl, HB2.out, HST.out, HP2.out, HCC.out, HCO.out⟩⟩
  · have HE := Lib.hid he
    have hne : (checkE cs != 0) = true := by rw [bne_iff_ne]; exact he
    obtain ⟨ce, hce⟩ : ∃ ce, ce = checkE cs := ⟨_, rfl⟩
    rw [← hce] at HCK HE hne ⊢
    clear hce he
    go_enter Tryz.func6, Tryz.ntmps6
    go_wp2_with fail
    refine HCK.out.mono ?_
    rintro r w1 ⟨rfl, hb1⟩
    have HB1 := Lib.hid hb1
    clear hb1
    go_wp2_with fail
    go_ret2
    exact ⟨HB1.out, .inl ⟨HE.out, rfl⟩⟩
end Go.Proofs.YtciikcmiiebfpaaGreatDoor
end
