/- DiskMemory: its walk. -/
import Derived.Test.YtkhopknpadncdaaSepM
namespace Go.Proofs.Ytkhopknpadncdaa
open Go Go.RowKit Go.Maps Go.Proofs.YtkhopknpadncdaaW.PrintWords Go.Proofs.Ytkhopknpadncdaa.PDiskMemory Go.Proofs.YtkhopknpadncdaaW.PrintMore
set_option linter.unusedVariables false

section
variable {w W W' : World} {L : List Lies} {i j d N : Nat} {k : Dk} {v : Value}
def refV (A : Option Addr) (m c : Nat) (A2 : Option Addr) (c2 : Nat) (st : Int) : Array Value := #[.slice A m c, .int .i64 16777216, .slice A2 0 c2, .int .i64 st, .bool false]
/-- The reference's Load. -/
theorem sp_refLoad {fs : List SF} {K : Dk} {A : Option Addr} {n c m : Nat} (h : Sep w W L) (hC : k45.C w A n fs) (hc : n ≤ c) (hl : fs.length ≤ 140737488355328) (hf : ∀ f ∈ fs, f.f1.length ≤ big) (he : (loadD 16777216 fs).2 = 0) (hK : K = (loadD 16777216 fs).1) (hm : (refG K.files).length = m) :
    Calls Try.prog 14 #[.int .i64 16777216, .slice A n c] W fun e W' => ∃ A1 c1 A2 c2, e = .returned (.tuple #[.agg #[.slice A1 m c1, .int .i64 16777216, .slice A2 0 c2, .int .i64 0, .bool false], .int .i64 0]) ∧ Sep w W' (L ++ [wantO (.slice A1 m c1) (.slice A2 0 c2) (refG K.files)]) := by
  have hn : n = fs.length := (Kd.C_len hC).symm
  subst hn
  have hfr : Fresh K := by rw [hK]; exact Fresh.load fs (newD_fresh _)
  have hld := load_done hf hl he
  rw [← hK, ← refG_fresh (fun p hp => (hfr.files p hp).1)] at hld
  refine (leatref18_Load.calls _ 16777216 A c fs _ _ _ _ _ _ W (Kd.C_below hC h.bl) hc hld).mono ?_
  rintro e W' ⟨v0, v2, rfl, hv0, hv2, hb⟩
  have hP : WantP W' (fun b => W.heap.size ≤ b ∧ b < W'.heap.size) v0 v2 (refG K.files) :=
    ⟨Kd.V_mono (Kd.V_bound hv0) (fun b hb => ⟨⟨hb.1.1, hb.2⟩, hb.1.2⟩), Kd.R_mono (Kd.R_lower (Kd.R_bound hv2) (Nat.zero_le _)) (fun b hb => ⟨hb.1, hb.2.2.1⟩), fun b hb => hb.2⟩
  have h2 := h.push (P := wantO v0 v2 (refG K.files)) hb hP (fun b hb => hb.1)
  obtain ⟨A1, c1, A2, c2, rfl, rfl, _⟩ := hP.form
  rw [hm] at h2 ⊢
  exact ⟨A1, c1, A2, c2, rfl, h2⟩
/-- The reference's append. -/
theorem sp_do {K K1 : Dk} {code : Int} {A1 A2 B : Option Addr} {m c1 c2 p q m' : Nat} {b : List Int} (h : Sep w W L) (hi : L[i]? = some (wantO (.slice A1 m c1) (.slice A2 0 c2) (refG K.files))) (x : ByteArray) (hF : Fresh K) (hok : K.ok N) (hs : Srt K.files) (hroom : K.room = 16777216)
    (hC : (Kd.int .u8).C w B p b) (hpq : p ≤ q) (hp : b.length ≤ big) (he : stepD (appendD b x.data.toList) (partD b x.data.toList) K = (K1, code)) (hm : (refG K1.files).length = m') :
    Calls Try.prog 18 #[.agg #[.slice A1 m c1, .int .i64 16777216, .slice A2 0 c2, .int .i64 0, .bool false], .int .i64 2, .string x, .int .i64 0, .slice B p q] W fun e W' => ∃ B1 d1 B2 d2, e = .returned (.tuple #[.agg #[.slice B1 m' d1, .int .i64 16777216, .slice B2 0 d2, .int .i64 1, .bool false], .int .i64 code]) ∧
      Sep w W' (L.set i (bothO (.slice A1 m c1) (refG K.files) (.slice B1 m' d1) (.slice B2 0 d2) (refG K1.files))) := by
  obtain ⟨S, h1, h2, h3, h4⟩ := h.open hi
  refine (doD_any W W S _ _ K N x B p q b hF hok hs hroom h1 (Kd.C_below hC h.bl) hpq hp).mono ?_
  rw [he]
  rintro e W' ⟨v0, v2, S', rfl, hw, hsub, hT⟩
  have hT2 : Tch S W W' := hT.mono (fun b hb => h1.2.1.1 b hb.symm)
  have hlt : ∀ b, S b → b < W'.heap.size := fun b hb => Nat.lt_of_lt_of_le (h1.2.2 b hb) hT.size
  have h5 := h4 W' (fun b => (S b ∨ S' b) ∧ b < W'.heap.size) (bothO (.slice A1 m c1) (refG K.files) v0 v2 (refG K1.files)) hT2
    ⟨Kd.V_mono (Kd.V_bound (Kd.V_step h1.1 (fun b hb hl => hT.block b hl (fun e => hb.2 e)))) (fun b hb => ⟨.inl hb.1.1, hb.2⟩), hw.mono (fun b hb => ⟨.inr hb, hw.2.2 b hb⟩) (fun b hb => hb.2)⟩ (fun b hb => hb.1.elim .inl (hsub b))
  obtain ⟨B1, d1, B2, d2, rfl, rfl, _⟩ := hw.form
  rw [hm] at h5 ⊢
  exact ⟨B1, d1, B2, d2, rfl, h5⟩
theorem sp_all0 {u0 v0 v2 : Value} {F0 F : List S94} {A2 : Option Addr} {c2 m kk : Nat} {l : List SF} (h : Sep w W L) (hi : L[i]? = some (bothO u0 F0 v0 v2 F)) (sf : Bool) (hf : leatref18_All.f kk F0 16777216 [] 0 false sf = some l) (hm : l.length = m) :
    Calls Try.prog 21 #[.agg #[u0, .int .i64 16777216, .slice A2 0 c2, .int .i64 0, .bool false], .bool sf] W fun e W' => ∃ A c, e = .returned (.slice A m c) ∧ Sep w W' (L ++ [filO (.slice A m c) l]) := by
  obtain ⟨S, h1, _⟩ := h.get hi
  refine (allR_any h1.1 A2 c2 16777216 0 false sf hf).mono ?_
  rintro e W' ⟨v, rfl, hr, hb⟩
  obtain ⟨A, c, rfl⟩ := Kd.S_slice hr
  rw [hm] at hr ⊢
  exact ⟨A, c, rfl, h.fil_new' hb hr⟩
theorem sp_all1 {u0 v0 : Value} {F0 F : List S94} {A2 : Option Addr} {c2 m kk : Nat} {l : List SF} (h : Sep w W L) (hi : L[i]? = some (bothO u0 F0 v0 (.slice A2 0 c2) F)) (sf : Bool) (hf : leatref18_All.f kk F 16777216 [] 1 false sf = some l) (hm : l.length = m) :
    Calls Try.prog 21 #[.agg #[v0, .int .i64 16777216, .slice A2 0 c2, .int .i64 1, .bool false], .bool sf] W fun e W' => ∃ A c, e = .returned (.slice A m c) ∧ Sep w W' (L ++ [filO (.slice A m c) l]) := by
  obtain ⟨S, h1, _⟩ := h.get hi
  refine (allR_any h1.2.1 A2 c2 16777216 1 false sf hf).mono ?_
  rintro e W' ⟨v, rfl, hr, hb⟩
  obtain ⟨A, c, rfl⟩ := Kd.S_slice hr
  rw [hm] at hr ⊢
  exact ⟨A, c, rfl, h.fil_new' hb hr⟩
theorem sp_find {u0 v0 v2 : Value} {F0 F : List S94} {r : Int} {kk : Nat} (h : Sep w W L) (hi : L[i]? = some (bothO u0 F0 v0 v2 F)) (x : ByteArray) (hf : leatref18_Find.f kk F 16777216 [] 1 false x = some r) :
    Calls Try.prog 25 #[.agg #[v0, .int .i64 16777216, v2, .int .i64 1, .bool false], .string x] W fun e W' => e = .returned (.int .i64 r) ∧ Sep w W' L := by
  obtain ⟨S, h1, _⟩ := h.get hi
  exact (findR_any h1.2 16777216 1 r false x hf).mono fun e W' ⟨he, hb⟩ => ⟨he, h.below hb⟩
theorem sp_read {l : List Int} {m : Nat} (h : Sep w W L) (hi : L[i]? = some (diskO d k N)) (s : ByteArray) (hs : s.size ≤ maxLen) (hm : l.length = m) (hmb : m ≤ big) (hr : readD k s.data.toList 0 m = (l, 0)) :
    Calls Try.prog 26 #[.pointer (some ⟨d, 0, none⟩), .string s, .int .i64 0, .int .i64 m] W fun e W' => ∃ A c, e = .returned (.tuple #[.slice A m c, .int .i64 0]) ∧ Sep w W' (L ++ [bytO (.slice A m c) l]) := by
  refine (al_read (h.al hi) s hs 0 m (by decide) (by unfold big at hmb; omega)).mono ?_
  rw [hr]
  rintro e W' ⟨v, rfl, hv, hb⟩
  obtain ⟨A, c, rfl⟩ := Kd.R_slice hv
  have h2 := h.byt_new0 hb hv
  rw [hm] at h2 ⊢
  exact ⟨A, c, rfl, h2⟩
theorem sp_wide {b : List Int} {B : Option Addr} {p q m : Nat} (h : Sep w W L) (hC : (Kd.int .u8).C w B p b) (hpq : p ≤ q) (hp : b.length ≤ big) (hm : b.length + 96 = m) : Calls Try.prog 16 #[.slice B p q] W fun e W' => ∃ A c, e = .returned (.slice A m c) ∧ m ≤ c ∧ Sep w W' (L ++ [bytO (.slice A m c) (b ++ wideT)]) := by
  have hn : p = b.length := (Kd.C_len hC).symm
  subst hn
  refine (leatref01_Wide.calls (b.length + 97) B q b _ W (Kd.C_below hC h.bl) hpq (wide_f hp (by omega))).mono ?_
  rintro e W' ⟨v, rfl, hr, hb⟩
  obtain ⟨A, c, rfl⟩ := Kd.R_slice hr
  rw [List.length_append, wideT_len, hm] at hr ⊢
  exact ⟨A, c, rfl, by have := (Kd.R_reads' hr).2.1; exact this, h.byt_new hb hr⟩
theorem sp_intact {b : List Int} {A B : Option Addr} {p q m c : Nat} (h : Sep w W L) (hi : L[i]? = some (bytO (.slice A m c) (b ++ wideT))) (hC : (Kd.int .u8).C w B p b) (hpq : p ≤ q) (hp : b.length ≤ big) :
    Calls Try.prog 17 #[.slice A m c, .slice B p q] W fun e W' => e = .returned (.bool true) ∧ Sep w W' L := by
  have hn : p = b.length := (Kd.C_len hC).symm
  subst hn
  obtain ⟨hA, hmc⟩ := h.byt hi
  have hm : (b ++ wideT).length = m := Kd.C_len hA
  subst hm
  exact (leatref01_Intact.calls (b.length + 97) A c _ B q b true W hA hmc (Kd.C_below hC h.bl) hpq (intact_f hp (by omega))).mono fun e W' ⟨he, hb⟩ => ⟨he, h.below hb⟩
/-- Two rows of the same files. -/
theorem sp_alike {G : List SF} {A B : Option Addr} {n c q : Nat} (h : Sep w W L) (hA : k45.C W A n G ∧ n ≤ c) (hB : k45.C W B n G ∧ n ≤ q) (hl : G.length ≤ 3518437208882 ∧ ∀ f ∈ G, f.f1.length ≤ big) :
    Calls Try.prog 22 #[.slice A n c, .slice B n q] W fun e W' => e = .returned (.bool true) ∧ Sep w W' L :=
  (alikeF_any A B n c q G W hA.1 hA.2 hB.1 hB.2 hl.1 hl.2).mono fun e W' ⟨he, hb⟩ => ⟨he, h.below hb⟩
/-- A struct that the law keeps. -/
theorem sp_keep {cs : Array Value} {ty : TypeId} (h : Sep w W L) : Sep w (W.alloc (.cells cs ty)) (L ++ [blkO W.heap.size cs ty]) :=
  h.push (S := fun b => b = W.heap.size) (P := blkO W.heap.size cs ty) ((Below.refl _ _).alloc (Nat.le_refl _) _) ⟨heap_alloc_new _ _, rfl, fun b hb => by rw [hb]; simp⟩ (fun b hb => Nat.le_of_eq hb.symm)
end
/-- What the walk uses of the disk behind the append. -/
theorem mem_facts {K K1 : Dk} {code : Int} {N : Nat} {b : List Int} {x : Nm} (hF : Fresh K) (hok : K.ok N) (hok1 : K1.ok (N + 1)) (hs : Srt K.files) (he : stepD (appendD b x) (partD b x) K = (K1, code)) :
    Grn K1.files ∧ K1.off = false ∧ Srt K1.files := by
  have hst : stepD (appendD b x) (partD b x) K = appendD b x { K with steps := K.steps + 1 } := by
    unfold stepD
    rw [hF.off, hF.plan]
    rfl
  rw [hst] at he
  unfold appendD at he
  cases hl : look K.files x with
  | none =>
    simp only [hl] at he
    injection he with he _
    rw [← he]
    exact ⟨hF.grn, hF.off, hs⟩
  | some f =>
    simp only [hl] at he
    split at he
    · injection he with he _
      rw [← he]
      exact ⟨hF.grn, hF.off, hs⟩
    · injection he with he _
      rw [← he]
      refine ⟨hF.grn.upd hl b, hF.off, ?_⟩
      show Srt (upd K.files x (putF f b))
      unfold Srt at hs ⊢
      have : (upd K.files x (putF f b)).map (·.1) = K.files.map (·.1) := upd_names _ _ _
      have h1 := (List.pairwise_map (f := fun p : Nm × Fil => p.1) (R := fun a b => bytesBefore a b = true)).2 hs
      rw [← this] at h1
      exact (List.pairwise_map (f := fun p : Nm × Fil => p.1) (R := fun a b => bytesBefore a b = true)).1 h1
theorem all_of {K : Dk} {N : Nat} (hok : K.ok N) (hg : Grn K.files) (st : Int) (sf : Bool) (kk : Nat) (hk : 422212465065984 + 300 ≤ kk) : leatref18_All.f kk (refG K.files) 16777216 [] st false sf = some ((gfs K.files).map (GF.file sf)) := by
  have := all_l kk (gfs K.files) sf 0 16777216 [] st false (by rw [gfs_length]; exact hok.2.2.2.1) (gfs_ok hok hg).1 (by rw [gfs_length]; have := hok.2.2.2.1; omega) (Nat.zero_le _)
  rw [List.take_zero, List.map_nil, show ((0 : Nat) : Int) = 0 from rfl] at this
  exact this

theorem loadL_room : ∀ (fs : List SF) (k : Dk), (loadL k fs).1.room = k.room
  | [], k => rfl
  | f :: r, k => by
    have h1 : (enterD k f.f0.data.toList f.f1).1.room = k.room := by
      unfold enterD
      split
      · rfl
      · split
        · rfl
        · split <;> rfl
    unfold loadL
    split
    · rw [loadL_room r, h1]
    · exact h1
set_option maxRecDepth 100000 in
set_option maxHeartbeats 8000000 in
theorem memL_any (w : World) (A0 : Option Addr) (n0 c0 : Nat) (fs : List SF) (nm : ByteArray) (B : Option Addr) (p q : Nat) (b : List Int)
    (hC0 : k45.C w A0 n0 fs) (hc0 : n0 ≤ c0) (hl : fs.length ≤ 3518437208882) (hf : ∀ f ∈ fs, f.f0.size ≤ maxLen ∧ Byt f.f1 ∧ f.f1.length ≤ big)
    (hs : nm.size ≤ maxLen) (hC : (Kd.int .u8).C w B p b) (hpc : p ≤ q) (hb : Byt b) (hp : b.length ≤ big) :
    Calls Try.prog 4 #[.slice A0 n0 c0, .string nm, .slice B p q] w fun e w' => e = .returned (.bool true) ∧ Below w.heap.size w w' := by
  have hpb : p = b.length := (Kd.C_len hC).symm
  have HC0 := Lib.hid hC0
  have HF := Lib.hid hf
  have HFL : Hid (∀ f ∈ fs, f.f1.length ≤ big) := fun f h => (hf f h).2.2
  have HL := Lib.hid hl
  have HLL : Hid (fs.length ≤ 140737488355328) := Nat.le_trans hl (by decide)
  have HS := Lib.hid hs
  have HC := Lib.hid hC
  have HB := Lib.hid hb
  have HBL := Lib.hid hp
  have HN0 : Hid (n0 = fs.length) := (Kd.C_len hC0).symm
  have HAL := Lib.hid (alive_any w)
  obtain ⟨ev, hev⟩ : ∃ ev, (loadD 16777216 fs).2 = ev := ⟨_, rfl⟩
  have HEV := Lib.hid hev
  have hpm : p ≤ 140737488351232 := by rw [hpb]; exact hp
  have hnm : n0 ≤ 3518437208882 := by rw [HN0.out]; exact hl
  have HPB := Lib.hid hpb
  clear hC0 hf hl hs hC hb hp hpb
  by_cases h0 : ev = 0
  · subst h0
    clear hev
    obtain ⟨K, hK⟩ : ∃ K, K = (loadD 16777216 fs).1 := ⟨_, rfl⟩
    have HFR : Hid (Fresh K) := by show Fresh K; rw [hK]; exact Fresh.load fs (newD_fresh _)
    have HRM : Hid (K.room = 16777216) := by show K.room = _; rw [hK]; exact loadL_room fs _
    have HK := Lib.hid hK
    obtain ⟨m0, hm0⟩ : ∃ m0, (refG K.files).length = m0 := ⟨_, rfl⟩
    have HM0 := Lib.hid hm0
    clear hK hm0
    go_enter Try.func4, Try.ntmps4
    go_wp2_with fail
    refine HAL.out.mono ?_
    rintro e w1 ⟨rfl, hb1⟩
    have HB1 := Lib.hid hb1
    clear hb1
    go_wp2_with fail
    refine (twinF_any A0 n0 c0 fs _ (Kd.C_below HC0.out HB1.out) hc0 HL.out HFL.out).mono ?_
    rintro e w2 ⟨A2, q2, rfl, hr, hb2⟩
    have H1 := Lib.hid ((Sep.nil HB1.out).fil_new' hb2 hr)
    clear hr hb2 HB1 HAL
    go_wp2_with fail
    refine (sp_load (i := 0) H1.out rfl HL.out HF.out HEV.out HK.out).mono ?_
    rintro e w3 ⟨d, rfl, h⟩
    simp only [List.cons_append, List.nil_append] at h
    have H2 := Lib.hid h
    clear h H1
    go_wp2_with fail
    refine (sp_load (i := 0) H2.out rfl HL.out HF.out HEV.out HK.out).mono ?_
    rintro e w4 ⟨o, rfl, h⟩
    simp only [List.cons_append, List.nil_append] at h
    have H3 := Lib.hid h
    clear h H2
    go_wp2_with fail
    refine (sp_refLoad H3.out HC0.out hc0 HLL.out HFL.out HEV.out HK.out HM0.out).mono ?_
    rintro e w5 ⟨A5, c5, B5, d5, rfl, h⟩
    simp only [List.cons_append, List.nil_append] at h
    have H4 := Lib.hid h
    clear h H3
    go_upto_region 11 with fail
    have H5 := Lib.hid (sp_keep (cs := refV A5 m0 c5 B5 d5 0) (ty := 40) H4.out)
    unfold refV at H5
    simp only [List.cons_append, List.nil_append] at H5
    have hbk : w5.heap.size < (w5.alloc (.cells #[.slice A5 m0 c5, .int .i64 16777216, .slice B5 0 d5, .int .i64 0, .bool false] 40)).heap.size := by simp
    generalize w5.alloc (.cells #[.slice A5 m0 c5, .int .i64 16777216, .slice B5 0 d5, .int .i64 0, .bool false] 40) = w6 at H5 hbk ⊢
    generalize w5.heap.size = k5 at H5 hbk ⊢
    clear H4 hbk
    go_wp2_with fail
    go_loopw [71, 14] (fun i _ Wr => ∃ (j : Nat) (gs : List SF), j ≤ n0 ∧ i = .int .i64 j ∧ Hid (gs.length = n0) ∧ Hid (Sep w Wr [filO (.slice A2 n0 q2) gs, diskO d K 0, diskO o K 0, wantO (.slice A5 m0 c5) (.slice B5 0 d5) (refG K.files), blkO k5 #[.slice A5 m0 c5, .int .i64 16777216, .slice B5 0 d5, .int .i64 0, .bool false] 40])) (fun i _ _ => n0 - (intOf i).toNat)
    case atStart => exact ⟨0, fs, Nat.zero_le _, rfl, HN0.out.symm, H5.out⟩
    case round =>
      clear H5
      obtain ⟨j, gs, hj, rfl, HGL, H6⟩ := hrel
      by_cases hlt : j < n0
      · obtain ⟨g, hg⟩ : ∃ g, gs[j]? = some g := ⟨_, List.getElem?_eq_getElem (by rw [HGL.out]; exact hlt)⟩
        obtain ⟨bk, A7, c7, eA, hcell, hcall⟩ := sp_spoil_elem (i := 0) H6.out rfl hg
        subst eA
        have HCALL := Lib.hid hcall
        have HGL2 : Hid ((gs.set j ⟨g.f0, g.f1.map turn⟩).length = n0) := by show _ = _; rw [List.length_set]; exact HGL.out
        clear hcall hg
        go_wp2_with fail
        refine HCALL.out.mono ?_
        rintro e w7 ⟨rfl, h⟩
        have H7 := Lib.hid h
        clear h
        go_wp2_with fail
        go_roundw
        case rel => exact ⟨j + 1, _, by omega, by go_num, HGL2, H7.out⟩
        case measure => simp [intOf]; omega
      · go_wp2_with fail
        clear hlt
        refine (sp_wide H6.out HC.out hpc HBL.out (m := p + 96) (by rw [← HPB.out])).mono ?_
        rintro e w7 ⟨A7, c7, rfl, hc7, h⟩
        simp only [List.cons_append, List.nil_append] at h
        have H7 := Lib.hid h
        clear h H6 HGL
        have hpc7 : p ≤ c7 := by omega
        obtain ⟨K1, code, hst⟩ : ∃ K1 code, stepD (appendD b nm.data.toList) (partD b nm.data.toList) K = (K1, code) := ⟨_, _, rfl⟩
        have HST := Lib.hid hst
        clear hst
        go_wp2_with fail
        refine (sp_append (i := 1) (j := 5) (l := b ++ wideT) (b := b) (m := p) H7.out rfl rfl (by decide) (by decide) nm HS.out HPB.out (by rw [HPB.out]; exact List.take_left) (by omega) HB.out (by unfold big; omega) HST.out).mono ?_
        rintro e w8 ⟨rfl, h⟩
        simp only [List.set_cons_succ, List.set_cons_zero] at h
        have H8 := Lib.hid h
        clear h
        go_wp2_with fail
        refine (sp_intact (i := 5) H8.out rfl HC.out hpc HBL.out).mono ?_
        rintro e w9 ⟨rfl, h⟩
        have H9 := Lib.hid h
        clear h H8
        go_wp2_with fail
        refine (sp_spoil (i := 5) H9.out rfl).mono ?_
        rintro e w10 ⟨rfl, h⟩
        simp only [List.set_cons_succ, List.set_cons_zero] at h
        have H10 := Lib.hid h
        clear h H9
        have hblk := H10.out.blk (i := 4) rfl
        have z0 := (blk_cell hblk 0).trans rfl
        have z1 := (blk_cell hblk 1).trans rfl
        have z2 := (blk_cell hblk 2).trans rfl
        have z3 := (blk_cell hblk 3).trans rfl
        have z4 := (blk_cell hblk 4).trans rfl
        clear hblk
        obtain ⟨S7, hd7, _⟩ := H7.out.get (i := 1) rfl
        obtain ⟨m, O, pv, Z, hda, _⟩ := hd7
        have HOK : Hid (K.ok 0) := hda.ok
        have HSR : Hid (Srt K.files) := hda.sortedF
        clear hda H7
        obtain ⟨m1, hm1⟩ : ∃ m1, (refG K1.files).length = m1 := ⟨_, rfl⟩
        have HM1 := Lib.hid hm1
        clear hm1
        go_wp2_with fail
        refine (sp_do (i := 3) H10.out rfl nm HFR.out HOK.out HSR.out HRM.out HC.out hpc HBL.out HST.out HM1.out).mono ?_
        rintro e w11 ⟨A11, c11, B11, d11, rfl, h⟩
        simp only [List.set_cons_succ, List.set_cons_zero] at h
        have H11 := Lib.hid h
        clear h H10 z0 z1 z2 z3 z4
        go_upto_region 22 with fail
        have H12 := Lib.hid (sp_keep (cs := refV A11 m1 c11 B11 d11 1) (ty := 40) H11.out)
        unfold refV at H12
        simp only [List.cons_append, List.nil_append] at H12
        have hbk : w11.heap.size < (w11.alloc (.cells #[.slice A11 m1 c11, .int .i64 16777216, .slice B11 0 d11, .int .i64 1, .bool false] 40)).heap.size := by simp
        generalize w11.alloc (.cells #[.slice A11 m1 c11, .int .i64 16777216, .slice B11 0 d11, .int .i64 1, .bool false] 40) = w12 at H12 hbk ⊢
        generalize w11.heap.size = k12 at H12 hbk ⊢
        clear H11 hbk
        obtain ⟨G, hG⟩ : ∃ G, filesD (·.seen) K1 = G := ⟨_, rfl⟩
        obtain ⟨Z0, hZ0⟩ : ∃ Z0, filesD (·.safe) K1 = Z0 := ⟨_, rfl⟩
        obtain ⟨M, hM⟩ : ∃ M, G.length = M := ⟨_, rfl⟩
        have hZM : Z0.length = M := by rw [← hM, ← hG, ← hZ0]; unfold filesD; rw [List.length_map, List.length_map]
        have hok1 : K1.ok 1 := (H12.out.al (i := 1) rfl).okk
        have HMF := Lib.hid (mem_facts HFR.out HOK.out hok1 HSR.out HST.out)
        have HGB : Hid (G.length ≤ 3518437208882 ∧ ∀ f ∈ G, f.f1.length ≤ big) := by
          show _ ∧ _
          rw [← hG]
          refine ⟨by unfold filesD; rw [List.length_map]; have := hok1.2.2.2.1; omega, fun f hf => ?_⟩
          obtain ⟨q, hq, rfl⟩ := List.mem_map.1 hf
          exact (hok1.1 q hq).1.stop.1
        have HZB : Hid (Z0.length ≤ 3518437208882 ∧ ∀ f ∈ Z0, f.f1.length ≤ big) := by
          show _ ∧ _
          rw [← hZ0]
          refine ⟨by unfold filesD; rw [List.length_map]; have := hok1.2.2.2.1; omega, fun f hf => ?_⟩
          obtain ⟨q, hq, rfl⟩ := List.mem_map.1 hf
          exact (hok1.1 q hq).1.start.1
        have hMM : M ≤ 256 := by rw [← hM, ← hG]; unfold filesD; rw [List.length_map]; exact hok1.2.2.2.1
        have HG := Lib.hid hG
        have HZ := Lib.hid hZ0
        have HM := Lib.hid hM
        have HZM := Lib.hid hZM
        have HOK1 := Lib.hid hok1
        clear hG hZ0 hM hZM hok1
        go_wp2_with fail
        refine (sp_files (i := 1) H12.out rfl HG.out HM.out).mono ?_
        rintro e w13 ⟨Ax, cx, rfl, h⟩
        simp only [List.cons_append, List.nil_append] at h
        have H13 := Lib.hid h
        clear h H12
        go_wp2_with fail
        refine (sp_files (i := 1) H13.out rfl HG.out HM.out).mono ?_
        rintro e w14 ⟨Ay, cy, rfl, h⟩
        simp only [List.cons_append, List.nil_append] at h
        have H14 := Lib.hid h
        clear h H13
        go_wp2_with fail
        refine (sp_safe (i := 1) H14.out rfl HZ.out HZM.out).mono ?_
        rintro e w15 ⟨Az, cz, rfl, h⟩
        simp only [List.cons_append, List.nil_append] at h
        have H15 := Lib.hid h
        clear h H14
        go_upto_region 25 with fail
        have hblk := H15.out.blk (i := 6) rfl
        have z0 := (blk_cell hblk 0).trans rfl
        have z1 := (blk_cell hblk 1).trans rfl
        have z2 := (blk_cell hblk 2).trans rfl
        have z3 := (blk_cell hblk 3).trans rfl
        have z4 := (blk_cell hblk 4).trans rfl
        clear hblk
        obtain ⟨kk, hkk⟩ : ∃ kk : Nat, 422212465065984 + 300 ≤ kk := ⟨_, Nat.le_refl _⟩
        obtain ⟨G0, hG0⟩ : ∃ G0, filesD (·.seen) K = G0 := ⟨_, rfl⟩
        obtain ⟨N1, hN1⟩ : ∃ N1, G0.length = N1 := ⟨_, rfl⟩
        have HG0 := Lib.hid hG0
        have HN1 := Lib.hid hN1
        have HA0 : Hid (leatref18_All.f kk (refG K.files) 16777216 [] 0 false false = some G0) := by
          show _ = _
          rw [all_of HOK.out HFR.out.grn 0 false kk hkk, ← hG0, (filesD_gfs HFR.out.grn).1]
        have HG0B : Hid (G0.length ≤ 3518437208882 ∧ ∀ f ∈ G0, f.f1.length ≤ big) := by
          show _ ∧ _
          rw [← hG0]
          refine ⟨by unfold filesD; rw [List.length_map]; have := HOK.out.2.2.2.1; omega, fun f hf => ?_⟩
          obtain ⟨q, hq, rfl⟩ := List.mem_map.1 hf
          exact (HOK.out.1 q hq).1.stop.1
        clear hG0 hN1
        have HA1 : Hid (leatref18_All.f kk (refG K1.files) 16777216 [] 1 false false = some G) := by
          show _ = _
          rw [all_of HOK1.out HMF.out.1 1 false kk hkk, ← HG.out, (filesD_gfs HMF.out.1).1]
        have HA2 : Hid (leatref18_All.f kk (refG K1.files) 16777216 [] 1 false true = some Z0) := by
          show _ = _
          rw [all_of HOK1.out HMF.out.1 1 true kk hkk, ← HZ.out, (filesD_gfs HMF.out.1).2]
        clear hkk
        have hdr : Below w15.heap.size w15 w15.drew := Below.drew (Below.refl _ _)
        go_region_held3 (fun w' => w'.cell? ⟨k12, 0, none⟩ = some (.slice A11 m1 c11) ∧ w'.cell? ⟨k12, 1, none⟩ = some (.int .i64 16777216) ∧ w'.cell? ⟨k12, 2, none⟩ = some (.slice B11 0 d11) ∧ w'.cell? ⟨k12, 3, none⟩ = some (.int .i64 1) ∧ w'.cell? ⟨k12, 4, none⟩ = some (.bool false)) (go_keep)
          (first
            | (go_at_call 21; (with_reducible refine (sp_all1 (i := 3) (H15.out.below hdr) rfl false HA1.out HM.out).mono ?_); rintro e w16 ⟨As, cs, rfl, h⟩; simp only [List.cons_append, List.nil_append] at h; have H16 := Lib.hid h; clear h; have hblk := H16.out.blk (i := 6) rfl; have q0 := (blk_cell hblk 0).trans rfl; have q1 := (blk_cell hblk 1).trans rfl; have q2 := (blk_cell hblk 2).trans rfl; have q3 := (blk_cell hblk 3).trans rfl; have q4 := (blk_cell hblk 4).trans rfl; clear hblk)
            | (go_at_call 21; (with_reducible refine (sp_all1 (i := 3) H16.out rfl true HA2.out HZM.out).mono ?_); rintro e w17 ⟨At, ct, rfl, h⟩; simp only [List.cons_append, List.nil_append] at h; have H17 := Lib.hid h; clear h; have hblk := H17.out.blk (i := 6) rfl; have q0 := (blk_cell hblk 0).trans rfl; have q1 := (blk_cell hblk 1).trans rfl; have q2 := (blk_cell hblk 2).trans rfl; have q3 := (blk_cell hblk 3).trans rfl; have q4 := (blk_cell hblk 4).trans rfl; clear hblk))
        clear H15 H16 z0 z1 z2 z3 z4 hdr
        go_wp2_with fail
        refine (sp_alike H17.out (H17.out.fil (i := 7) rfl) (H17.out.fil (i := 10) rfl) HGB.out).mono ?_
        rintro e w18 ⟨rfl, h⟩
        have H18 := Lib.hid h
        clear h H17
        go_wp2_with fail
        refine (sp_alike H18.out (H18.out.fil (i := 9) rfl) (H18.out.fil (i := 11) rfl) HZB.out).mono ?_
        rintro e w19 ⟨rfl, h⟩
        have H19 := Lib.hid h
        clear h H18
        go_wp2_with fail
        refine (sp_alike H19.out (H19.out.fil (i := 8) rfl) (H19.out.fil (i := 10) rfl) HGB.out).mono ?_
        rintro e w20 ⟨rfl, h⟩
        have H20 := Lib.hid h
        clear h H19
        go_wp2_with fail
        refine (sp_datas (i := 7) H20.out rfl (by have := HGB.out.1; omega)).mono ?_
        rintro e w21 ⟨Adx, cdx, rfl, h⟩
        simp only [List.set_cons_succ, List.set_cons_zero] at h
        have H21 := Lib.hid h
        clear h H20
        go_wp2_with fail
        refine (sp_datasR (i := 10) H21.out rfl (by have := HGB.out.1; omega)).mono ?_
        rintro e w22 ⟨Ads, cds, rfl, h⟩
        simp only [List.set_cons_succ, List.set_cons_zero] at h
        have H22 := Lib.hid h
        clear h H21
        have hml : M ≤ 5864062014804 := by omega
        go_wp2_with fail
        refine (sp_spoilLists (i := 7) (j := 10) H22.out rfl rfl (by decide) (fun l hl => by obtain ⟨f, hf, rfl⟩ := List.mem_map.1 hl; exact HGB.out.2 f hf) hml).mono ?_
        rintro e w23 ⟨rfl, h⟩
        simp only [List.set_cons_succ, List.set_cons_zero] at h
        have H23 := Lib.hid h
        clear h H22
        go_wp2_with fail
        refine (sp_datas (i := 9) H23.out rfl (by have := HZB.out.1; omega)).mono ?_
        rintro e w24 ⟨Adz, cdz, rfl, h⟩
        simp only [List.set_cons_succ, List.set_cons_zero] at h
        have H24 := Lib.hid h
        clear h H23
        go_wp2_with fail
        refine (sp_datasR (i := 11) H24.out rfl (by have := HZB.out.1; omega)).mono ?_
        rintro e w25 ⟨Adt, cdt, rfl, h⟩
        simp only [List.set_cons_succ, List.set_cons_zero] at h
        have H25 := Lib.hid h
        clear h H24
        go_wp2_with fail
        refine (sp_spoilLists (i := 9) (j := 11) H25.out rfl rfl (by decide) (fun l hl => by obtain ⟨f, hf, rfl⟩ := List.mem_map.1 hl; exact HZB.out.2 f hf) hml).mono ?_
        rintro e w26 ⟨rfl, h⟩
        simp only [List.set_cons_succ, List.set_cons_zero] at h
        have H26 := Lib.hid h
        clear h H25
        go_wp2_with fail
        refine (sp_alike H26.out (H26.out.fil (i := 8) rfl) (H26.out.dual (i := 10) rfl) HGB.out).mono ?_
        rintro e w27 ⟨rfl, h⟩
        have H27 := Lib.hid h
        clear h H26
        go_wp2_with fail
        refine (sp_files (i := 1) H27.out rfl HG.out HM.out).mono ?_
        rintro e w28 ⟨Af1, cf1, rfl, h⟩
        simp only [List.cons_append, List.nil_append] at h
        have H28 := Lib.hid h
        clear h H27
        go_wp2_with fail
        refine (sp_alike H28.out (H28.out.fil (i := 12) rfl) (H28.out.dual (i := 10) rfl) HGB.out).mono ?_
        rintro e w29 ⟨rfl, h⟩
        have H29 := Lib.hid h
        clear h H28
        go_wp2_with fail
        refine (sp_safe (i := 1) H29.out rfl HZ.out HZM.out).mono ?_
        rintro e w30 ⟨Af2, cf2, rfl, h⟩
        simp only [List.cons_append, List.nil_append] at h
        have H30 := Lib.hid h
        clear h H29
        go_wp2_with fail
        refine (sp_alike H30.out (H30.out.fil (i := 13) rfl) (H30.out.dual (i := 11) rfl) HZB.out).mono ?_
        rintro e w31 ⟨rfl, h⟩
        have H31 := Lib.hid h
        clear h H30
        have hblk := H31.out.blk (i := 6) rfl
        have z0 := (blk_cell hblk 0).trans rfl
        have z1 := (blk_cell hblk 1).trans rfl
        have z2 := (blk_cell hblk 2).trans rfl
        have z3 := (blk_cell hblk 3).trans rfl
        have z4 := (blk_cell hblk 4).trans rfl
        clear hblk
        obtain ⟨r, hr, hcase⟩ := find_ref HMF.out.2.2.apart HOK1.out.2.2.2.1 nm 16777216 [] 1 false
        have HR := Lib.hid hr
        clear hr
        go_wp2_with fail
        refine (sp_find (i := 3) H31.out rfl nm HR.out).mono ?_
        rintro e w32 ⟨rfl, h⟩
        have H32 := Lib.hid h
        clear h H31 z0 z1 z2 z3 z4
        rcases hcase with ⟨rfl, _⟩ | ⟨j, f1, rfl, hj, hlk⟩
        · go_upto_region 39 with fail
          have hblk := H32.out.blk (i := 4) rfl
          have z0 := (blk_cell hblk 0).trans rfl
          have z1 := (blk_cell hblk 1).trans rfl
          have z2 := (blk_cell hblk 2).trans rfl
          have z3 := (blk_cell hblk 3).trans rfl
          have z4 := (blk_cell hblk 4).trans rfl
          clear hblk
          have hdr : Below w32.heap.size w32 w32.drew := Below.drew (Below.refl _ _)
          go_region_held3 (fun w' => w'.cell? ⟨k5, 0, none⟩ = some (.slice A5 m0 c5) ∧ w'.cell? ⟨k5, 1, none⟩ = some (.int .i64 16777216) ∧ w'.cell? ⟨k5, 2, none⟩ = some (.slice B5 0 d5) ∧ w'.cell? ⟨k5, 3, none⟩ = some (.int .i64 0) ∧ w'.cell? ⟨k5, 4, none⟩ = some (.bool false)) (go_keep)
            (first
              | (go_at_call 19; refine (sp_files (i := 2) (H32.out.below hdr) rfl HG0.out HN1.out).mono ?_; rintro e w50 ⟨Ao, co, rfl, h⟩; simp only [List.cons_append, List.nil_append] at h; have H50 := Lib.hid h; clear h; have hblk := H50.out.blk (i := 4) rfl; have q0 := (blk_cell hblk 0).trans rfl; have q1 := (blk_cell hblk 1).trans rfl; have q2 := (blk_cell hblk 2).trans rfl; have q3 := (blk_cell hblk 3).trans rfl; have q4 := (blk_cell hblk 4).trans rfl; clear hblk)
              | (go_at_call 21; refine (sp_all0 (i := 3) H50.out rfl false HA0.out HN1.out).mono ?_; rintro e w51 ⟨Aw, cw, rfl, h⟩; simp only [List.cons_append, List.nil_append] at h; have H51 := Lib.hid h; clear h; have hblk := H51.out.blk (i := 4) rfl; have q0 := (blk_cell hblk 0).trans rfl; have q1 := (blk_cell hblk 1).trans rfl; have q2 := (blk_cell hblk 2).trans rfl; have q3 := (blk_cell hblk 3).trans rfl; have q4 := (blk_cell hblk 4).trans rfl; clear hblk)
              | (go_at_call 22; refine (sp_alike H51.out (H51.out.fil (i := 14) rfl) (H51.out.fil (i := 15) rfl) HG0B.out).mono ?_; rintro e w52 ⟨rfl, h⟩; have H52 := Lib.hid h; clear h; have hblk := H52.out.blk (i := 4) rfl; have q0 := (blk_cell hblk 0).trans rfl; have q1 := (blk_cell hblk 1).trans rfl; have q2 := (blk_cell hblk 2).trans rfl; have q3 := (blk_cell hblk 3).trans rfl; have q4 := (blk_cell hblk 4).trans rfl; clear hblk))
          go_wp2_with fail
          go_ret
          exact ⟨rfl, H52.out.bl⟩
        · obtain ⟨g, hg, hg1, hgn⟩ : ∃ g : SF, G[j]? = some g ∧ g.f1 = f1.seen ∧ g.f1.length ≤ big := by
            have h1 : G[j]? = some ⟨toBA nm.data.toList, f1.seen⟩ := by
              rw [← HG.out]
              unfold filesD
              rw [List.getElem?_map, hj]
              rfl
            exact ⟨_, h1, rfl, HGB.out.2 _ (List.mem_of_getElem? h1)⟩
          obtain ⟨l, hl⟩ : ∃ l, f1.seen = l := ⟨_, rfl⟩
          obtain ⟨t, ht⟩ : ∃ t, l.length = t := ⟨_, rfl⟩
          have hrd : readD K1 nm.data.toList 0 t = (l, 0) := by
            unfold readD
            rw [HMF.out.2.1, if_neg (by simp), hlk]
            simp only [hl]
            rw [if_neg (by omega), ← ht]
            simp
          have htb : t ≤ 140737488351232 := by rw [← ht, ← hl, ← hg1]; exact hgn
          rw [hl] at hg1
          have hjM : j < M := by rw [← HM.out]; exact (List.getElem?_eq_some_iff.1 hg).1
          have HT := Lib.hid ht
          have HRD := Lib.hid hrd
          have HGJ := Lib.hid hg
          have HGL := Lib.hid hg1
          obtain ⟨ad, cs, e1, hcl, hK, hcc⟩ := Kd.C_get (H32.out.dual (i := 10) rfl).1 g (j : Int) (by omega) (by omega)
          rw [Int.toNat_natCast, List.getD_eq_getElem?_getD, hg, Option.getD_some] at hK
          rw [Int.toNat_natCast] at hcc
          obtain ⟨A8, c8, rfl, hle, _⟩ := k45_open hK
          have hcell := hcc 1 _ rfl
          rw [show j * k45.sz + 1 = j * 2 + 1 from rfl, add_field ad (j * 2) 1 (by decide), hg1, ht] at hcell
          subst e1
          clear hK hcl hcc hle hg hg1 hgn hl ht hrd hj hlk
          go_wp2_with fail
          refine (sp_read (i := 1) H32.out rfl nm HS.out HT.out htb HRD.out).mono ?_
          rintro e w33 ⟨Ap, cp, rfl, h⟩
          simp only [List.cons_append, List.nil_append] at h
          have H33 := Lib.hid h
          clear h H32 hcell
          go_wp2_with fail
          refine (sp_read (i := 1) H33.out rfl nm HS.out HT.out htb HRD.out).mono ?_
          rintro e w34 ⟨Aq, cq, rfl, h⟩
          simp only [List.cons_append, List.nil_append] at h
          have H34 := Lib.hid h
          clear h H33
          obtain ⟨gb, Ad, cd, eC, hcell, hcall⟩ := sp_apart (i := 14) (j := 15) (t := 10) H34.out rfl rfl rfl (by decide) (by decide) (by decide) HGJ.out HGL.out htb
          obtain rfl : ad = ⟨gb, 0, none⟩ := by injection eC
          have HCALL := Lib.hid hcall
          clear hcall eC
          go_wp2_with fail
          refine HCALL.out.mono ?_
          rintro e w35 ⟨rfl, h⟩
          simp only [List.set_cons_succ, List.set_cons_zero] at h
          have H35 := Lib.hid h
          clear h H34 hcell HCALL
          go_wp2_with fail
          refine (sp_files (i := 1) H35.out rfl HG.out HM.out).mono ?_
          rintro e w36 ⟨Af3, cf3, rfl, h⟩
          simp only [List.cons_append, List.nil_append] at h
          have H36 := Lib.hid h
          clear h H35
          go_wp2_with fail
          refine (sp_alike H36.out (H36.out.fil (i := 16) rfl) (H36.out.dual (i := 10) rfl) HGB.out).mono ?_
          rintro e w37 ⟨rfl, h⟩
          have H37 := Lib.hid h
          clear h H36
          go_upto_region 39 with fail
          have hblk := H37.out.blk (i := 4) rfl
          have z0 := (blk_cell hblk 0).trans rfl
          have z1 := (blk_cell hblk 1).trans rfl
          have z2 := (blk_cell hblk 2).trans rfl
          have z3 := (blk_cell hblk 3).trans rfl
          have z4 := (blk_cell hblk 4).trans rfl
          clear hblk
          have hdr : Below w37.heap.size w37 w37.drew := Below.drew (Below.refl _ _)
          go_region_held3 (fun w' => w'.cell? ⟨k5, 0, none⟩ = some (.slice A5 m0 c5) ∧ w'.cell? ⟨k5, 1, none⟩ = some (.int .i64 16777216) ∧ w'.cell? ⟨k5, 2, none⟩ = some (.slice B5 0 d5) ∧ w'.cell? ⟨k5, 3, none⟩ = some (.int .i64 0) ∧ w'.cell? ⟨k5, 4, none⟩ = some (.bool false)) (go_keep)
            (first
              | (go_at_call 19; refine (sp_files (i := 2) (H37.out.below hdr) rfl HG0.out HN1.out).mono ?_; rintro e w50 ⟨Ao, co, rfl, h⟩; simp only [List.cons_append, List.nil_append] at h; have H50 := Lib.hid h; clear h; have hblk := H50.out.blk (i := 4) rfl; have q0 := (blk_cell hblk 0).trans rfl; have q1 := (blk_cell hblk 1).trans rfl; have q2 := (blk_cell hblk 2).trans rfl; have q3 := (blk_cell hblk 3).trans rfl; have q4 := (blk_cell hblk 4).trans rfl; clear hblk)
              | (go_at_call 21; refine (sp_all0 (i := 3) H50.out rfl false HA0.out HN1.out).mono ?_; rintro e w51 ⟨Aw, cw, rfl, h⟩; simp only [List.cons_append, List.nil_append] at h; have H51 := Lib.hid h; clear h; have hblk := H51.out.blk (i := 4) rfl; have q0 := (blk_cell hblk 0).trans rfl; have q1 := (blk_cell hblk 1).trans rfl; have q2 := (blk_cell hblk 2).trans rfl; have q3 := (blk_cell hblk 3).trans rfl; have q4 := (blk_cell hblk 4).trans rfl; clear hblk)
              | (go_at_call 22; refine (sp_alike H51.out (H51.out.fil (i := 17) rfl) (H51.out.fil (i := 18) rfl) HG0B.out).mono ?_; rintro e w52 ⟨rfl, h⟩; have H52 := Lib.hid h; clear h; have hblk := H52.out.blk (i := 4) rfl; have q0 := (blk_cell hblk 0).trans rfl; have q1 := (blk_cell hblk 1).trans rfl; have q2 := (blk_cell hblk 2).trans rfl; have q3 := (blk_cell hblk 3).trans rfl; have q4 := (blk_cell hblk 4).trans rfl; clear hblk))
          go_wp2_with fail
          go_ret
          exact ⟨rfl, H52.out.bl⟩
  · have h0b : (ev == 0) = false := by rw [beq_eq_false_iff_ne]; exact h0
    have HE0 := Lib.hid h0
    clear hev
    go_enter Try.func4, Try.ntmps4
    go_wp2_with fail
    refine HAL.out.mono ?_
    rintro e w1 ⟨rfl, hb1⟩
    have HB1 := Lib.hid hb1
    clear hb1
    go_wp2_with fail
    refine (twinF_any A0 n0 c0 fs _ (Kd.C_below HC0.out HB1.out) hc0 HL.out HFL.out).mono ?_
    rintro e w2 ⟨A2, q2, rfl, hr, hb2⟩
    have H1 := Lib.hid ((Sep.nil HB1.out).fil_new' hb2 hr)
    clear hr hb2 HB1 HAL
    go_wp2_with fail
    refine (sp_loadBad (i := 0) H1.out rfl HL.out HF.out HEV.out HE0.out).mono ?_
    rintro e w3 ⟨rfl, h⟩
    have H2 := Lib.hid h
    clear h H1
    go_wp2_with fail
    refine (sp_loadBad (i := 0) H2.out rfl HL.out HF.out HEV.out HE0.out).mono ?_
    rintro e w4 ⟨rfl, h⟩
    have H3 := Lib.hid h
    clear h H2
    go_wp2_with fail
    refine (refLoad_any A0 n0 c0 fs _ (Kd.C_below HC0.out H3.out.bl) hc0 HLL.out HFL.out).mono ?_
    rw [HEV.out]
    rintro e w5 ⟨A5, n5, c5, i5, B5, m5, d5, j5, o5, rfl, hb5⟩
    have HB5 : Hid (Below w.heap.size w (w5.alloc (.cells #[.slice A5 n5 c5, .int .i64 i5, .slice B5 m5 d5, .int .i64 j5, .bool o5] 40))) := (H3.out.bl.trans (hb5.mono H3.out.bl.size)).alloc (Nat.le_trans H3.out.bl.size hb5.size) _
    clear hb5 H3
    go_wp2_with fail
    go_ret
    exact ⟨rfl, HB5.out⟩
end Go.Proofs.Ytkhopknpadncdaa
