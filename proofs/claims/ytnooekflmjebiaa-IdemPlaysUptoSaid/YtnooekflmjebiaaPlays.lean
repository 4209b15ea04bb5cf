/- The law IdemPlays: what stands between two calls of a script, and each call's contract over it. -/
import Derived.Test.YtnooekflmjebiaaHist
import Derived.Test.YtnooekflmjebiaaRefW
import Derived.Test.YtnooekflmjebiaaApart
namespace Go.Proofs.Ytnooekflmjebiaa
open Go Go.RowKit Go.Proofs.YtnooekflmjebiaaW.PrintWords Go.Proofs.Ytnooekflmjebiaa.PIdemPlays
set_option linter.unusedVariables false

/-- Nothing but blocks of batches' rows turned. -/
def Keep42 (W W' : World) : Prop := ∀ k, k < W.heap.size → (∀ cs, W.heap[k]? ≠ some (.cells cs 42 (0, 0))) → W'.heap[k]? = W.heap[k]?
theorem Tab.keep42 {w w' : World} {t b n : Nat} {g : Int → Option (Int × List Mk)} (h : Tab w t b n g) (hk : Keep42 w w') : Tab w' t b n g := by
  obtain ⟨f, hT, hgg, hf⟩ := h
  have h1 : ∀ (k : Nat) (cs : Array Value) (q : TypeId), w.heap[k]? = some (Obj.cells cs q (0, 0)) → q ≠ 42 → w'.heap[k]? = w.heap[k]? := fun k cs q hc hq => hk k (Array.getElem?_eq_some_iff.1 hc).1 (fun cs' e => by
    rw [hc] at e
    injection e with e
    injection e with _ e
    exact hq e)
  have h2 : w'.heap[b]? = w.heap[b]? := by
    obtain ⟨es, c, hb⟩ := hT.mp.is_map
    exact hk b hT.lt.2 (fun cs' e => by rw [hb] at e; cases e)
  obtain ⟨cs, hcs⟩ := hT.ty
  have h3 := h1 t cs _ hcs (by decide)
  exact ⟨f, ⟨(World.cell?_of_block (w := w) (a := ⟨t, 0, none⟩) h3).trans hT.c, hT.mp.kept h2, hT.ne, cs, h3.trans hcs⟩, hgg, fun x => ⟨(hf x).1, fun m hm => by obtain ⟨v, e1, e2⟩ := (hf x).2 m hm; exact ⟨v, e1, e2.blocks (fun k cs hk => h1 k cs _ hk (by decide))⟩⟩⟩
theorem box_keep42 {g : Nat} {y : Opr} {W W' : World} (h : W.heap[g]? = some (boxO y)) (hk : Keep42 W W') : W'.heap[g]? = some (boxO y) := by
  refine (hk g (Array.getElem?_eq_some_iff.1 h).1 (fun cs e => ?_)).trans h
  unfold boxO at h
  rw [h] at e
  injection e with e
  injection e with _ e
  exact absurd e (by decide)

structure St (w : World) (t b nt : Nat) (g : Int → Option (Int × List Mk)) (A : Option Addr) (n c : Nat) (h : List S42) (W : World) : Prop where
  T : Tab W t b nt g
  R : Kd.R k42 42 W w.heap.size (fun _ => True) (.slice A n c) h
  nl : n = h.length
  pid : ∀ m ∈ h, 0 ≤ m.f0
  bl : Below w.heap.size w W
  hb : w.heap.size ≤ b
section
variable {w W W' : World} {t b nt n c : Nat} {g : Int → Option (Int × List Mk)} {A : Option Addr} {h : List S42}
theorem St.below (s : St w t b nt g A n c h W) (hb : Below W.heap.size W W') : St w t b nt g A n c h W' := ⟨s.T.below hb, Kd.R_below s.R hb, s.nl, s.pid, s.bl.trans (hb.mono s.bl.size), s.hb⟩
theorem St.tab (s : St w t b nt g A n c h W) {nt' : Nat} {g' : Int → Option (Int × List Mk)} (hT : Tab W' t b nt' g') (hk : Kept (fun j => j = b) W W') : St w t b nt' g' A n c h W' := by
  obtain ⟨f, hm⟩ := s.T.mp
  obtain ⟨es, cl, hmap⟩ := hm.is_map
  refine ⟨hT, Kd.R_mono (Kd.R_step (Kd.R_bound s.R) (fun k ho hlt => ho.2.2.2.elim fun q hq => ?_)) (fun _ _ => trivial), s.nl, s.pid, s.bl.trans (hk.below s.bl.size (fun j hj => by rw [hj]; exact s.hb)), s.hb⟩
  obtain ⟨_, cs, hc⟩ := hq
  exact hk.block k hlt (fun e => by rw [e, hmap] at hc; cases hc)
theorem St.C (s : St w t b nt g A n c h W) : Kd.C k42 W A h.length h ∧ h.length ≤ c := by
  obtain ⟨h1, h2, h3⟩ := Kd.R_reads' s.R
  exact ⟨h3, by omega⟩
/-- Where the history has followed. -/
def Full (w : World) (t b : Nat) (A : Option Addr) (n c : Nat) (h : List S42) (W : World) : Prop := St w t b n (hg h) A n c h W
theorem St.full (s : St w t b nt g A n c h W) (hs : g = hg h) {w0 : World} {n0 : Nat} {g0' : Int → Option (Int × List Mk)} {t0 b0 : Nat} (h0 : Tab w0 t0 b0 n0 g0') (hsub : ∀ x, (hg h x).isSome = true → (g0' x).isSome = true) (hn : n0 ≤ n) : Full w t b A n c h W := by
  subst hs
  exact ⟨(s.T.tight h0 hsub).mono hn, s.R, s.nl, s.pid, s.bl, s.hb⟩

/-- The reference's Judge. -/
theorem rjudge_any (s : St w t b nt (hg h) A n c h W) (hn : n ≤ 1048576) (p ep q k : Int) (hq : q ≤ 2147483647) :
    Calls Try.prog 11 #[.slice A n c, .int .i64 p, .int .i16 ep, .int .i32 q, .int .i64 k] W fun e W' => e = .returned (.tuple #[.int .i64 (judgeT (hg h) p ep q k).1, .bool (judgeT (hg h) p ep q k).2.1, .int .i64 (judgeT (hg h) p ep q k).2.2]) ∧ Below W.heap.size W W' := by
  have hnl := s.nl
  rw [hnl]
  exact leatref21_Judge.calls (3 * h.length + 20) A c h p ep q k _ _ _ W s.C.1 s.C.2 (judge_f h p ep q k _ s.T.ok hq (by omega) (Nat.le_refl _))
theorem nh_pid {p ep q k base : Int} (hpid : ∀ m ∈ h, 0 ≤ m.f0) : ∀ m ∈ (nh h p ep q k base).1, 0 ≤ m.f0 := by
  unfold nh
  split
  · exact hpid
  · rename_i hb
    split
    · exact hpid
    · rename_i hp
      intro m hm
      rcases List.mem_append.1 hm with hm | hm
      · exact hpid m hm
      · simp at hm
        rw [hm]
        have hbad : badI p ep q k = false := by
          cases hx : badI p ep q k
          · rfl
          · exact absurd (.inl hx) hb
        exact (badI_no hbad hp).1
/-- The reference's Note. -/
theorem rnote_any (s : St w t b nt g A n c h W) (hn : n ≤ 1048576) (p ep q k base : Int) :
    Calls Try.prog 12 #[.slice A n c, .agg #[.int .i64 p, .int .i16 ep, .int .i32 q, .int .i64 k, .int .i64 base, .bool false]] W fun e W' =>
      ∃ (A' : Option Addr) (n' c' : Nat), e = .returned (.tuple #[.slice A' n' c', .int .i64 (nh h p ep q k base).2]) ∧ St w t b nt g A' n' c' (nh h p ep q k base).1 W' ∧ Keep42 W W' := by
  have hnl := s.nl
  refine (leatref21_Note.calls (h.length + 3) _ (.slice A n c) h p ep q k base false _ _ w W s.bl (Kd.R_bound s.R) (note_f h (by omega) p ep q k base _ (Nat.le_refl _))).mono ?_
  rintro e W' ⟨v0, rfl, hR, hB, hK⟩
  obtain ⟨A', c', rfl⟩ := Kd.R_slice hR
  have hk42 : Keep42 W W' := fun i hi hne => hK.2 i hi (fun hp => by
    obtain ⟨_, _, _, q, hq, cs, hc⟩ := hp
    have hq' : q = 42 := by
      have he : k42.E = [] := rfl
      rw [he] at hq
      simpa using hq
    subst hq'
    exact hne cs hc)
  exact ⟨A', _, c', rfl, ⟨s.T.keep42 hk42, Kd.R_mono hR (fun _ _ => trivial), rfl, nh_pid s.pid, hB, s.hb⟩, hk42⟩
/-- The reference's Forget. -/
theorem rforget_any (s : St w t b nt g A n c h W) (hn : n ≤ 1048576) (base : Int) :
    Calls Try.prog 14 #[.slice A n c, .int .i64 base] W fun e W' => ∃ (A' : Option Addr) (n' c' : Nat), e = .returned (.slice A' n' c') ∧ St w t b nt g A' n' c' (fgt base h) W' ∧ Below W.heap.size W W' := by
  refine (forgetR_any A c h n base W s.C.1 s.nl (by omega)).mono ?_
  rintro e W' ⟨v, rfl, hR, hB⟩
  obtain ⟨A', c', rfl⟩ := Kd.R_slice hR
  exact ⟨A', _, c', rfl, ⟨s.T.below hB, Kd.R_lower hR s.bl.size, rfl, fgt_pid base h s.pid, s.bl.trans (hB.mono s.bl.size), s.hb⟩, hB⟩
/-- What both Alls answer. -/
def AllIs (h : List S42) (L : List S52) : Prop := (∃ k, leatref21_All.f k h = some L) ∧ (∀ x ∈ L, Even x) ∧ L.length ≤ 1048576
theorem tall_any (s : Full w t b A n c h W) (hn : n ≤ 1048576) :
    Calls Try.prog 16 #[.pointer (some ⟨t, 0, none⟩)] W fun e W' => ∃ (A8 : Option Addr) (c8 : Nat) (L : List S52), e = .returned (.slice A8 L.length c8) ∧ Kd.C k52 W' A8 L.length L ∧ AllIs h L ∧ Below W.heap.size W W' := by
  have hnl := St.nl s
  refine (all_any t b n (hg h) W (St.T s) (by omega)).mono ?_
  rintro e W' ⟨v, ks, rfl, hasc, hmem, hlen, hSS, hb⟩
  obtain ⟨A8, c8, rfl, _, hC⟩ := Kd.R_reads (Kd.S_R hSS)
  exact ⟨A8, c8, _, rfl, hC, ⟨all_f h (by omega) (St.pid s) ks hasc hmem (by omega), kn_even (St.T s).ok hmem, by rw [List.length_map]; omega⟩, hb⟩
theorem rall_any (s : St w t b nt g A n c h W) {L : List S52} (hL : AllIs h L) :
    Calls Try.prog 17 #[.slice A n c] W fun e W' => ∃ (A9 : Option Addr) (c9 : Nat), e = .returned (.slice A9 L.length c9) ∧ Kd.C k52 W' A9 L.length L ∧ Below W.heap.size W W' := by
  have hnl := s.nl
  rw [hnl]
  obtain ⟨⟨k, hk⟩, _⟩ := hL
  refine (leatref21_All.calls k A c h L W s.C.1 s.C.2 hk).mono ?_
  rintro e W' ⟨v, rfl, hSS, hb⟩
  obtain ⟨A9, c9, rfl, _, hC⟩ := Kd.R_reads (Kd.S_R hSS)
  exact ⟨A9, c9, rfl, hC, hb⟩
/-- Behind both Notes. -/
theorem note_full {A' : Option Addr} {n' c' : Nat} {W0 : World} {p ep q k base : Int} (s0 : Full w t b A n c h W0) (s : St w t b (n + 1) (noteT (hg h) p ep q k base).1 A' n' c' (nh h p ep q k base).1 W) : Full w t b A' n' c' (nh h p ep q k base).1 W := by
  have hg1 := nh_hg h p ep q k base
  have hn0 := St.nl s0
  have hn1 := s.nl
  by_cases hc : (nh h p ep q k base).1.length = h.length + 1
  · have e : n' = n + 1 := by omega
    subst e
    exact ⟨by rw [hg1]; exact s.T, s.R, s.nl, s.pid, s.bl, s.hb⟩
  · have hsame : (nh h p ep q k base).1 = h := by
      unfold nh at hc ⊢
      split
      · rfl
      · split
        · rfl
        · rename_i h1 h2
          rw [if_neg h1, if_neg h2] at hc
          simp at hc
    refine s.full hg1.symm (St.T s0) (fun x hx => by rw [hsame] at hx; exact hx) ?_
    rw [hsame] at hn1
    omega
/-- Behind both Forgets. -/
theorem fgt_full {A' : Option Addr} {n' c' : Nat} {base : Int} (hn : n = h.length) (s : St w t b n (forgetT (hg h) base) A' n' c' (fgt base h) W) : Full w t b A' n' c' (fgt base h) W := by
  have e : n' = n := by rw [s.nl, fgt_length, hn]
  subst e
  exact ⟨by rw [fgt_hg]; exact s.T, s.R, s.nl, s.pid, s.bl, s.hb⟩
theorem nh_len (p ep q k base : Int) : (nh h p ep q k base).1.length ≤ h.length + 1 := by
  unfold nh
  split
  · exact Nat.le_succ _
  · split
    · exact Nat.le_succ _
    · rw [List.length_append]; exact Nat.le_refl _
end
end Go.Proofs.Ytnooekflmjebiaa
namespace Go.Proofs.Ytnooekflmjebiaa
open Go Go.RowKit Go.Proofs.YtnooekflmjebiaaW.PrintWords Go.Proofs.Ytnooekflmjebiaa.PIdemPlays
set_option linter.unusedVariables false

set_option maxRecDepth 100000 in
set_option maxHeartbeats 16000000 in
theorem plays_any (w : World) (xs : List Opr) (A : Option Addr) (c nn : Nat) (hn : nn = xs.length) (hm : nn ≤ 1048576) (hr : ORow w A xs) :
    Calls Try.prog 4 #[.slice A nn c] w fun e w' => e = .returned (.bool true) ∧ Below w.heap.size w w' := by
  have HR := Lib.hid hr
  have HN := Lib.hid hn
  clear hr hn
  go_enter Try.func4, Try.ntmps4
  go_wp2_with (first
    | (go_at_call 7; refine (new_any _).mono ?_; rintro e w1 ⟨t, b, rfl, hT, ht, hbl, hb1⟩; have HT := Lib.hid (new_tab hT); have HB := Lib.hid hb1; have HBL := Lib.hid hbl; clear hT hb1 ht hbl)
    | (go_at_call 8; refine (alive_any _).mono ?_; rintro e w3 ⟨rfl, hb⟩; have HT3 := Lib.hid (HT.out.below hb); have HB3 := Lib.hid (HB.out.trans (hb.mono HB.out.size)); clear HT HB hb))
  have HO : Hid (Full w t b (some ⟨w3.heap.size, 0, none⟩) 0 0 [] (w3.alloc (.cells #[] 42))) :=
    ⟨HT3.out.below ((Below.refl _ _).alloc (Nat.le_refl _) _), Kd.R_lower (base := w3.heap.size) ⟨fun _ _ => trivial, [], ⟨rfl, .inr ⟨w3.heap.size, 0, #[], rfl, Nat.le_refl _, heap_alloc_new _ _, Nat.le_refl _, by decide, by decide, rfl⟩⟩, ⟨rfl, fun j p hj => by simp at hj⟩⟩ HB3.out.size, rfl, (fun m hm => by cases hm), HB3.out.alloc HB3.out.size _, HBL.out⟩
  go_loopw [4, 26] (fun v i wr => ∃ (k : Nat) (A : Option Addr) (n c : Nat) (h : List S42), k ≤ nn ∧ i = .int .i64 k ∧ v = .slice A n c ∧ Hid (n ≤ k) ∧ Hid (Full w t b A n c h wr)) (fun _ i _ => nn - (intOf i).toNat)
  case atStart => exact ⟨0, _, 0, 0, [], Nat.zero_le _, rfl, rfl, Nat.le_refl _, HO.out⟩
  case round =>
    rename_i A0 c0 _
    obtain ⟨k, A, n, c, h, hk, rfl, rfl, HNK, HS⟩ := hrel
    rename World => wr
    by_cases hkn : k < nn
    · have hbl : Below w.heap.size w wr := St.bl HS.out
      obtain ⟨bo, oo, hA, hbol, hcell⟩ := (HR.out.below hbl) (by have := HN.out; omega)
      subst hA
      obtain ⟨y, hy⟩ : ∃ y, xs[k]? = some y := ⟨_, List.getElem?_eq_getElem (by have := HN.out; omega)⟩
      obtain ⟨hc, hok⟩ := hcell k y hy
      have q0 := hc 0 _ rfl
      have q1 := hc 1 _ rfl
      have q2 := hc 2 _ rfl
      have q3 := hc 3 _ rfl
      have q4 := hc 4 _ rfl
      have q5 := hc 5 _ rfl
      rw [Nat.add_zero] at q0
      have HOK := Lib.hid hok
      have HKN : Hid (k + 1 ≤ 1048576) := by show k + 1 ≤ 1048576; omega
      have HNL : Hid (n ≤ 1048576) := by show n ≤ 1048576; have := HNK.out; omega
      clear hcell hc hok hbl hy
      have HS1 : Hid (Full w t b A n c h (wr.alloc (.cells #[.int .i64 y.K, .int .i64 y.P, .int .i16 y.E, .int .i32 y.S, .int .i64 y.C, .int .i64 y.B] 36))) := St.below HS.out ((Below.refl _ _).alloc (Nat.le_refl _) _)
      have HBK : Hid ((wr.alloc (.cells #[.int .i64 y.K, .int .i64 y.P, .int .i16 y.E, .int .i32 y.S, .int .i64 y.C, .int .i64 y.B] 36)).heap[wr.heap.size]? = some (boxO y)) := heap_alloc_new _ _
      clear HS
      have HS := HS1
      clear HS1
      obtain ⟨r1, r2, r3, hj⟩ : ∃ r1 r2 r3, judgeT (hg h) y.P y.E y.S y.C = (r1, r2, r3) := ⟨_, _, _, rfl⟩
      have HJ := Lib.hid hj
      obtain ⟨q, hq⟩ : ∃ q, noteC y.P y.E y.S y.C y.B = q := ⟨_, rfl⟩
      have HQ := Lib.hid hq
      clear hj hq
      by_cases k1 : y.K = 1
      · have e1 : ((y.K : Int) == 1) = true := by rw [beq_iff_eq]; omega
        have e2 : ((y.K : Int) == 2) = false := by rw [beq_eq_false_iff_ne]; omega
        have e3 : ((y.K : Int) == 3) = false := by rw [beq_eq_false_iff_ne]; omega
        have e4 : ((y.K : Int) == 4) = false := by rw [beq_eq_false_iff_ne]; omega
        clear k1
        go_wp2_with (first
          | (go_at_call 9; refine (judge_any t b _ _ y.P y.E y.S y.C _ (St.T HS.out) HOK.out.p).mono ?_; rintro e w4 ⟨he, hb⟩; rw [HJ.out] at he; subst he; have N1 := Lib.hid (St.below HS.out hb); have N2 := Lib.hid (blk_below HBK.out hb); clear HS HBK hb; have HS := N1; have HBK := N2; clear N1 N2; obtain ⟨p0, p1, p2, p3, p4, p5⟩ := box_see HBK.out)
          | (go_at_call 11; refine (rjudge_any HS.out HNL.out y.P y.E y.S y.C HOK.out.s).mono ?_; rintro e w5 ⟨he, hb⟩; rw [HJ.out] at he; subst he; have N1 := Lib.hid (St.below HS.out hb); have N2 := Lib.hid (blk_below HBK.out hb); clear HS HBK hb; have HS := N1; have HBK := N2; clear N1 N2; obtain ⟨p0, p1, p2, p3, p4, p5⟩ := box_see HBK.out)
          | (go_at_call 16; refine (tall_any HS.out ((by have := HNL.out; omega))).mono ?_; rintro e w8 ⟨A8, c8, L, rfl, hC, hL, hb⟩; have HC8 := Lib.hid hC; have HL := Lib.hid hL; clear hC hL; have N1 := Lib.hid (St.below HS.out hb); have N2 := Lib.hid (blk_below HBK.out hb); clear HS HBK hb; have HS := N1; have HBK := N2; clear N1 N2; obtain ⟨p0, p1, p2, p3, p4, p5⟩ := box_see HBK.out)
          | (go_at_call 17; refine (rall_any HS.out HL.out).mono ?_; rintro e w9 ⟨A9, c9, rfl, hC, hb⟩; have HC9 := Lib.hid hC; have HCB := Lib.hid (Kd.C_below HC8.out hb); clear hC; have N1 := Lib.hid (St.below HS.out hb); have N2 := Lib.hid (blk_below HBK.out hb); clear HS HBK hb; have HS := N1; have HBK := N2; clear N1 N2; obtain ⟨p0, p1, p2, p3, p4, p5⟩ := box_see HBK.out)
          | (go_at_call 15; refine (alike_same _ _ _ _ L _ HCB.out HC9.out HL.out.2.1 (by have := HL.out.2.2; omega)).mono ?_; rintro e w10 ⟨rfl, hb⟩; have N1 := Lib.hid (St.below HS.out hb); have N2 := Lib.hid (blk_below HBK.out hb); clear HS HBK hb; have HS := N1; have HBK := N2; clear N1 N2; obtain ⟨p0, p1, p2, p3, p4, p5⟩ := box_see HBK.out))
        go_roundw
        case rel => exact ⟨k + 1, A, n, c, h, by omega, by go_num, rfl, Nat.le_succ_of_le HNK.out, HS.out⟩
        case measure => simp [intOf]; omega
      by_cases k2 : y.K = 2
      · have e1 : ((y.K : Int) == 1) = false := by rw [beq_eq_false_iff_ne]; omega
        have e2 : ((y.K : Int) == 2) = true := by rw [beq_iff_eq]; omega
        have e3 : ((y.K : Int) == 3) = false := by rw [beq_eq_false_iff_ne]; omega
        have e4 : ((y.K : Int) == 4) = false := by rw [beq_eq_false_iff_ne]; omega
        clear k1 k2
        go_wp2_with (first
          | (go_at_call 10; refine (note_any t b _ _ y.P y.E y.S y.C y.B _ (St.T HS.out) HOK.out.p HOK.out.e HOK.out.s HOK.out.b (by have := HNL.out; unfold maxLen; omega)).mono ?_; rintro e w6 ⟨he, hT, hk⟩; rw [note_code, HQ.out] at he; subst he; have HF := HS; have N1 := Lib.hid (St.tab HS.out hT hk); have N2 := Lib.hid (box_kept HBK.out hk (Tab.mp (St.T HS.out)).choose_spec); clear HS HBK hT hk; have HS := N1; have HBK := N2; clear N1 N2; obtain ⟨p0, p1, p2, p3, p4, p5⟩ := box_see HBK.out)
          | (go_at_call 12; refine (rnote_any HS.out HNL.out y.P y.E y.S y.C y.B).mono ?_; rintro e w7 ⟨A2, n2, c2, he, hs, hk⟩; rw [nh_code, HQ.out] at he; subst he; have HB2 : Hid (n2 ≤ k + 1) := (by show n2 ≤ k + 1; have e1 := St.nl hs; have e2 := nh_len (h := h) y.P y.E y.S y.C y.B; have e3 := HNK.out; have e4 := St.nl HF.out; omega); have N1 := Lib.hid (note_full HF.out hs); have N2 := Lib.hid (box_keep42 HBK.out hk); clear HS HBK hs hk HF; have HS := N1; have HBK := N2; clear N1 N2; obtain ⟨p0, p1, p2, p3, p4, p5⟩ := box_see HBK.out)
          | (go_at_call 16; refine (tall_any HS.out ((by have := HB2.out; have := HKN.out; omega))).mono ?_; rintro e w8 ⟨A8, c8, L, rfl, hC, hL, hb⟩; have HC8 := Lib.hid hC; have HL := Lib.hid hL; clear hC hL; have N1 := Lib.hid (St.below HS.out hb); have N2 := Lib.hid (blk_below HBK.out hb); clear HS HBK hb; have HS := N1; have HBK := N2; clear N1 N2; obtain ⟨p0, p1, p2, p3, p4, p5⟩ := box_see HBK.out)
          | (go_at_call 17; refine (rall_any HS.out HL.out).mono ?_; rintro e w9 ⟨A9, c9, rfl, hC, hb⟩; have HC9 := Lib.hid hC; have HCB := Lib.hid (Kd.C_below HC8.out hb); clear hC; have N1 := Lib.hid (St.below HS.out hb); have N2 := Lib.hid (blk_below HBK.out hb); clear HS HBK hb; have HS := N1; have HBK := N2; clear N1 N2; obtain ⟨p0, p1, p2, p3, p4, p5⟩ := box_see HBK.out)
          | (go_at_call 15; refine (alike_same _ _ _ _ L _ HCB.out HC9.out HL.out.2.1 (by have := HL.out.2.2; omega)).mono ?_; rintro e w10 ⟨rfl, hb⟩; have N1 := Lib.hid (St.below HS.out hb); have N2 := Lib.hid (blk_below HBK.out hb); clear HS HBK hb; have HS := N1; have HBK := N2; clear N1 N2; obtain ⟨p0, p1, p2, p3, p4, p5⟩ := box_see HBK.out))
        go_roundw
        case rel => exact ⟨k + 1, A2, n2, c2, _, by omega, by go_num, rfl, HB2.out, HS.out⟩
        case measure => simp [intOf]; omega
      by_cases k3 : y.K = 3
      · have e1 : ((y.K : Int) == 1) = false := by rw [beq_eq_false_iff_ne]; omega
        have e2 : ((y.K : Int) == 2) = false := by rw [beq_eq_false_iff_ne]; omega
        have e3 : ((y.K : Int) == 3) = true := by rw [beq_iff_eq]; omega
        have e4 : ((y.K : Int) == 4) = false := by rw [beq_eq_false_iff_ne]; omega
        clear k1 k2 k3
        cases r2 with
        | true =>
          go_wp2_with (first
            | (go_at_call 9; refine (judge_any t b _ _ y.P y.E y.S y.C _ (St.T HS.out) HOK.out.p).mono ?_; rintro e w4 ⟨he, hb⟩; rw [HJ.out] at he; subst he; have N1 := Lib.hid (St.below HS.out hb); have N2 := Lib.hid (blk_below HBK.out hb); clear HS HBK hb; have HS := N1; have HBK := N2; clear N1 N2; obtain ⟨p0, p1, p2, p3, p4, p5⟩ := box_see HBK.out)
            | (go_at_call 11; refine (rjudge_any HS.out HNL.out y.P y.E y.S y.C HOK.out.s).mono ?_; rintro e w5 ⟨he, hb⟩; rw [HJ.out] at he; subst he; have N1 := Lib.hid (St.below HS.out hb); have N2 := Lib.hid (blk_below HBK.out hb); clear HS HBK hb; have HS := N1; have HBK := N2; clear N1 N2; obtain ⟨p0, p1, p2, p3, p4, p5⟩ := box_see HBK.out))
          go_roundw
          case rel => exact ⟨k + 1, A, n, c, h, by omega, by go_num, rfl, Nat.le_succ_of_le HNK.out, HS.out⟩
          case measure => simp [intOf]; omega
        | false =>
          by_cases hr3 : r3 = 0
          · have er3 : ((r3 : Int) == 0) = true := by rw [beq_iff_eq]; exact hr3
            clear hr3
            go_wp2_with (first
              | (go_at_call 9; refine (judge_any t b _ _ y.P y.E y.S y.C _ (St.T HS.out) HOK.out.p).mono ?_; rintro e w4 ⟨he, hb⟩; rw [HJ.out] at he; subst he; have N1 := Lib.hid (St.below HS.out hb); have N2 := Lib.hid (blk_below HBK.out hb); clear HS HBK hb; have HS := N1; have HBK := N2; clear N1 N2; obtain ⟨p0, p1, p2, p3, p4, p5⟩ := box_see HBK.out)
              | (go_at_call 11; refine (rjudge_any HS.out HNL.out y.P y.E y.S y.C HOK.out.s).mono ?_; rintro e w5 ⟨he, hb⟩; rw [HJ.out] at he; subst he; have N1 := Lib.hid (St.below HS.out hb); have N2 := Lib.hid (blk_below HBK.out hb); clear HS HBK hb; have HS := N1; have HBK := N2; clear N1 N2; obtain ⟨p0, p1, p2, p3, p4, p5⟩ := box_see HBK.out)
              | (go_at_call 10; refine (note_any t b _ _ y.P y.E y.S y.C y.B _ (St.T HS.out) HOK.out.p HOK.out.e HOK.out.s HOK.out.b (by have := HNL.out; unfold maxLen; omega)).mono ?_; rintro e w6 ⟨he, hT, hk⟩; rw [note_code, HQ.out] at he; subst he; have HF := HS; have N1 := Lib.hid (St.tab HS.out hT hk); have N2 := Lib.hid (box_kept HBK.out hk (Tab.mp (St.T HS.out)).choose_spec); clear HS HBK hT hk; have HS := N1; have HBK := N2; clear N1 N2; obtain ⟨p0, p1, p2, p3, p4, p5⟩ := box_see HBK.out)
              | (go_at_call 12; refine (rnote_any HS.out HNL.out y.P y.E y.S y.C y.B).mono ?_; rintro e w7 ⟨A2, n2, c2, he, hs, hk⟩; rw [nh_code, HQ.out] at he; subst he; have HB2 : Hid (n2 ≤ k + 1) := (by show n2 ≤ k + 1; have e1 := St.nl hs; have e2 := nh_len (h := h) y.P y.E y.S y.C y.B; have e3 := HNK.out; have e4 := St.nl HF.out; omega); have N1 := Lib.hid (note_full HF.out hs); have N2 := Lib.hid (box_keep42 HBK.out hk); clear HS HBK hs hk HF; have HS := N1; have HBK := N2; clear N1 N2; obtain ⟨p0, p1, p2, p3, p4, p5⟩ := box_see HBK.out)
              | (go_at_call 16; refine (tall_any HS.out ((by have := HB2.out; have := HKN.out; omega))).mono ?_; rintro e w8 ⟨A8, c8, L, rfl, hC, hL, hb⟩; have HC8 := Lib.hid hC; have HL := Lib.hid hL; clear hC hL; have N1 := Lib.hid (St.below HS.out hb); have N2 := Lib.hid (blk_below HBK.out hb); clear HS HBK hb; have HS := N1; have HBK := N2; clear N1 N2; obtain ⟨p0, p1, p2, p3, p4, p5⟩ := box_see HBK.out)
              | (go_at_call 17; refine (rall_any HS.out HL.out).mono ?_; rintro e w9 ⟨A9, c9, rfl, hC, hb⟩; have HC9 := Lib.hid hC; have HCB := Lib.hid (Kd.C_below HC8.out hb); clear hC; have N1 := Lib.hid (St.below HS.out hb); have N2 := Lib.hid (blk_below HBK.out hb); clear HS HBK hb; have HS := N1; have HBK := N2; clear N1 N2; obtain ⟨p0, p1, p2, p3, p4, p5⟩ := box_see HBK.out)
              | (go_at_call 15; refine (alike_same _ _ _ _ L _ HCB.out HC9.out HL.out.2.1 (by have := HL.out.2.2; omega)).mono ?_; rintro e w10 ⟨rfl, hb⟩; have N1 := Lib.hid (St.below HS.out hb); have N2 := Lib.hid (blk_below HBK.out hb); clear HS HBK hb; have HS := N1; have HBK := N2; clear N1 N2; obtain ⟨p0, p1, p2, p3, p4, p5⟩ := box_see HBK.out))
            go_roundw
            case rel => exact ⟨k + 1, A2, n2, c2, _, by omega, by go_num, rfl, HB2.out, HS.out⟩
            case measure => simp [intOf]; omega
          · have er3 : ((r3 : Int) == 0) = false := by rw [beq_eq_false_iff_ne]; exact hr3
            clear hr3
            go_wp2_with (first
              | (go_at_call 9; refine (judge_any t b _ _ y.P y.E y.S y.C _ (St.T HS.out) HOK.out.p).mono ?_; rintro e w4 ⟨he, hb⟩; rw [HJ.out] at he; subst he; have N1 := Lib.hid (St.below HS.out hb); have N2 := Lib.hid (blk_below HBK.out hb); clear HS HBK hb; have HS := N1; have HBK := N2; clear N1 N2; obtain ⟨p0, p1, p2, p3, p4, p5⟩ := box_see HBK.out)
              | (go_at_call 11; refine (rjudge_any HS.out HNL.out y.P y.E y.S y.C HOK.out.s).mono ?_; rintro e w5 ⟨he, hb⟩; rw [HJ.out] at he; subst he; have N1 := Lib.hid (St.below HS.out hb); have N2 := Lib.hid (blk_below HBK.out hb); clear HS HBK hb; have HS := N1; have HBK := N2; clear N1 N2; obtain ⟨p0, p1, p2, p3, p4, p5⟩ := box_see HBK.out))
            go_roundw
            case rel => exact ⟨k + 1, A, n, c, h, by omega, by go_num, rfl, Nat.le_succ_of_le HNK.out, HS.out⟩
            case measure => simp [intOf]; omega
      by_cases k4 : y.K = 4
      · have e1 : ((y.K : Int) == 1) = false := by rw [beq_eq_false_iff_ne]; omega
        have e2 : ((y.K : Int) == 2) = false := by rw [beq_eq_false_iff_ne]; omega
        have e3 : ((y.K : Int) == 3) = false := by rw [beq_eq_false_iff_ne]; omega
        have e4 : ((y.K : Int) == 4) = true := by rw [beq_iff_eq]; omega
        clear k1 k2 k3 k4
        go_wp2_with (first
          | (go_at_call 13; refine (forget_any t b _ _ y.B _ (St.T HS.out) (by have := HNL.out; omega)).mono ?_; rintro e w4 ⟨rfl, hT, hk⟩; have HE : Hid (n = h.length) := St.nl HS.out; have N1 := Lib.hid (St.tab HS.out hT hk); have N2 := Lib.hid (box_kept HBK.out hk (Tab.mp (St.T HS.out)).choose_spec); clear HS HBK hT hk; have HS := N1; have HBK := N2; clear N1 N2; obtain ⟨p0, p1, p2, p3, p4, p5⟩ := box_see HBK.out)
          | (go_at_call 14; refine (rforget_any HS.out HNL.out y.B).mono ?_; rintro e w5 ⟨A2, n2, c2, rfl, hs, hb⟩; have HB2 : Hid (n2 ≤ k + 1) := (by show n2 ≤ k + 1; have e1 := St.nl hs; have e2 := fgt_length y.B h; have e3 := HNK.out; have e4 := HE.out; omega); have N1 := Lib.hid (fgt_full HE.out hs); have N2 := Lib.hid (blk_below HBK.out hb); clear HS HBK hs hb; have HS := N1; have HBK := N2; clear N1 N2; obtain ⟨p0, p1, p2, p3, p4, p5⟩ := box_see HBK.out)
          | (go_at_call 16; refine (tall_any HS.out ((by have := HB2.out; have := HKN.out; omega))).mono ?_; rintro e w8 ⟨A8, c8, L, rfl, hC, hL, hb⟩; have HC8 := Lib.hid hC; have HL := Lib.hid hL; clear hC hL; have N1 := Lib.hid (St.below HS.out hb); have N2 := Lib.hid (blk_below HBK.out hb); clear HS HBK hb; have HS := N1; have HBK := N2; clear N1 N2; obtain ⟨p0, p1, p2, p3, p4, p5⟩ := box_see HBK.out)
          | (go_at_call 17; refine (rall_any HS.out HL.out).mono ?_; rintro e w9 ⟨A9, c9, rfl, hC, hb⟩; have HC9 := Lib.hid hC; have HCB := Lib.hid (Kd.C_below HC8.out hb); clear hC; have N1 := Lib.hid (St.below HS.out hb); have N2 := Lib.hid (blk_below HBK.out hb); clear HS HBK hb; have HS := N1; have HBK := N2; clear N1 N2; obtain ⟨p0, p1, p2, p3, p4, p5⟩ := box_see HBK.out)
          | (go_at_call 15; refine (alike_same _ _ _ _ L _ HCB.out HC9.out HL.out.2.1 (by have := HL.out.2.2; omega)).mono ?_; rintro e w10 ⟨rfl, hb⟩; have N1 := Lib.hid (St.below HS.out hb); have N2 := Lib.hid (blk_below HBK.out hb); clear HS HBK hb; have HS := N1; have HBK := N2; clear N1 N2; obtain ⟨p0, p1, p2, p3, p4, p5⟩ := box_see HBK.out))
        go_roundw
        case rel => exact ⟨k + 1, A2, n2, c2, _, by omega, by go_num, rfl, HB2.out, HS.out⟩
        case measure => simp [intOf]; omega
      have e1 : ((y.K : Int) == 1) = false := by rw [beq_eq_false_iff_ne]; omega
      have e2 : ((y.K : Int) == 2) = false := by rw [beq_eq_false_iff_ne]; omega
      have e3 : ((y.K : Int) == 3) = false := by rw [beq_eq_false_iff_ne]; omega
      have e4 : ((y.K : Int) == 4) = false := by rw [beq_eq_false_iff_ne]; omega
      clear k1 k2 k3 k4
      go_wp2_with (first
        | (go_at_call 16; refine (tall_any HS.out ((by have := HNL.out; omega))).mono ?_; rintro e w8 ⟨A8, c8, L, rfl, hC, hL, hb⟩; have HC8 := Lib.hid hC; have HL := Lib.hid hL; clear hC hL; have N1 := Lib.hid (St.below HS.out hb); have N2 := Lib.hid (blk_below HBK.out hb); clear HS HBK hb; have HS := N1; have HBK := N2; clear N1 N2; obtain ⟨p0, p1, p2, p3, p4, p5⟩ := box_see HBK.out)
        | (go_at_call 17; refine (rall_any HS.out HL.out).mono ?_; rintro e w9 ⟨A9, c9, rfl, hC, hb⟩; have HC9 := Lib.hid hC; have HCB := Lib.hid (Kd.C_below HC8.out hb); clear hC; have N1 := Lib.hid (St.below HS.out hb); have N2 := Lib.hid (blk_below HBK.out hb); clear HS HBK hb; have HS := N1; have HBK := N2; clear N1 N2; obtain ⟨p0, p1, p2, p3, p4, p5⟩ := box_see HBK.out)
        | (go_at_call 15; refine (alike_same _ _ _ _ L _ HCB.out HC9.out HL.out.2.1 (by have := HL.out.2.2; omega)).mono ?_; rintro e w10 ⟨rfl, hb⟩; have N1 := Lib.hid (St.below HS.out hb); have N2 := Lib.hid (blk_below HBK.out hb); clear HS HBK hb; have HS := N1; have HBK := N2; clear N1 N2; obtain ⟨p0, p1, p2, p3, p4, p5⟩ := box_see HBK.out))
      go_roundw
      case rel => exact ⟨k + 1, A, n, c, h, by omega, by go_num, rfl, Nat.le_succ_of_le HNK.out, HS.out⟩
      case measure => simp [intOf]; omega
    · obtain rfl : k = nn := by omega
      have HNL : Hid (n ≤ 1048576) := by show n ≤ 1048576; have := HNK.out; omega
      go_wp2_with (first
        | (go_at_call 16; refine (tall_any HS.out ((by have := HNL.out; omega))).mono ?_; rintro e w8 ⟨A8, c8, L, rfl, hC, hL, hb⟩; have HC8 := Lib.hid hC; have HL := Lib.hid hL; clear hC hL; have N1 := Lib.hid (St.below HS.out hb); clear HS hb; have HS := N1; clear N1)
        | (go_at_call 17; refine (rall_any HS.out HL.out).mono ?_; rintro e w9 ⟨A9, c9, rfl, hC, hb⟩; have HC9 := Lib.hid hC; have HCB := Lib.hid (Kd.C_below HC8.out hb); clear hC; have N1 := Lib.hid (St.below HS.out hb); clear HS hb; have HS := N1; clear N1)
        | (go_at_call 15; refine (alike_same _ _ _ _ L _ HCB.out HC9.out HL.out.2.1 (by have := HL.out.2.2; omega)).mono ?_; rintro e w10 ⟨rfl, hb⟩; have N1 := Lib.hid (St.below HS.out hb); clear HS hb; have HS := N1; clear N1))
      go_ret
      exact ⟨rfl, St.bl HS.out⟩
end Go.Proofs.Ytnooekflmjebiaa
