/- The walk of the law IdemOnce. -/
import Derived.Test.YtnooekflmjebiaaAlive
namespace Go.Proofs.Ytnooekflmjebiaa
open Go Go.RowKit Go.Proofs.YtnooekflmjebiaaW.PrintWords Go.Proofs.Ytnooekflmjebiaa.PIdemPlays
set_option linter.unusedVariables false

/-- A row of ints that is read. -/
def IRow (w : World) (A : Option Addr) (xs : List Int) : Prop :=
  0 < xs.length → ∃ b o, A = some ⟨b, o, none⟩ ∧ b < w.heap.size ∧ ∀ i x, xs[i]? = some x → w.cell? ⟨b, o + i, none⟩ = some (.int .i64 x)
theorem IRow.below {w w' : World} {A : Option Addr} {xs : List Int} (h : IRow w A xs) (hb : Below w.heap.size w w') : IRow w' A xs := fun hn => by
  obtain ⟨b, o, e, hl, hc⟩ := h hn
  exact ⟨b, o, e, Nat.lt_of_lt_of_le hl hb.size, fun i x hx => (hb.cell (p := ⟨b, o + i, none⟩) hl).trans (hc i x hx)⟩

/-- A row of the call's own over a table's Note. -/
theorem R_noted {α : Type} {d : Kd α} {e base b n : Nat} {ok : Nat → Prop} {w w' : World} {v : Value} {xs : List α} {f : Int → Option Value} (h : d.R e w base ok v xs) (hk : Kept (fun j => j = b) w w') (hb : Mp w b n f) : d.R e w' base ok v xs :=
  Kd.R_mono (Kd.R_move (Kd.R_bound h) (fun k hk' => by
    obtain ⟨_, _, hlt, q, _, cells, hc⟩ := hk'
    refine hk.block k hlt ?_
    rintro rfl
    obtain ⟨es, c, h2⟩ := hb.is_map
    rw [hc] at h2
    cases h2)) (fun _ h => h.1)
theorem Tab.row {α : Type} {d : Kd α} {e base ty t b n : Nat} {ok : Nat → Prop} {w w' : World} {v : Value} {xs : List α} {g : Int → Option (Int × List Mk)} (h : Tab w t b n g) (hr : d.R e w base ok v xs) (hg : w.grownBy w' v.ownBlock) (h1 : e ≠ 66) (h2 : e ≠ 56) : Tab w' t b n g :=
  h.grown hg (fun k hk => by obtain ⟨cs, hc⟩ := Kd.R_typed hr k hk; exact ⟨cs, e, hc, h1, h2⟩)

/-- A row of numbers of the call's own, read. -/
theorem R_ints {k : IntKind} {e base : Nat} {ok : Nat → Prop} {w : World} {v : Value} {xs : List Int} (h : (Kd.int k).R e w base ok v xs) :
    ∃ A cap, v = .slice A xs.length cap ∧ ∀ i x, xs[i]? = some x → ∃ gb, A = some ⟨gb, 0, none⟩ ∧ gb < w.heap.size ∧ w.cell? ⟨gb, i, none⟩ = some (.int k x) := by
  have ho : w.ownsRow base e 1 v xs.length (encs (Value.int k) xs) := Kd.own_of_R h
  rcases ho.2 with ⟨rfl, h0⟩ | ⟨g, cap, cur, rfl, hg, hh, h1, h2, h3, h4⟩
  · refine ⟨none, 0, by rw [h0], fun i x hx => ?_⟩
    have := (List.getElem?_eq_some_iff.1 hx).1
    omega
  · refine ⟨_, cap, rfl, fun i x hx => ⟨g, rfl, (Array.getElem?_eq_some_iff.1 hh).1, ?_⟩⟩
    have hi := (List.getElem?_eq_some_iff.1 hx).1
    rw [cell_of_row w g i cur e (0, 0) hh]
    have ht : cur.toList.take (xs.length * 1) = encs (Value.int k) xs := h4
    rw [Nat.mul_one] at ht
    have h5 : (cur.toList.take xs.length)[i]? = (encs (Value.int k) xs)[i]? := by rw [ht]
    rw [List.getElem?_take_of_lt hi] at h5
    rw [← Array.getElem?_toList, h5]
    simp [encs, hx]
theorem R_snoc {k : IntKind} {e base : Nat} {ok : Nat → Prop} {w : World} {v : Value} {xs : List Int} {p : Int} (h : (Kd.int k).R e w base ok v (xs ++ [p])) :
    ∃ gb n cap, v = .slice (some ⟨gb, 0, none⟩) n cap ∧ n = xs.length + 1 ∧ gb < w.heap.size ∧ ∀ i x, (xs ++ [p])[i]? = some x → w.cell? ⟨gb, i, none⟩ = some (.int k x) := by
  obtain ⟨A, cap, rfl, hx⟩ := R_ints h
  obtain ⟨gb, rfl, hl, _⟩ := hx xs.length p (by simp)
  refine ⟨gb, _, cap, rfl, by simp, hl, fun i x hi => ?_⟩
  obtain ⟨gb', e1, _, e2⟩ := hx i x hi
  cases e1
  exact e2

section
variable (pid ep seq0 : Int) (cs : List Int)
/-- What the table remembers when i batches are noted. -/
def gi (i : Nat) : Int → Option (Int × List Mk) := fun x => if x = pid then (if i = 0 then none else some (ep, mks seq0 cs i)) else none
theorem gi_zero : gi pid ep seq0 cs 0 = g0 := by
  funext x
  unfold gi g0
  split <;> rfl
variable {pid ep seq0 cs} (hp : 0 ≤ pid) (he : 0 ≤ ep)
theorem sq_range (i : Nat) : 0 ≤ sq seq0 cs i ∧ sq seq0 cs i ≤ 2147483647 := by unfold sq; omega
include hp he
theorem bad_no {s c : Int} (hs : 0 ≤ s) (hc : 1 ≤ c ∧ c ≤ 256) : badI pid ep s c = false := by
  unfold badI
  rw [if_neg (by omega)]
  simp
  omega
theorem gi_judge {i n : Nat} (hn : n ≤ cs.length) (hpos : ∀ j, j < n → 1 ≤ cs.getD j 0) (htot : tot cs n ≤ 1073741824) (hi : i < n) (h256 : cs.getD i 0 ≤ 256) : judgeT (gi pid ep seq0 cs i) pid ep (sq seq0 cs i) (cs.getD i 0) = (0, false, 0) := by
  unfold judgeT
  rw [bad_no hp he (sq_range i).1 ⟨hpos i hi, h256⟩, if_neg (by decide), if_neg (by omega)]
  have h := once_new (seq0 := seq0) hn hpos htot ep hi
  unfold gi
  rw [if_pos rfl]
  exact h
theorem gi_note {i : Nat} (hc : 1 ≤ cs.getD i 0 ∧ cs.getD i 0 ≤ 256) : noteT (gi pid ep seq0 cs i) pid ep (sq seq0 cs i) (cs.getD i 0) i = (gi pid ep seq0 cs (i + 1), 0) := by
  unfold noteT
  rw [bad_no hp he (sq_range i).1 hc, if_neg (by intro h; rcases h with h | h <;> first | omega | cases h), if_neg (by omega)]
  have h := once_note (seq0 := seq0) (counts := cs) ep i
  congr 1
  funext x
  unfold gi
  by_cases hx : x = pid
  · rw [if_pos hx, if_pos hx, if_pos rfl, if_neg (Nat.succ_ne_zero i)]
    exact congrArg some h
  · rw [if_neg hx, if_neg hx, if_neg hx]
theorem gi_again {i k n : Nat} (hn : n ≤ cs.length) (hpos : ∀ j, j < n → 1 ≤ cs.getD j 0) (h256 : ∀ j, j < n → cs.getD j 0 ≤ 256) (htot : tot cs n ≤ 1073741824) (hi : i < n) (hk : k ≤ i) :
    judgeT (gi pid ep seq0 cs (i + 1)) pid ep (sq seq0 cs k) (cs.getD k 0) = if i - k < 5 then ((k : Int), true, 0) else (0, false, 211) := by
  unfold judgeT
  rw [bad_no hp he (sq_range k).1 ⟨hpos k (by omega), h256 k (by omega)⟩, if_neg (by decide), if_neg (by omega)]
  have h := once_again (seq0 := seq0) hn hpos htot ep hi hk
  unfold gi
  rw [if_pos rfl, if_neg (by omega)]
  exact h
omit hp he in
theorem sq_succ {i : Nat} (hi : i < cs.length) : (sq seq0 cs i + cs.getD i 0) % 2147483648 = sq seq0 cs (i + 1) := by
  unfold sq
  rw [tot_succ cs i hi]
  omega
omit hp he in
theorem sq_zero (h0 : 0 ≤ seq0) (h1 : seq0 ≤ 2147483647) : sq seq0 cs 0 = seq0 := by
  unfold sq tot
  simp
  omega
end

set_option maxRecDepth 100000 in
set_option maxHeartbeats 4000000 in
theorem once_any (w : World) (pid ep seq0 : Int) (cs ag : List Int) (A1 A2 : Option Addr) (c1 c2 : Nat) (hp1 : wf64 pid) (he1 : ep ≤ 32767) (hs1 : seq0 ≤ 2147483647) (hm1 : cs.length * 8 ≤ 140737488355328) (hm2 : ag.length * 8 ≤ 140737488355328)
    (h1 : IRow w A1 cs) (h2 : IRow w A2 ag) (hw1 : ∀ x ∈ cs, wf64 x) :
    Calls Try.prog 3 #[.int .i64 pid, .int .i16 ep, .int .i32 seq0, .slice A1 cs.length c1, .slice A2 ag.length c2] w fun e w' => e = .returned (.bool true) ∧ Below w.heap.size w w' := by
  have HR1 := Lib.hid h1
  have HR2 := Lib.hid h2
  have HW1 := Lib.hid hw1
  clear h1 h2 hw1
  obtain ⟨n1, hn1⟩ : ∃ n, n = cs.length := ⟨_, rfl⟩
  obtain ⟨n2, hn2⟩ : ∃ n, n = ag.length := ⟨_, rfl⟩
  have HN1 := Lib.hid hn1
  have HN2 := Lib.hid hn2
  rw [← hn1] at hm1 ⊢
  rw [← hn2] at hm2 ⊢
  clear hn1 hn2
  by_cases hbad : pid < 0 ∨ ep < 0 ∨ seq0 < 0
  · by_cases hb1 : pid < 0
    · go_enter Try.func3, Try.ntmps3
      go_wp2_with (first
        | (go_at_call 7; refine (new_any _).mono ?_; rintro e w1 ⟨t, b, rfl, hT, ht, hbl, hb1⟩; have HB := Lib.hid hb1; clear hT hb1 ht hbl)
        | (go_at_call 8; refine (alive_any _).mono ?_; rintro e w2 ⟨rfl, hb⟩; have HB2 := Lib.hid (HB.out.trans (hb.mono HB.out.size)); clear HB hb))
      go_ret
      exact ⟨rfl, HB2.out⟩
    · by_cases hb2 : ep < 0
      · go_enter Try.func3, Try.ntmps3
        go_wp2_with (first
          | (go_at_call 7; refine (new_any _).mono ?_; rintro e w1 ⟨t, b, rfl, hT, ht, hbl, hb1⟩; have HB := Lib.hid hb1; clear hT hb1 ht hbl)
          | (go_at_call 8; refine (alive_any _).mono ?_; rintro e w2 ⟨rfl, hb⟩; have HB2 := Lib.hid (HB.out.trans (hb.mono HB.out.size)); clear HB hb))
        go_ret
        exact ⟨rfl, HB2.out⟩
      · have hb3 : seq0 < 0 := by omega
        go_enter Try.func3, Try.ntmps3
        go_wp2_with (first
          | (go_at_call 7; refine (new_any _).mono ?_; rintro e w1 ⟨t, b, rfl, hT, ht, hbl, hb1⟩; have HB := Lib.hid hb1; clear hT hb1 ht hbl)
          | (go_at_call 8; refine (alive_any _).mono ?_; rintro e w2 ⟨rfl, hb⟩; have HB2 := Lib.hid (HB.out.trans (hb.mono HB.out.size)); clear HB hb))
        go_ret
        exact ⟨rfl, HB2.out⟩
  · have hp0 : 0 ≤ pid := by omega
    have he0 : 0 ≤ ep := by omega
    have hs0 : 0 ≤ seq0 := by omega
    clear hbad
    go_enter Try.func3, Try.ntmps3
    go_wp2_with (first
      | (go_at_call 7; refine (new_any _).mono ?_; rintro e w1 ⟨t, b, rfl, hT, ht, hbl, hb1⟩; have HT := Lib.hid (new_tab hT); have HB := Lib.hid hb1; have HTL := Lib.hid (And.intro ht hbl); clear hT hb1 ht hbl)
      | (go_at_call 8; refine (alive_any _).mono ?_; rintro e w2 ⟨rfl, hb⟩; have HT2 := Lib.hid (HT.out.below hb); have HB2 := Lib.hid (HB.out.trans (hb.mono HB.out.size)); clear HB HT hb))
    have hb := HB2.out
    rename World => w2
    have HTAB := HT2
    have hO : Hid ((Kd.int .i32).R 21 (w2.alloc (.cells #[] 21)) w.heap.size (fun _ => True) (.slice (some ⟨w2.heap.size, 0, none⟩) 0 0) ([] : List Int)) :=
      Kd.R_of_own (enc := Value.int .i32) ⟨rfl, .inr ⟨w2.heap.size, 0, #[], rfl, hb.size, heap_alloc_new _ _, Nat.le_refl _, by decide, by decide, rfl⟩⟩ (fun _ _ => trivial)
    have hB3 : Hid (Below w.heap.size w (w2.alloc (.cells #[] 21))) := hb.alloc hb.size _
    have hT3 : Hid (Tab (w2.alloc (.cells #[] 21)) t b 0 g0) := HTAB.out.below ((Below.refl _ _).alloc (Nat.le_refl _) _)
    clear hb HT2 HB2 HTAB
    go_loopw [2, 12, 13, 44] (fun s vs tt i wr => ∃ (k : Nat), k ≤ n1 ∧ i = .int .i64 k ∧ s = .int .i32 (sq seq0 cs k) ∧ tt = .int .i64 (tot cs k) ∧ Hid (tot cs k ≤ 1073741824 ∧ k ≤ tot cs k) ∧ Hid (∀ j, j < k → 1 ≤ cs.getD j 0 ∧ cs.getD j 0 ≤ 256) ∧
      Hid ((Kd.int .i32).R 21 wr w.heap.size (fun _ => True) vs ((List.range k).map (sq seq0 cs))) ∧ Hid (Tab wr t b k (gi pid ep seq0 cs k)) ∧ Hid (Below w.heap.size w wr)) (fun _ _ _ i _ => n1 - (intOf i).toNat)
    case atStart => exact ⟨0, Nat.zero_le _, rfl, by rw [sq_zero hs0 hs1], rfl, by show _ ∧ _; simp [tot], by show ∀ _, _; intro j hj; omega, hO.out, by show Tab _ _ _ _ _; rw [gi_zero]; exact hT3.out, hB3.out⟩
    case round =>
      rename World => wr
      obtain ⟨k, hk, rfl, rfl, rfl, HTOT, HPOS, HVS, HTAB, HBW⟩ := hrel
      by_cases hkn : k < n1
      · obtain ⟨b1, o1, hA1, hbl1, hcell1⟩ := (HR1.out.below HBW.out) (by have := HN1.out; omega)
        subst hA1
        obtain ⟨c, hc⟩ : ∃ c, cs[k]? = some c := ⟨_, List.getElem?_eq_getElem (by have := HN1.out; omega)⟩
        have hcell := hcell1 k c hc
        have hcw := HW1.out c (List.mem_of_getElem? hc)
        have hcd : cs.getD k 0 = c := by rw [List.getD_eq_getElem?_getD, hc]; rfl
        have hts : tot cs (k + 1) = tot cs k + c := by rw [tot_succ cs k (by have := HN1.out; omega), hcd]
        obtain ⟨T, hT⟩ : ∃ T, T = tot cs k := ⟨_, rfl⟩
        have HTE := Lib.hid hT
        rw [← hT] at hts ⊢
        have htl := HTOT.out
        rw [← hT] at htl
        obtain ⟨htl1, htl2⟩ := htl
        have HC := Lib.hid hc
        have HCD := Lib.hid hcd
        have HTS := Lib.hid hts
        obtain ⟨s, hs⟩ : ∃ s, s = sq seq0 cs k := ⟨_, rfl⟩
        have hs1' := sq_range (seq0 := seq0) (cs := cs) k
        rw [← hs] at hs1' ⊢
        have HSE := Lib.hid hs
        obtain ⟨hcw1, hcw2⟩ := hcw
        obtain ⟨hs0', hs1''⟩ := hs1'
        clear hcell1 hc hcd hts hT hs
        by_cases hb1 : c < 1
        · go_wp2_with fail
          go_ret
          exact ⟨rfl, HBW.out⟩
        · by_cases hb2 : 256 < c
          · go_wp2_with fail
            go_ret
            exact ⟨rfl, HBW.out⟩
          · by_cases hb3 : 1073741824 < T + c
            · go_wp2_with fail
              go_ret
              exact ⟨rfl, HBW.out⟩
            · have hk1 : k + 1 ≤ cs.length := by have := HN1.out; omega
              have hpos : ∀ j, j < k + 1 → 1 ≤ cs.getD j 0 ∧ cs.getD j 0 ≤ 256 := fun j hj => by
                rcases Nat.lt_or_ge j k with h | h
                · exact HPOS.out j h
                · obtain rfl : j = k := by omega
                  rw [HCD.out]
                  omega
              have htot : tot cs (k + 1) ≤ 1073741824 := by rw [HTS.out]; omega
              have ej : judgeT (gi pid ep seq0 cs k) pid ep s c = (0, false, 0) := by
                rw [HSE.out, ← HCD.out]
                exact gi_judge hp0 he0 hk1 (fun j hj => (hpos j hj).1) htot (Nat.lt_succ_self k) (hpos k (Nat.lt_succ_self k)).2
              have en : noteT (gi pid ep seq0 cs k) pid ep s c (k : Int) = (gi pid ep seq0 cs (k + 1), 0) := by
                rw [HSE.out, ← HCD.out]
                exact gi_note hp0 he0 (hpos k (Nat.lt_succ_self k))
              have HJ := Lib.hid (fun (W : World) (n : Nat) (h : Tab W t b n (gi pid ep seq0 cs k)) => by
                have := judge_any t b n _ pid ep s c W h hp1
                rw [ej] at this
                exact this)
              have HJN := Lib.hid (fun (W : World) (h : Tab W t b k (gi pid ep seq0 cs k)) => by
                have := note_any t b k _ pid ep s c (k : Int) W h hp1 he1 hs1'' (by omega) (by unfold maxLen; omega)
                rw [en] at this
                exact this)
              clear ej en
              obtain ⟨s', hs'⟩ : ∃ s', s' = sq seq0 cs (k + 1) := ⟨_, rfl⟩
              have hsr := sq_range (seq0 := seq0) (cs := cs) (k + 1)
              have hsc : (s + c) % 2147483648 = s' := by rw [hs', HSE.out, ← HCD.out]; exact sq_succ (by omega)
              rw [← hs'] at hsr
              obtain ⟨hsr0, hsr1⟩ := hsr
              have HSE2 := Lib.hid hs'
              have HPOS2 := Lib.hid hpos
              have HTOT2 := Lib.hid htot
              have htc : 0 ≤ T := by omega
              clear hs' hpos htot
              have hrng : (List.range (k + 1)).map (sq seq0 cs) = (List.range k).map (sq seq0 cs) ++ [s] := by rw [List.range_succ, List.map_append, HSE.out]; rfl
              have HRNG := Lib.hid hrng
              clear hrng
              by_cases hag : k < n2
              · obtain ⟨b2, o2, hA2, hbl2, hcell2⟩ := HR2.out (by have := HN2.out; omega)
                subst hA2
                obtain ⟨a, ha⟩ : ∃ a, ag[k]? = some a := ⟨_, List.getElem?_eq_getElem (by have := HN2.out; omega)⟩
                have HCELL := Lib.hid (show ∀ W, Below w.heap.size w W → W.cell? ⟨b2, o2 + k, none⟩ = some (.int .i64 a) from fun W hb => (hb.cell (p := ⟨b2, o2 + k, none⟩) hbl2).trans (hcell2 k a ha))
                clear hcell2 ha
                by_cases ha0 : a < 0
                · go_wp2_with (first
                | (go_at_call 9; refine (HJ.out _ _ HTAB.out).mono ?_; rintro e w3 ⟨rfl, hb⟩; have N1 := Lib.hid (HTAB.out.below hb); have N2 := Lib.hid (Kd.R_below HVS.out hb); have N3 := Lib.hid (HBW.out.trans (hb.mono HBW.out.size)); clear HTAB HVS HBW hb; have HTB := N1; have HVS := N2; have HBW := N3; clear N1 N2 N3)
                | (go_at_call 10; refine (HJN.out _ HTB.out).mono ?_; rintro e w4 ⟨rfl, hT, hkk⟩; have N1 := Lib.hid hT; have N2 := Lib.hid (R_noted HVS.out hkk HTB.out.mp.choose_spec); have N3 := Lib.hid (HBW.out.trans (hkk.below HBW.out.size (fun j hj => by rw [hj]; exact HTL.out.2))); clear HTB HVS HBW hT hkk; have HTC := N1; have HVS := N2; have HBW := N3; clear N1 N2 N3)
                | (at_builtin; refine Kd.R_append (Kd.int .i32) (w0 := w) w.heap.size rfl _ _ 27 21 (.int .i32 0) 4 rfl Try.underlying27 info21 rfl (by decide) (by decide) u12 _ s [.int .i32 s] (fun _ => True) (fun _ => False) rfl rfl rfl (fun _ h => h.elim) (fun _ _ => trivial) HVS.out HBW.out HBW.out.size (by rw [List.length_map, List.length_range]; omega) ?_; intro v5 w5 hr hb hg hat; have N1 := Lib.hid (HTC.out.row (ty := 0) HVS.out hg (by decide) (by decide)); obtain ⟨gs, n5, q5, rfl, hn5, hgs, hrd⟩ := R_snoc hr; have N2 := Lib.hid hr; have N3 := Lib.hid hb; have HRD := Lib.hid hrd; have HN5 := Lib.hid hn5; clear HTC HVS HBW hr hb hg hat hrd hn5; have HTD := N1; have HVS := N2; have HBW := N3; clear N1 N2 N3; have hcells := HCELL.out _ HBW.out))
                  go_roundw
                  case rel => exact ⟨k + 1, by omega, by go_num, by rw [HSE2.out], by rw [HTS.out], by show _ ∧ _; exact ⟨HTOT2.out, by rw [HTS.out]; omega⟩, HPOS2.out, by rw [HRNG.out]; exact HVS.out, HTD.out, HBW.out⟩
                  case measure => simp [intOf]; omega
                · by_cases hak : (k : Int) < a
                  · go_wp2_with (first
                | (go_at_call 9; refine (HJ.out _ _ HTAB.out).mono ?_; rintro e w3 ⟨rfl, hb⟩; have N1 := Lib.hid (HTAB.out.below hb); have N2 := Lib.hid (Kd.R_below HVS.out hb); have N3 := Lib.hid (HBW.out.trans (hb.mono HBW.out.size)); clear HTAB HVS HBW hb; have HTB := N1; have HVS := N2; have HBW := N3; clear N1 N2 N3)
                | (go_at_call 10; refine (HJN.out _ HTB.out).mono ?_; rintro e w4 ⟨rfl, hT, hkk⟩; have N1 := Lib.hid hT; have N2 := Lib.hid (R_noted HVS.out hkk HTB.out.mp.choose_spec); have N3 := Lib.hid (HBW.out.trans (hkk.below HBW.out.size (fun j hj => by rw [hj]; exact HTL.out.2))); clear HTB HVS HBW hT hkk; have HTC := N1; have HVS := N2; have HBW := N3; clear N1 N2 N3)
                | (at_builtin; refine Kd.R_append (Kd.int .i32) (w0 := w) w.heap.size rfl _ _ 27 21 (.int .i32 0) 4 rfl Try.underlying27 info21 rfl (by decide) (by decide) u12 _ s [.int .i32 s] (fun _ => True) (fun _ => False) rfl rfl rfl (fun _ h => h.elim) (fun _ _ => trivial) HVS.out HBW.out HBW.out.size (by rw [List.length_map, List.length_range]; omega) ?_; intro v5 w5 hr hb hg hat; have N1 := Lib.hid (HTC.out.row (ty := 0) HVS.out hg (by decide) (by decide)); obtain ⟨gs, n5, q5, rfl, hn5, hgs, hrd⟩ := R_snoc hr; have N2 := Lib.hid hr; have N3 := Lib.hid hb; have HRD := Lib.hid hrd; have HN5 := Lib.hid hn5; clear HTC HVS HBW hr hb hg hat hrd hn5; have HTD := N1; have HVS := N2; have HBW := N3; clear N1 N2 N3; have hcells := HCELL.out _ HBW.out))
                    go_roundw
                    case rel => exact ⟨k + 1, by omega, by go_num, by rw [HSE2.out], by rw [HTS.out], by show _ ∧ _; exact ⟨HTOT2.out, by rw [HTS.out]; omega⟩, HPOS2.out, by rw [HRNG.out]; exact HVS.out, HTD.out, HBW.out⟩
                    case measure => simp [intOf]; omega
                  · obtain ⟨kk, hkk⟩ : ∃ kk : Nat, (k : Int) - a = kk := ⟨((k : Int) - a).toNat, by omega⟩
                    have hkk1 : kk ≤ k := by omega
                    obtain ⟨sk, hsk⟩ : ∃ sk, sk = sq seq0 cs kk := ⟨_, rfl⟩
                    obtain ⟨ck, hck⟩ : ∃ ck, ck = cs.getD kk 0 := ⟨_, rfl⟩
                    have HSK := Lib.hid (show ((List.range k).map (sq seq0 cs) ++ [s])[kk]? = some sk by
                      rw [← HRNG.out, hsk]
                      simp [show kk < k + 1 by omega])
                    have HCELL1 := Lib.hid (show ∀ W, Below w.heap.size w W → W.cell? ⟨b1, o1 + kk, none⟩ = some (.int .i64 ck) from fun W hb => by
                      obtain ⟨b1', o1', hA1', hbl1', hcell1'⟩ := HR1.out (by have := HN1.out; omega)
                      cases hA1'
                      refine (hb.cell (p := ⟨b1, o1 + kk, none⟩) hbl1').trans (hcell1' kk ck ?_)
                      rw [hck, List.getD_eq_getElem?_getD, List.getElem?_eq_getElem (by have := HN1.out; omega)]
                      rfl)
                    have ek : judgeT (gi pid ep seq0 cs (k + 1)) pid ep sk ck = if k - kk < 5 then ((kk : Int), true, 0) else (0, false, 211) := by
                      rw [hsk, hck]
                      exact gi_again hp0 he0 hk1 (fun j hj => (HPOS2.out j hj).1) (fun j hj => (HPOS2.out j hj).2) HTOT2.out (Nat.lt_succ_self k) hkk1
                    by_cases ha5 : a < 5
                    · rw [if_pos (by omega)] at ek
                      have HJ2 := Lib.hid (fun (W : World) (n : Nat) (h : Tab W t b n (gi pid ep seq0 cs (k + 1))) => by
                        have := judge_any t b n _ pid ep sk ck W h hp1
                        rw [ek] at this
                        exact this)
                      clear ek hsk hck
                      go_wp2_with (first
                | (go_at_call 9; refine (HJ.out _ _ HTAB.out).mono ?_; rintro e w3 ⟨rfl, hb⟩; have N1 := Lib.hid (HTAB.out.below hb); have N2 := Lib.hid (Kd.R_below HVS.out hb); have N3 := Lib.hid (HBW.out.trans (hb.mono HBW.out.size)); clear HTAB HVS HBW hb; have HTB := N1; have HVS := N2; have HBW := N3; clear N1 N2 N3)
                | (go_at_call 10; refine (HJN.out _ HTB.out).mono ?_; rintro e w4 ⟨rfl, hT, hkk⟩; have N1 := Lib.hid hT; have N2 := Lib.hid (R_noted HVS.out hkk HTB.out.mp.choose_spec); have N3 := Lib.hid (HBW.out.trans (hkk.below HBW.out.size (fun j hj => by rw [hj]; exact HTL.out.2))); clear HTB HVS HBW hT hkk; have HTC := N1; have HVS := N2; have HBW := N3; clear N1 N2 N3)
                | (at_builtin; refine Kd.R_append (Kd.int .i32) (w0 := w) w.heap.size rfl _ _ 27 21 (.int .i32 0) 4 rfl Try.underlying27 info21 rfl (by decide) (by decide) u12 _ s [.int .i32 s] (fun _ => True) (fun _ => False) rfl rfl rfl (fun _ h => h.elim) (fun _ _ => trivial) HVS.out HBW.out HBW.out.size (by rw [List.length_map, List.length_range]; omega) ?_; intro v5 w5 hr hb hg hat; have N1 := Lib.hid (HTC.out.row (ty := 0) HVS.out hg (by decide) (by decide)); obtain ⟨gs, n5, q5, rfl, hn5, hgs, hrd⟩ := R_snoc hr; have N2 := Lib.hid hr; have N3 := Lib.hid hb; have HRD := Lib.hid hrd; have HN5 := Lib.hid hn5; clear HTC HVS HBW hr hb hg hat hrd hn5; have HTD := N1; have HVS := N2; have HBW := N3; clear N1 N2 N3; have hcells := HCELL.out _ HBW.out; have hcells1 := HCELL1.out _ HBW.out; have hsk := HRD.out kk sk HSK.out; have hkn5 : kk < n5 := (by have h_ := HN5.out; rw [List.length_map, List.length_range] at h_; omega); have HT6 := Lib.hid (HTD.out.below (Below.refl _ _).drew); clear HRD HN5))
                      go_region_with (go_at_call 9; refine (HJ2.out _ _ HT6.out).mono ?_; rintro e w6 ⟨rfl, hb⟩)
                      all_goals
                        have N3 := Lib.hid (HBW.out.trans (((Below.refl _ _).drew.trans hb).mono HBW.out.size))
                        have N2 := Lib.hid (Kd.R_below HVS.out ((Below.refl _ _).drew.trans hb))
                        have N1 := Lib.hid (HT6.out.below hb)
                        have hc6 := HCELL.out _ N3.out
                        clear HTD HVS HBW HT6 hb hcells
                        have HTD := N1
                        have HVS := N2
                        have HBW := N3
                        clear N1 N2 N3
                        go_wp2_with fail
                        go_roundw
                        case rel => exact ⟨k + 1, by omega, by go_num, by rw [HSE2.out], by rw [HTS.out], by show _ ∧ _; exact ⟨HTOT2.out, by rw [HTS.out]; omega⟩, HPOS2.out, by rw [HRNG.out]; exact HVS.out, HTD.out, HBW.out⟩
                        case measure => simp [intOf]; omega
                    · rw [if_neg (by omega)] at ek
                      have HJ2 := Lib.hid (fun (W : World) (n : Nat) (h : Tab W t b n (gi pid ep seq0 cs (k + 1))) => by
                        have := judge_any t b n _ pid ep sk ck W h hp1
                        rw [ek] at this
                        exact this)
                      clear ek hsk hck
                      go_wp2_with (first
                | (go_at_call 9; refine (HJ.out _ _ HTAB.out).mono ?_; rintro e w3 ⟨rfl, hb⟩; have N1 := Lib.hid (HTAB.out.below hb); have N2 := Lib.hid (Kd.R_below HVS.out hb); have N3 := Lib.hid (HBW.out.trans (hb.mono HBW.out.size)); clear HTAB HVS HBW hb; have HTB := N1; have HVS := N2; have HBW := N3; clear N1 N2 N3)
                | (go_at_call 10; refine (HJN.out _ HTB.out).mono ?_; rintro e w4 ⟨rfl, hT, hkk⟩; have N1 := Lib.hid hT; have N2 := Lib.hid (R_noted HVS.out hkk HTB.out.mp.choose_spec); have N3 := Lib.hid (HBW.out.trans (hkk.below HBW.out.size (fun j hj => by rw [hj]; exact HTL.out.2))); clear HTB HVS HBW hT hkk; have HTC := N1; have HVS := N2; have HBW := N3; clear N1 N2 N3)
                | (at_builtin; refine Kd.R_append (Kd.int .i32) (w0 := w) w.heap.size rfl _ _ 27 21 (.int .i32 0) 4 rfl Try.underlying27 info21 rfl (by decide) (by decide) u12 _ s [.int .i32 s] (fun _ => True) (fun _ => False) rfl rfl rfl (fun _ h => h.elim) (fun _ _ => trivial) HVS.out HBW.out HBW.out.size (by rw [List.length_map, List.length_range]; omega) ?_; intro v5 w5 hr hb hg hat; have N1 := Lib.hid (HTC.out.row (ty := 0) HVS.out hg (by decide) (by decide)); obtain ⟨gs, n5, q5, rfl, hn5, hgs, hrd⟩ := R_snoc hr; have N2 := Lib.hid hr; have N3 := Lib.hid hb; have HRD := Lib.hid hrd; have HN5 := Lib.hid hn5; clear HTC HVS HBW hr hb hg hat hrd hn5; have HTD := N1; have HVS := N2; have HBW := N3; clear N1 N2 N3; have hcells := HCELL.out _ HBW.out; have hcells1 := HCELL1.out _ HBW.out; have hsk := HRD.out kk sk HSK.out; have hkn5 : kk < n5 := (by have h_ := HN5.out; rw [List.length_map, List.length_range] at h_; omega); have HT6 := Lib.hid (HTD.out.below (Below.refl _ _).drew); clear HRD HN5))
                      go_region_with (go_at_call 9; refine (HJ2.out _ _ HT6.out).mono ?_; rintro e w6 ⟨rfl, hb⟩)
                      all_goals
                        have N3 := Lib.hid (HBW.out.trans (((Below.refl _ _).drew.trans hb).mono HBW.out.size))
                        have N2 := Lib.hid (Kd.R_below HVS.out ((Below.refl _ _).drew.trans hb))
                        have N1 := Lib.hid (HT6.out.below hb)
                        have hc6 := HCELL.out _ N3.out
                        clear HTD HVS HBW HT6 hb hcells
                        have HTD := N1
                        have HVS := N2
                        have HBW := N3
                        clear N1 N2 N3
                        go_wp2_with fail
                        go_roundw
                        case rel => exact ⟨k + 1, by omega, by go_num, by rw [HSE2.out], by rw [HTS.out], by show _ ∧ _; exact ⟨HTOT2.out, by rw [HTS.out]; omega⟩, HPOS2.out, by rw [HRNG.out]; exact HVS.out, HTD.out, HBW.out⟩
                        case measure => simp [intOf]; omega
              · go_wp2_with (first
                | (go_at_call 9; refine (HJ.out _ _ HTAB.out).mono ?_; rintro e w3 ⟨rfl, hb⟩; have N1 := Lib.hid (HTAB.out.below hb); have N2 := Lib.hid (Kd.R_below HVS.out hb); have N3 := Lib.hid (HBW.out.trans (hb.mono HBW.out.size)); clear HTAB HVS HBW hb; have HTB := N1; have HVS := N2; have HBW := N3; clear N1 N2 N3)
                | (go_at_call 10; refine (HJN.out _ HTB.out).mono ?_; rintro e w4 ⟨rfl, hT, hkk⟩; have N1 := Lib.hid hT; have N2 := Lib.hid (R_noted HVS.out hkk HTB.out.mp.choose_spec); have N3 := Lib.hid (HBW.out.trans (hkk.below HBW.out.size (fun j hj => by rw [hj]; exact HTL.out.2))); clear HTB HVS HBW hT hkk; have HTC := N1; have HVS := N2; have HBW := N3; clear N1 N2 N3)
                | (at_builtin; refine Kd.R_append (Kd.int .i32) (w0 := w) w.heap.size rfl _ _ 27 21 (.int .i32 0) 4 rfl Try.underlying27 info21 rfl (by decide) (by decide) u12 _ s [.int .i32 s] (fun _ => True) (fun _ => False) rfl rfl rfl (fun _ h => h.elim) (fun _ _ => trivial) HVS.out HBW.out HBW.out.size (by rw [List.length_map, List.length_range]; omega) ?_; intro v5 w5 hr hb hg hat; have N1 := Lib.hid (HTC.out.row (ty := 0) HVS.out hg (by decide) (by decide)); obtain ⟨gs, n5, q5, rfl, hn5, hgs, hrd⟩ := R_snoc hr; have N2 := Lib.hid hr; have N3 := Lib.hid hb; have HRD := Lib.hid hrd; have HN5 := Lib.hid hn5; clear HTC HVS HBW hr hb hg hat hrd hn5; have HTD := N1; have HVS := N2; have HBW := N3; clear N1 N2 N3))
                go_roundw
                case rel => exact ⟨k + 1, by omega, by go_num, by rw [HSE2.out], by rw [HTS.out], by show _ ∧ _; exact ⟨HTOT2.out, by rw [HTS.out]; omega⟩, HPOS2.out, by rw [HRNG.out]; exact HVS.out, HTD.out, HBW.out⟩
                case measure => simp [intOf]; omega
      · go_wp2_with fail
        go_ret
        exact ⟨rfl, HBW.out⟩
end Go.Proofs.Ytnooekflmjebiaa
