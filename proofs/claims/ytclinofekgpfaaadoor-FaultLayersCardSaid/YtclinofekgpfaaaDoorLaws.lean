/- The laws FaultFinds and FaultLayers. -/
import Derived.Test.YtclinofekgpfaaaDoorText
import Derived.Deep.CutRange
namespace Go.Proofs.YtclinofekgpfaaaDoor
open Go Go.RowKit
set_option linter.unusedVariables false

section
variable (w : World) (e : Int) (ps : List Int) (A : Option Addr) (c n : Nat) (hn : ps.length = n) (hm : n * 8 ≤ 140737488355328) (hr : IRow w A ps) (hg : Laid w)
include hn hm hr hg

set_option maxHeartbeats 2000000 in
theorem finds_any (o : Int) : Calls Tryd.prog 6 #[.int .i64 e, .int .i64 o, .slice A n c] w fun r w' => r = .returned (.bool true) ∧ Below w.heap.size w w' := by
  have HN := Lib.hid hn
  have HR := Lib.hid hr
  have HG := Lib.hid hg
  clear hn hr hg
  by_cases he : e = 0
  · subst he
    go_enter Tryd.func6, Tryd.ntmps6
    go_wp2_with fail
    refine (alive_any w HG.out).mono ?_
    rintro r w1 ⟨rfl, h1⟩
    have B1 := Lib.hid h1
    clear h1
    go_wp2_with fail
    refine (wrap_nil _ _ _ _).mono ?_
    rintro r w2 ⟨rfl, rfl⟩
    go_wp2_with fail
    go_ret
    exact ⟨rfl, B1.out⟩
  · have HE := Lib.hid he
    have hz : (e == 0) = false := by simpa using he
    clear he
    go_enter Tryd.func6, Tryd.ntmps6
    go_wp2_with fail
    refine (alive_any w HG.out).mono ?_
    rintro r w1 ⟨rfl, h1⟩
    have B1 := Lib.hid h1
    have R1 := Lib.hid (HR.out.below h1)
    clear h1
    go_wp2_with fail
    refine (wrap_any w1 e HE.out ps A c n HN.out (by omega) R1.out).mono ?_
    rintro r w2 ⟨v, rfl, hch, h2⟩
    have B2 : Hid (Below w.heap.size w w2) := B1.out.trans (h2.mono B1.out.size)
    have HCH := Lib.hid hch
    have hee : (e == e) = true := by simp
    have HEE := Lib.hid hee
    rcases hch.form with rfl | ⟨b, rfl⟩
    all_goals
      clear hch h2 hee
      go_wp2_with fail
      refine (is_any w2 e e _ _ HCH.out).mono ?_
      rintro r w3 ⟨rfl, h3⟩
      rw [HEE.out]
      have B3 : Hid (Below w.heap.size w w3) := B2.out.trans (h3.mono B2.out.size)
      have C3 := Lib.hid ((HCH.out.below h3).mono h3.size)
      clear h3
      go_wp2_with fail
      refine (is_any w3 e o _ _ C3.out).mono ?_
      rintro r w4 ⟨rfl, h4⟩
      have B4 : Hid (Below w.heap.size w w4) := B3.out.trans (h4.mono B3.out.size)
      clear h4
      go_wp2_with fail
      go_ret
      exact ⟨by simp, B4.out⟩

set_option maxHeartbeats 4000000 in
theorem layers_any (hcap : n ≤ c) : Calls Tryd.prog 5 #[.int .i64 e, .slice A n c] w fun r w' => r = .returned (.bool true) ∧ Below w.heap.size w w' := by
  have HN := Lib.hid hn
  have HR := Lib.hid hr
  have HG := Lib.hid hg
  clear hn hr hg
  by_cases he : e = 0
  · subst he
    go_enter Tryd.func5, Tryd.ntmps5
    go_wp2_with fail
    refine (alive_any w HG.out).mono ?_
    rintro r w1 ⟨rfl, h1⟩
    have B1 := Lib.hid h1
    clear h1
    go_wp2_with fail
    go_ret
    exact ⟨rfl, B1.out⟩
  · have HE := Lib.hid he
    have hz : (e == 0) = false := by simpa using he
    clear he
    go_enter Tryd.func5, Tryd.ntmps5
    go_wp2_with fail
    refine (alive_any w HG.out).mono ?_
    rintro r w1 ⟨rfl, h1⟩
    have B1 := Lib.hid h1
    have R1 := Lib.hid (HR.out.below h1)
    clear h1
    go_wp2_with fail
    refine (wrap_any w1 e HE.out ps A c n HN.out (by omega) R1.out).mono ?_
    rintro r w2 ⟨v, rfl, hch, h2⟩
    have B2 : Hid (Below w.heap.size w w2) := B1.out.trans (h2.mono B1.out.size)
    have HCH := Lib.hid hch
    clear hch h2
    go_wp2_with fail
    go_loopw [5, 6] (fun u i wr => ∃ k : Nat, i = .int .i64 (k : Int) ∧ k ≤ n ∧ Chain wr wr.heap.size e (ps.take (n - k)).reverse u ∧ Below w.heap.size w wr) (fun _ i _ => n - (intOf i).toNat)
    case atStart => exact ⟨0, rfl, Nat.zero_le _, by rw [Nat.sub_zero, ← HN.out, List.take_length]; exact HCH.out, B2.out⟩
    case round =>
      obtain ⟨k, rfl, hkn, hch, hbr⟩ := hrel
      have BR := Lib.hid hbr
      have HC2 := Lib.hid hch
      have GR : Hid (Laid wr) := HG.out.below hbr HG.out.lt
      have RR : Hid (IRow wr A ps) := HR.out.below hbr
      by_cases hlt : k < n
      · obtain ⟨q, hq⟩ : ∃ q, q = n - k := ⟨_, rfl⟩
        have hw : IntKind.i64.wrap ((n : Int) - (k : Int)) = (q : Int) := by rw [IntWalk.i64_in _ (by omega)]; omega
        have hq0 : (0 : Int) ≤ (q : Int) := by omega
        have hqc : (q : Int) ≤ (c : Int) := by omega
        have hq1 : 1 ≤ q := by omega
        have hqb : q * 8 ≤ 140737488355328 := by omega
        have hlq : (ps.take q).length = q := by rw [List.length_take, HN.out]; omega
        have hlr : (ps.take q).reverse.length = q := by rw [List.length_reverse, hlq]
        have HLQ := Lib.hid hlq
        have HLR := Lib.hid hlr
        have HQ := Lib.hid hq
        rw [← hq] at hch
        have hform : ∃ b, u5 = .iface 43 (.pointer (some ⟨b, 0, none⟩)) := by
          match hL : (ps.take q).reverse, hch with
          | [], _ => rw [hL] at hlr; simp at hlr; omega
          | p :: qs, hch => obtain ⟨b, u, rfl, _⟩ := hch; exact ⟨b, rfl⟩
        obtain ⟨b', rfl⟩ := hform
        have HCQ := Lib.hid hch
        clear hch hbr hlq hlr hq HC2
        generalize hps : (ps.take q).reverse = qs at *
        have HPS := Lib.hid hps
        clear hps
        go_upto_region 9 with fail
        go_cut [40] from 20 to 40 (fun v wx => v = .bool false ∧ Below wr.heap.size wr wx)
        case first =>
          have hd : Below wr.heap.size wr wr.drew := (Below.refl _ _).drew
          have CB := Lib.hid (fun (W : World) (h : Below wr.heap.size wr W) => (HCQ.out.below h).mono h.size)
          have GB := Lib.hid (fun (W : World) (h : Below wr.heap.size wr W) => GR.out.below h GR.out.lt)
          have RB := Lib.hid (fun (W : World) (h : Below wr.heap.size wr W) => (RR.out.take q).below h)
          go_region_held3 (fun w' => Below wr.heap.size wr w') (go_keep)
            (first
              | (go_at_call 10; refine (root_any _ e qs _ (CB.out _ ?_) (GB.out _ ?_)).mono ?_; (· assumption); (· assumption); rintro r wA ⟨rfl, hbA⟩; have hA : Below wr.heap.size wr wA := step_bel (by assumption) hbA)
              | (go_at_call 11; refine (places_any _ e qs _ (CB.out _ ?_) (by rw [HLR.out]; omega) (GB.out _ ?_)).mono ?_; (· assumption); (· assumption); rintro r wB ⟨vB, rfl, hoB, hbB⟩; have hB : Below wr.heap.size wr wB := step_bel (by assumption) hbB; obtain ⟨A1, c1, rfl⟩ := hoB.slice; have rB := hoB.irow; rw [HLR.out])
              | (go_at_call 14; refine (rplaces_any _ (ps.take q) A c q HLQ.out hqb (RB.out _ ?_)).mono ?_; (· assumption); rintro r wC ⟨vC, rfl, hoC, hbC⟩; have hC : Below wr.heap.size wr wC := step_bel (by assumption) hbC; rw [HPS.out] at hoC; obtain ⟨A2, c2, rfl⟩ := hoC.slice; have rC := hoC.irow; rw [HLR.out])
              | (go_at_call 9; refine (same_any _ qs A1 A2 c1 c2 q HLR.out (by omega) (rB.below ?_) rC).mono ?_; (· assumption); rintro r wD ⟨rfl, hbD⟩; have hD : Below wr.heap.size wr wD := step_bel (by assumption) hbD))
          all_goals
            go_wp2_with fail
            go_meet
            exact ⟨rfl, by assumption⟩
        case rest =>
        obtain ⟨rfl, h8⟩ := hcut
        obtain ⟨x, hx⟩ : ∃ x, ps[q - 1]? = some x := ⟨_, List.getElem?_eq_getElem (by rw [HN.out]; have := HQ.out; omega)⟩
        have hqs : qs = x :: (ps.take (q - 1)).reverse := by
          rw [← HPS.out, ← rev_snoc hx, Nat.sub_add_cancel hq1]
        have hcc : Chain wc wc.heap.size e (x :: (ps.take (q - 1)).reverse) (.iface 43 (.pointer (some ⟨b', 0, none⟩))) := by
          rw [← hqs]
          exact (HCQ.out.below h8).mono h8.size
        have HCC := Lib.hid hcc
        have B8 : Hid (Below w.heap.size w wc) := BR.out.trans (h8.mono BR.out.size)
        have hqk : q - 1 = n - (k + 1) := by have := HQ.out; omega
        have HQK := Lib.hid hqk
        clear h8 hx hqs hcc hqk
        go_wp2_with fail
        refine (eunwrap_any wc e x wc.heap.size _ _ HCC.out).mono ?_
        rintro r w9 ⟨u, rfl, hcu, rfl⟩
        have HCU := Lib.hid hcu
        clear hcu
        go_wp2_with fail
        go_roundw
        case rel => exact ⟨k + 1, by go_num, by omega, by rw [← HQK.out]; exact HCU.out, B8.out⟩
        case measure => simp [intOf]; omega
      · have hkn2 : k = n := by omega
        subst hkn2
        rw [Nat.sub_self, List.take_zero, List.reverse_nil] at hch
        have hch' : u5 = .iface 27 (.int .i64 e) := hch
        subst hch'
        have HC0 := Lib.hid hch
        have qE := fun W : World => (f_eqErrno e e W).trans (by rw [show (e == e) = true by simp])
        clear hch hbr HC2
        go_wp2_with fail
        refine (root_any wr e [] _ HC0.out GR.out).mono ?_
        rintro r w9 ⟨rfl, h9⟩
        have C9 : Hid (Chain w9 w9.heap.size e [] (.iface 27 (.int .i64 e))) := (HC0.out.below h9).mono h9.size
        have G9 : Hid (Laid w9) := GR.out.below h9 GR.out.lt
        have B9 : Hid (Below w.heap.size w w9) := BR.out.trans (h9.mono BR.out.size)
        clear h9
        go_wp2_with fail
        refine (places_any w9 e [] _ C9.out (by simp) G9.out).mono ?_
        rintro r w10 ⟨v10, rfl, ho, hb⟩
        obtain ⟨A1, c1, rfl⟩ := ho.slice
        have B10 : Hid (Below w.heap.size w w10) := B9.out.trans (hb.mono B9.out.size)
        simp only [List.length_nil]
        clear ho hb qE
        go_wp2_with fail
        go_ret
        exact ⟨rfl, B10.out⟩
end
end Go.Proofs.YtclinofekgpfaaaDoor
