/- The texts of the law's example: numbers below 100, which read no table. -/
import Derived.Test.YtclinofekgpfaaaDoorSame
import Derived.Test.YtclinofekgpfaaaDoorIs
namespace Go.Proofs.YtclinofekgpfaaaDoor
open Go Go.RowKit Go.Extern.Stop Go.Stop Go.Extern
set_option linter.unusedVariables false

theorem itoa3 (w : World) : Calls Tryd.prog 47 #[.int .i64 3] w fun r w' => r = .returned (.string ⟨#[51]⟩) ∧ w' = w := by
  go_enter Tryd.func47, Tryd.ntmps47
  go_wp2
  go_ret
  exact ⟨rfl, rfl⟩
set_option maxRecDepth 100000 in
theorem itoa17 (w : World) : Calls Tryd.prog 47 #[.int .i64 17] w fun r w' => r = .returned (.string ⟨#[49, 55]⟩) ∧ w' = w := by
  go_enter Tryd.func47, Tryd.ntmps47
  go_wp2
  go_ret
  exact ⟨rfl, rfl⟩
set_option maxRecDepth 100000 in
theorem itoa82 (w : World) : Calls Tryd.prog 47 #[.int .i64 82] w fun r w' => r = .returned (.string ⟨#[56, 50]⟩) ∧ w' = w := by
  go_enter Tryd.func47, Tryd.ntmps47
  go_wp2
  go_ret
  exact ⟨rfl, rfl⟩
theorem err82 (w : World) : Calls Tryd.prog 46 #[.int .i64 82] w fun r w' => r = .returned (.string ⟨#[101, 114, 114, 110, 111, 32, 56, 50]⟩) ∧ w' = w := by
  go_enter Tryd.func46, Tryd.ntmps46
  go_wp2_with (first | (go_at_call 47; refine (itoa82 _).mono ?_; rintro r w' ⟨rfl, rfl⟩) | go_in)
  go_ret
  exact ⟨rfl, rfl⟩

set_option maxHeartbeats 1000000 in
theorem err3 (w : World) (b : Nat) (h : w.heap[b]? = some (.cells #[.int .i64 3, .iface 27 (.int .i64 82)] 45 (0, 0))) :
    Calls Tryd.prog 61 #[.pointer (some ⟨b, 0, none⟩)] w fun r w' => r = .returned (.string ⟨#[97, 116, 32, 51, 58, 32, 101, 114, 114, 110, 111, 32, 56, 50]⟩) ∧ ∃ n, w' = w.drewN n := by
  have c0 : w.cell? ⟨b, 0, none⟩ = some (.int .i64 3) := cell_of_row w b 0 _ _ _ h
  have c1 : w.cell? ⟨b, 1, none⟩ = some (.iface 27 (.int .i64 82)) := cell_of_row w b 1 _ _ _ h
  have mE := f_methodErrorE
  clear h
  go_enter Tryd.func61, Tryd.ntmps61
  go_wp2_with fail
  go_quiet ((first | (go_at_call 47; exact Calls.quiet_of_same (itoa3 _)) | (go_at_call 46; exact Calls.quiet_of_same (err82 _))))
  go_wp2_with fail
  go_ret
  exact ⟨by kernel_rfl, _, rfl⟩

set_option maxHeartbeats 1000000 in
theorem err17 (w : World) (b b' : Nat) (h : w.heap[b]? = some (.cells #[.int .i64 17, .iface 43 (.pointer (some ⟨b', 0, none⟩))] 45 (0, 0))) (h' : w.heap[b']? = some (.cells #[.int .i64 3, .iface 27 (.int .i64 82)] 45 (0, 0))) :
    Calls Tryd.prog 61 #[.pointer (some ⟨b, 0, none⟩)] w fun r w' => r = .returned (.string ⟨#[97, 116, 32, 49, 55, 58, 32, 97, 116, 32, 51, 58, 32, 101, 114, 114, 110, 111, 32, 56, 50]⟩) ∧ ∃ n, w' = w.drewN n := by
  have c0 : w.cell? ⟨b, 0, none⟩ = some (.int .i64 17) := cell_of_row w b 0 _ _ _ h
  have c1 : w.cell? ⟨b, 1, none⟩ = some (.iface 43 (.pointer (some ⟨b', 0, none⟩))) := cell_of_row w b 1 _ _ _ h
  have mE := f_methodErrorP
  have H3 := Lib.hid (fun (n : Nat) => err3 (w.drewN n) b' h')
  clear h h'
  go_enter Tryd.func61, Tryd.ntmps61
  go_wp2_with fail
  go_quiet ((first | (go_at_call 47; exact Calls.quiet_of_same (itoa17 _)) | (go_at_call 61; exact Calls.quiet_of (H3.out _))))
  go_wp2_with fail
  go_ret
  exact ⟨by kernel_rfl, _, rfl⟩

theorem code82 (w : World) : Calls Tryd.prog 15 #[.int .i64 82] w fun r w' => r = .returned (.int .i16 2) ∧ w' = w := by
  go_enter Tryd.func15, Tryd.ntmps15
  go_wp2
  go_ret
  exact ⟨rfl, rfl⟩

theorem bel_drewN (w : World) (n : Nat) : Below w.heap.size w (w.drewN n) := ⟨rfl, rfl, rfl, Nat.le_refl _, fun _ _ => rfl⟩

theorem text_any (w : World) (v : Value) (hc : Chain w w.heap.size 82 [17, 3] v) : Calls Tryd.prog 12 #[v] w fun r w' => r = .returned (.string ⟨#[97, 116, 32, 49, 55, 58, 32, 97, 116, 32, 51, 58, 32, 101, 114, 114, 110, 111, 32, 56, 50]⟩) ∧ Below w.heap.size w w' := by
  obtain ⟨b, u, rfl, hb, h1, b', u', rfl, hb', h2, h3⟩ := hc
  obtain rfl : u' = _ := h3
  have H := Lib.hid (err17 w b b' h1 h2)
  have mE := f_methodErrorP
  clear h1 h2
  go_enter Tryd.func12, Tryd.ntmps12
  go_wp2_with (first | (go_at_call 61; refine H.out.mono ?_; rintro r w' ⟨rfl, n, hw⟩; have HW := Lib.hid hw; clear hw) | go_in)
  go_ret
  exact ⟨rfl, by rw [HW.out]; exact bel_drewN _ _⟩

set_option maxHeartbeats 2000000 in
theorem alive_any (w : World) (hg : Laid w) : Calls Tryd.prog 7 #[] w fun r w' => r = .returned (.bool true) ∧ Below w.heap.size w w' := by
  have hb1 : Below w.heap.size w (w.alloc (.cells #[.int .i64 3, .int .i64 17] 3)) := (Below.refl _ _).alloc (Nat.le_refl _) _
  have hr : IRow (w.alloc (.cells #[.int .i64 3, .int .i64 17] 3)) (some ⟨w.heap.size, 0, none⟩) [3, 17] := fun _ => ⟨_, 0, rfl, by simp, fun i x hx => by
    have h := cell_of_row (w.alloc (.cells #[.int .i64 3, .int .i64 17] 3)) w.heap.size i _ _ _ (heap_alloc_new w _)
    rw [Nat.zero_add, h]
    rcases i with _ | _ | i
    · simp at hx; subst hx; rfl
    · simp at hx; subst hx; rfl
    · simp at hx⟩
  have HW := Lib.hid (wrap_any _ 82 (by decide) [3, 17] (some ⟨w.heap.size, 0, none⟩) 2 2 rfl (by decide) hr)
  have HB1 := Lib.hid hb1
  have HG := Lib.hid hg
  clear hb1 hr hg
  go_enter Tryd.func7, Tryd.ntmps7
  go_wp2_with fail
  refine HW.out.mono ?_
  rintro r w1 ⟨v, rfl, hch, hb1⟩
  have hch' : Chain w1 w1.heap.size 82 [17, 3] v := hch
  have HCH := Lib.hid hch'
  have B1 : Hid (Below w.heap.size w w1) := HB1.out.trans (hb1.mono HB1.out.size)
  have G1 : Hid (Laid w1) := HG.out.below B1.out HG.out.lt
  obtain ⟨b, u, rfl, _⟩ := hch'
  clear hch hb1
  go_wp2_with fail
  refine (text_any w1 _ HCH.out).mono ?_
  rintro r w2 ⟨rfl, h2⟩
  have C2 : Hid (Chain w2 w2.heap.size 82 [17, 3] (.iface 43 (.pointer (some ⟨b, 0, none⟩)))) := (HCH.out.below h2).mono h2.size
  have B2 : Hid (Below w.heap.size w w2) := B1.out.trans (h2.mono B1.out.size)
  have G2 : Hid (Laid w2) := HG.out.below B2.out HG.out.lt
  clear h2
  go_wp2_with fail
  refine (root_any w2 82 [17, 3] _ C2.out G2.out).mono ?_
  rintro r w3 ⟨rfl, h3⟩
  have B3 : Hid (Below w.heap.size w w3) := B2.out.trans (h3.mono B2.out.size)
  clear h3
  go_wp2_with fail
  refine (wrap_nil _ _ _ _).mono ?_
  rintro r w4 ⟨rfl, rfl⟩
  go_wp2_with fail
  refine (code82 _).mono ?_
  rintro r w5 ⟨rfl, rfl⟩
  go_wp2_with fail
  go_ret
  exact ⟨rfl, B3.out.alloc B3.out.size _⟩
end Go.Proofs.YtclinofekgpfaaaDoor
