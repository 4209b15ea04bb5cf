/- One call of a script: Span, Back, All. -/
import Derived.Test.YtomlhedichdkkaaAsks2
namespace Go.Proofs.Ytomlhedichdkkaa
open Go Go.RowKit
set_option linter.unusedVariables false

theorem Row.kept {S : Nat → Prop} {w w' : World} {A : Option Addr} {es : List Ent} (h : Row w A es) (hk : Kept S w w') (hS : ∀ a, A = some a → 0 < es.length → ¬ S a.block) : Row w' A es := fun hn => by
  obtain ⟨b, o, rfl, hlt, hc⟩ := h hn
  exact ⟨b, o, rfl, Nat.lt_of_lt_of_le hlt hk.size, fun i e he => (hc i e he).kept hk hlt (hS _ rfl hn)⟩
theorem Row.lt {w : World} {A : Option Addr} {es : List Ent} (h : Row w A es) : ∀ a, A = some a → 0 < es.length → a.block < w.heap.size := fun a ha hn => by
  obtain ⟨b, o, rfl, hlt, _⟩ := h hn
  injection ha with ha
  subst ha
  exact hlt

/-- The end of a call that turns the index. -/
theorem AskAns.done {w W : World} {g : Nat} {base : Int} {L L' : List Ent} {A A' : Option Addr} {c' : Nat} {P : Nat → Prop} {B C : Nat} (hP : ∀ k, P k → k < w.heap.size) (hB : w.heap.size + 1 + 1 < B) (hC : C ≤ W.heap.size)
    (ho : Obj W g base L' (fun k => P k ∨ (B ≤ k ∧ k < C))) (hr : Row W A' L') (hoff : ∀ a, A' = some a → 0 < L'.length → ¬ P a.block ∧ ¬ (B ≤ a.block ∧ a.block < C) ∧ a.block ≠ w.heap.size + 1 + 1)
    (hk : Kept (fun k => P k ∨ w.heap.size ≤ k) w W) (hlen : L'.length ≤ L.length + 1) (hpr : ∀ a, A' = some a → 0 < L'.length → (A' = A ∧ 0 < L.length) ∨ w.heap.size ≤ a.block) {r : Ending} (hres : r = .returned (.tuple #[.agg #[.int .i64 base, .slice A' L'.length c'], .bool true])) :
    AskAns w g base L A P r ((W.setCell ⟨w.heap.size + 1 + 1, 0, none⟩ (.int .i64 base)).setCell ⟨w.heap.size + 1 + 1, 1, none⟩ (.slice A' L'.length c')) := by
  have hs := Kept.setCell (S := fun j => j = w.heap.size + 1 + 1) (p := ⟨w.heap.size + 1 + 1, 1, none⟩) (Kept.setCell (S := fun j => j = w.heap.size + 1 + 1) (p := ⟨w.heap.size + 1 + 1, 0, none⟩) (Kept.refl _ W) rfl (.int .i64 base)) rfl (.slice A' L'.length c')
  have hsz := hs.size
  refine ⟨L', A', c', fun k => P k ∨ (B ≤ k ∧ k < C), hres, ⟨ho.kept hs fun k hk hj => ?_, fun k hk2 => ?_, hr.kept hs fun a ha hn hj => (hoff a ha hn).2.2 hj, fun a ha hn hx => ?_⟩, fun k hk => ?_, ?_, hlen, hpr⟩
  · rcases hk with h | h
    · have := hP k h; omega
    · omega
  · rcases hk2 with h | h
    · have := hP k h; have := hk.size; omega
    · omega
  · rcases hx with h | h
    · exact (hoff a ha hn).1 h
    · exact (hoff a ha hn).2.1 h
  · rcases hk with h | h
    · exact .inl h
    · exact .inr (by omega)
  · refine (hk.trans (hs.mono fun k hk hj => .inr (by omega))).mono fun k hlt h => ?_
    rcases h with h | h
    · exact h
    · omega

section
variable (w : World) (g : Nat) (base : Int) (L : List Ent) (A : Option Addr) (c n : Nat) (P : Nat → Prop) (hn : L.length = n) (hm : n ≤ 1759218604390) (hap : Apart w g base L A P)
include hn hm hap

set_option maxRecDepth 20000 in
set_option maxHeartbeats 2000000 in
theorem asks_span (e : Ent) (N M : Int) (hM : -9223372036854775808 ≤ M ∧ M ≤ 9223372036854775807) :
    Calls Try.prog 21 #[.pointer (some ⟨g, 0, none⟩), .agg #[.int .i64 base, .slice A n c], opVal 5 e N M] w (AskAns w g base L A P) := by
  have HM := Lib.hid hM
  clear hM
  have HN := Lib.hid hn
  have HAP := Lib.hid hap
  have hh := aheads w base (.slice A n c) 5 e N M
  simp only [opObj] at hh
  have HH := Lib.hid hh
  have HVA := Lib.hid hap.obj.val
  obtain ⟨a1, a2, ok, hX⟩ : ∃ (a1 a2 : Int) (ok : Bool), spanAns (spanOf base L N M) = .tuple #[.int .i64 a1, .int .i64 a2, .bool ok] := ⟨_, _, _, rfl⟩
  have HX := Lib.hid hX
  clear hX
  unfold opVal
  clear hap hn hh
  go_enter Try.func21, Try.ntmps21
  go_wp2_with fail
  generalize ((w.alloc (.cells #[.int .i64 base, .slice A n c] 47)).alloc (.cells #[.int .i64 5, .int .i64 e.base, .int .i64 e.count, .int .i64 e.at_, .int .i64 e.size, .int .i64 e.last, .int .i64 e.pid, .int .i16 e.pep, .int .i32 e.seq, .int .i64 N, .int .i64 M] 49)).alloc (.cells #[.int .i64 0, .slice none 0 0] 47) = W3 at *
  have O3 : Hid (Obj W3 g base L P) := (HAP.out.below HH.out.b).obj
  have R3 : Hid (Row W3 A L) := (HAP.out.below HH.out.b).row
  have kk := HH.out.o.c
  have k1 := kk.k1
  have k2 := kk.k2
  clear kk
  go_wp2_with fail
  refine (ob_span O3.out (by rw [HN.out]; omega) N M HM.out).mono ?_
  rintro r w4 ⟨rfl, h4⟩
  rw [HX.out]
  have HH4 := Lib.hid (HH.out.below h4)
  have B4 := Lib.hid h4
  obtain ⟨x0, x1⟩ := HH4.out.x.c
  have kk := HH4.out.o.c
  have j1 := kk.k1
  have j2 := kk.k2
  clear h4 kk k1 k2
  go_wp2_with fail
  clear x0 x1 j1 j2
  refine (rspan_any w4 base L A c n HN.out (by omega) (R3.out.below' B4.out) HVA.out N M).mono ?_
  rintro r w6 ⟨rfl, h6⟩
  rw [HX.out]
  have HZ := Lib.hid (HH4.out.below h6)
  obtain ⟨x0, x1⟩ := HZ.out.x.c
  obtain ⟨r0, r1⟩ := HZ.out.r.c
  have rf := HZ.out.r.free
  clear h6
  cases ok
  all_goals
    go_wp2_with fail
    refine bodyPost_ret (v := .tuple #[.agg #[.int .i64 base, .slice A n c], .bool true]) ?_ rfl (AskAns.same HAP.out HN.out ?_ rfl)
    · rw [results_cell_tmp rfl]
      go_simp
      try rfl
    · exact put_res base HZ.out.b

set_option maxRecDepth 20000 in
set_option maxHeartbeats 2000000 in
theorem asks_back (e : Ent) (N M : Int) (hM : -9223372036854775808 ≤ M ∧ M ≤ 9223372036854775807) :
    Calls Try.prog 21 #[.pointer (some ⟨g, 0, none⟩), .agg #[.int .i64 base, .slice A n c], opVal 6 e N M] w (AskAns w g base L A P) := by
  have HM := Lib.hid hM
  clear hM
  have HN := Lib.hid hn
  have HAP := Lib.hid hap
  have hh := aheads w base (.slice A n c) 6 e N M
  simp only [opObj] at hh
  have HH := Lib.hid hh
  have HLE := Lib.hid (show (L.take M.toNat).length ≤ L.length + 1 by rw [List.length_take]; omega)
  unfold opVal
  clear hap hn hh
  go_enter Try.func21, Try.ntmps21
  go_wp2_with fail
  generalize ((w.alloc (.cells #[.int .i64 base, .slice A n c] 47)).alloc (.cells #[.int .i64 6, .int .i64 e.base, .int .i64 e.count, .int .i64 e.at_, .int .i64 e.size, .int .i64 e.last, .int .i64 e.pid, .int .i16 e.pep, .int .i32 e.seq, .int .i64 N, .int .i64 M] 49)).alloc (.cells #[.int .i64 0, .slice none 0 0] 47) = W3 at *
  have O3 : Hid (Obj W3 g base L P) := (HAP.out.below HH.out.b).obj
  have R3 : Hid (Row W3 A L) := (HAP.out.below HH.out.b).row
  have kk := HH.out.o.c
  have k2 := kk.k2
  clear kk
  go_wp2_with fail
  refine (ob_back O3.out M (by rw [HN.out]; omega) HM.out).mono ?_
  rintro r w4 ⟨rfl, ho4, hk4⟩
  have hlp := HAP.out.lt
  have B3 := Lib.hid HH.out.b
  have SZ3 : Hid (w.heap.size + 1 + 1 < W3.heap.size ∧ W3.heap.size ≤ w4.heap.size) := ⟨HH.out.r.lt, hk4.size⟩
  have x4 : Hid (RBox w4 w.heap.size base (.slice A n c)) := (hk4.block _ HH.out.x.lt fun h => by have := hlp _ h; omega).trans HH.out.x
  have o4 : Hid (OBox w4 (w.heap.size + 1) 6 e N M) := (hk4.block _ HH.out.o.lt fun h => by have := hlp _ h; omega).trans HH.out.o
  have r4 : Hid (RBox w4 (w.heap.size + 1 + 1) 0 (.slice none 0 0)) := (hk4.block _ HH.out.r.lt fun h => by have := hlp _ h; omega).trans HH.out.r
  have R4 : Hid (Row w4 A L) := R3.out.kept hk4 HAP.out.off
  have O4 := Lib.hid ho4.lt
  have K4 := Lib.hid hk4
  obtain ⟨x0, x1⟩ := x4.out.c
  have kk := o4.out.c
  have j2 := kk.k2
  have HLP := Lib.hid hlp
  clear ho4 hk4 kk k2 hlp
  go_wp2_with fail
  clear x0 x1 j2
  refine (rback_any w4 base L A c n HN.out hm R4.out M).mono ?_
  rintro r w6 ⟨v, rfl, hv6, h6⟩
  generalize L.take M.toNat = L6 at *
  obtain ⟨A6, c6, rfl⟩ := hv6.slice
  have hr6 := r4.out.below h6 r4.out.lt
  obtain ⟨r0, r1⟩ := hr6.c
  have rf := hr6.free
  have V6 := Lib.hid hv6
  have B6 := Lib.hid h6
  clear hr6 hv6 h6
  go_wp2_with fail
  refine bodyPost_ret (v := .tuple #[.agg #[.int .i64 base, .slice A6 L6.length c6], .bool true]) ?_ rfl (AskAns.done (B := W3.heap.size) (C := w4.heap.size) HLP.out SZ3.out.1 B6.out.size (O4.out.below B6.out |>.mono fun k hk => ?_) V6.out.row ?_ ?_ HLE.out (fun a ha hn => .inr (by have hl := (V6.out.lt a.block (by rw [ha]; rfl)).1; have := SZ3.out; omega)) rfl)
  · rw [results_cell_tmp rfl]
    go_simp
    try rfl
  · rcases hk with ⟨h | h, h2⟩
    · exact .inl h
    · exact .inr ⟨h, h2⟩
  · intro a ha hn
    have hl := (V6.out.lt a.block (by rw [ha]; rfl)).1
    have := SZ3.out
    refine ⟨fun h => ?_, by omega, by omega⟩
    have := HLP.out _ h
    omega
  · refine ((Kept.of_below B3.out).trans ((K4.out).mono fun k _ h => .inl h)).trans (Kept.of_below B6.out)
end
end Go.Proofs.Ytomlhedichdkkaa
