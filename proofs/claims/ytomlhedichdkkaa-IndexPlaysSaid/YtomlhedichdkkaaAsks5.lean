/- One call of a script: Add. -/
import Derived.Test.YtomlhedichdkkaaAsks4
namespace Go.Proofs.Ytomlhedichdkkaa
open Go Go.RowKit
set_option linter.unusedVariables false

theorem addTo_le (base : Int) (L : List Ent) (e : Ent) : (addTo base L e).length ≤ L.length + 1 := by
  rw [addTo_len]; split <;> omega

def AddRes (w : World) (base : Int) (L : List Ent) (A : Option Addr) (e : Ent) (r : Ending) (w' : World) : Prop :=
  ∃ A' c', r = .returned (.tuple #[.agg #[.int .i64 base, .slice A' (addTo base L e).length c'], .int .i64 (addE base L e : Nat)]) ∧ Row w' A' (addTo base L e) ∧ (∀ a, A' = some a → 0 < (addTo base L e).length → (A' = A ∧ 0 < L.length) ∨ w.heap.size ≤ a.block) ∧ Below w.heap.size w w'
theorem radd_ans (w : World) (base : Int) (L : List Ent) (A : Option Addr) (c n : Nat) (hn : L.length = n) (hm : n ≤ 1759218604390) (hr : Row w A L) (hv : Valid base L) (e : Ent) :
    Calls Try.prog 30 #[.agg #[.int .i64 base, .slice A n c], e.val] w (AddRes w base L A e) := by
  refine (radd_any w base L A c n hn hm hr hv e).mono ?_
  rintro r w' ⟨h0, h1⟩
  by_cases hz : addE base L e = 0
  · obtain ⟨v, rfl, ho, hb⟩ := h0 hz
    obtain ⟨A', c', rfl⟩ := ho.slice
    have ht : addTo base L e = L ++ [e] := by unfold addTo; rw [if_pos hz]
    refine ⟨A', c', by rw [ht, hz]; rfl, by rw [ht]; exact ho.row, fun a ha _ => .inr (ho.lt a.block (by rw [ha]; rfl)).1, hb⟩
  · obtain ⟨rfl, hb⟩ := h1 hz
    have ht : addTo base L e = L := by unfold addTo; rw [if_neg hz]
    exact ⟨A, c, by rw [ht, hn], by rw [ht]; exact hr.below' hb, fun a ha hl => .inl ⟨rfl, by rw [ht] at hl; exact hl⟩, hb⟩

theorem BoxAt.base {w : World} {b : Nat} {e : Ent} (h : BoxAt w b e) (x : Int) : BoxAt (w.setCell ⟨b, 0, none⟩ (.int .i64 x)) b ⟨x, e.count, e.at_, e.size, e.last, e.pid, e.pep, e.seq⟩ := heap_setCell_at h _
theorem BoxAt.at2 {w : World} {b : Nat} {e : Ent} (h : BoxAt w b e) (x : Int) : BoxAt (w.setCell ⟨b, 2, none⟩ (.int .i64 x)) b ⟨e.base, e.count, x, e.size, e.last, e.pid, e.pep, e.seq⟩ := heap_setCell_at h _
theorem AHeads.kept {w W3 W4 : World} {base : Int} {v : Value} {kd : Int} {e : Ent} {N M : Int} (h : AHeads w W3 base v kd e N M) (hk : Kept (fun k => k = w.heap.size + 1 + 1 + 1) W3 W4) : AHeads w W4 base v kd e N M :=
  ⟨(hk.block _ h.x.lt (by omega)).trans h.x, (hk.block _ h.o.lt (by omega)).trans h.o, (hk.block _ h.r.lt (by omega)).trans h.r, h.b.trans (hk.below h.b.size fun k hk => by omega)⟩
theorem kept_one {W : World} {b o : Nat} {x : Value} : Kept (fun k => k = b) W (W.setCell ⟨b, o, none⟩ x) := Kept.setCell (S := fun k => k = b) (p := ⟨b, o, none⟩) (Kept.refl _ W) rfl x

structure BHeads (w W4 : World) (base : Int) (v : Value) (kd : Int) (e : Ent) (N M : Int) : Prop where
  h : AHeads w W4 base v kd e N M
  e : BoxAt W4 (w.heap.size + 1 + 1 + 1) e
theorem bheads (w : World) (base : Int) (A : Option Addr) (n c : Nat) (kd : Int) (e : Ent) (N M : Int) : BHeads w ((((w.alloc (.cells #[.int .i64 base, .slice A n c] 47)).alloc (.cells #[.int .i64 kd, .int .i64 e.base, .int .i64 e.count, .int .i64 e.at_, .int .i64 e.size, .int .i64 e.last, .int .i64 e.pid, .int .i16 e.pep, .int .i32 e.seq, .int .i64 N, .int .i64 M] 49)).alloc (.cells #[.int .i64 0, .slice none 0 0] 47)).alloc (.cells #[.int .i64 e.base, .int .i64 e.count, .int .i64 e.at_, .int .i64 e.size, .int .i64 e.last, .int .i64 e.pid, .int .i16 e.pep, .int .i32 e.seq] 30)) base (.slice A n c) kd e N M := by
  have h := aheads w base (.slice A n c) kd e N M
  have he := boxAt (((w.alloc (.cells #[.int .i64 base, .slice A n c] 47)).alloc (opObj kd e N M)).alloc (.cells #[.int .i64 0, .slice none 0 0] 47)) e
  have s3 : (((w.alloc (.cells #[.int .i64 base, .slice A n c] 47)).alloc (opObj kd e N M)).alloc (.cells #[.int .i64 0, .slice none 0 0] 47)).heap.size = w.heap.size + 1 + 1 + 1 := by simp
  rw [s3] at he
  exact ⟨h.below ((Below.refl _ _).alloc (Nat.le_refl _) _), he⟩

theorem AskAns.more {w W W' : World} {g : Nat} {base : Int} {L : List Ent} {A : Option Addr} {P : Nat → Prop} {r : Ending} (h : AskAns w g base L A P r W) (hb : Below W.heap.size W W') : AskAns w g base L A P r W' := by
  obtain ⟨L', A', c', P', hr, ha, hp, hk, hl, hq⟩ := h
  exact ⟨L', A', c', P', hr, ha.below hb, hp, hk.trans (Kept.of_below hb), hl, hq⟩

section
variable (w : World) (g : Nat) (base : Int) (L : List Ent) (A : Option Addr) (c n : Nat) (P : Nat → Prop) (hn : L.length = n) (hm : n ≤ 1759218604390) (hap : Apart w g base L A P)
include hn hm hap

set_option maxRecDepth 20000 in
set_option maxHeartbeats 4000000 in
theorem asks_add (e : Ent) (N M : Int) :
    Calls Try.prog 21 #[.pointer (some ⟨g, 0, none⟩), .agg #[.int .i64 base, .slice A n c], opVal 1 e N M] w (AskAns w g base L A P) := by
  have HN := Lib.hid hn
  have HAP := Lib.hid hap
  have HVA := Lib.hid hap.obj.val
  have BH := Lib.hid (bheads w base A n c 1 e N M)
  unfold opVal
  clear hap hn
  go_enter Try.func21, Try.ntmps21
  go_wp2_with fail
  generalize (((w.alloc (.cells #[.int .i64 base, .slice A n c] 47)).alloc (.cells #[.int .i64 1, .int .i64 e.base, .int .i64 e.count, .int .i64 e.at_, .int .i64 e.size, .int .i64 e.last, .int .i64 e.pid, .int .i16 e.pep, .int .i32 e.seq, .int .i64 N, .int .i64 M] 49)).alloc (.cells #[.int .i64 0, .slice none 0 0] 47)).alloc (.cells #[.int .i64 e.base, .int .i64 e.count, .int .i64 e.at_, .int .i64 e.size, .int .i64 e.last, .int .i64 e.pid, .int .i16 e.pep, .int .i32 e.seq] 30) = W4 at *
  have HH4 := Lib.hid BH.out.h
  have E4 := Lib.hid BH.out.e
  have B4 := Lib.hid HH4.out.b
  have O4 : Hid (Obj W4 g base L P) := (HAP.out.below B4.out).obj
  have R4 : Hid (Row W4 A L) := (HAP.out.below B4.out).row
  refine (ob_add O4.out e (by rw [HN.out]; omega)).mono ?_
  rintro r w5 ⟨rfl, ho5, hk5⟩
  have hlp := HAP.out.lt
  have SZ4 : Hid (w.heap.size + 1 + 1 < W4.heap.size ∧ W4.heap.size ≤ w5.heap.size) := ⟨HH4.out.r.lt, hk5.size⟩
  have x5 : Hid (RBox w5 w.heap.size base (.slice A n c)) := (hk5.block _ HH4.out.x.lt fun h => by have := hlp _ h; omega).trans HH4.out.x
  have r5 : Hid (RBox w5 (w.heap.size + 1 + 1) 0 (.slice none 0 0)) := (hk5.block _ HH4.out.r.lt fun h => by have := hlp _ h; omega).trans HH4.out.r
  have e5 : Hid (BoxAt w5 (w.heap.size + 1 + 1 + 1) e) := (hk5.block _ (Array.getElem?_eq_some_iff.1 E4.out).1 fun h => by have := hlp _ h; omega).trans E4.out
  have R5 : Hid (Row w5 A L) := R4.out.kept hk5 HAP.out.off
  have O5 := Lib.hid ho5.lt
  have K5 := Lib.hid hk5
  have HLP := Lib.hid hlp
  obtain ⟨x0, x1⟩ := x5.out.c
  obtain ⟨y0, y1, y2, y3, y4, y5, y6, y7⟩ := e5.out.ent
  clear ho5 hk5 hlp
  go_wp2_with fail
  clear x0 x1 y0 y1 y2 y3 y4 y5 y6 y7
  refine (radd_ans w5 base L A c n HN.out hm R5.out HVA.out e).mono ?_
  rintro r w6 ⟨A6, c6, rfl, hr6, ho6, h6⟩
  have R7 := Lib.hid hr6
  have OF7 := Lib.hid ho6
  have B7 := Lib.hid h6
  have hrb := r5.out.below h6 r5.out.lt
  obtain ⟨r0, r1⟩ := hrb.c
  have rf := hrb.free
  have lt2 : w.heap.size + 1 + 1 < w6.heap.size := hrb.lt
  have HLE := Lib.hid (addTo_le base L e)
  clear hr6 ho6 h6 hrb
  generalize addTo base L e = L2 at *
  generalize addE base L e = er at *
  go_wp2_with fail
  refine bodyPost_ret (v := .tuple #[.agg #[.int .i64 base, .slice A6 L2.length c6], .bool true]) ?_ rfl ((AskAns.done (B := W4.heap.size) (C := w5.heap.size) HLP.out SZ4.out.1 B7.out.size (O5.out.below B7.out |>.mono fun k hk => ?_) R7.out ?_ ?_ HLE.out (fun a ha hn => (OF7.out a ha hn).imp id (fun h => by have := SZ4.out; omega)) rfl).more ((Below.refl _ _).alloc (Nat.le_refl _) _))
  · rw [results_cell_tmp rfl]
    go_simp
    try rfl
  · rcases hk with ⟨h | h, h2⟩
    · exact .inl h
    · exact .inr ⟨h, h2⟩
  · intro a ha hn
    have hsz := SZ4.out
    rcases OF7.out a ha hn with ⟨rfl, hl⟩ | hge
    · have h1 := HAP.out.row.lt a ha hl
      exact ⟨HAP.out.off a ha hl, by omega, by omega⟩
    · refine ⟨fun h => ?_, by omega, by omega⟩
      have := HLP.out _ h
      omega
  · exact ((Kept.of_below B4.out).trans ((K5.out).mono fun k _ h => .inl h)).trans (Kept.of_below B7.out)

set_option maxRecDepth 20000 in
set_option maxHeartbeats 4000000 in
theorem asks_follow (e : Ent) (N M : Int) :
    Calls Try.prog 21 #[.pointer (some ⟨g, 0, none⟩), .agg #[.int .i64 base, .slice A n c], opVal 2 e N M] w (AskAns w g base L A P) := by
  have HN := Lib.hid hn
  have HAP := Lib.hid hap
  have HVA := Lib.hid hap.obj.val
  have BH := Lib.hid (bheads w base A n c 2 e N M)
  unfold opVal
  clear hap hn
  go_enter Try.func21, Try.ntmps21
  go_wp2_with fail
  generalize (((w.alloc (.cells #[.int .i64 base, .slice A n c] 47)).alloc (.cells #[.int .i64 2, .int .i64 e.base, .int .i64 e.count, .int .i64 e.at_, .int .i64 e.size, .int .i64 e.last, .int .i64 e.pid, .int .i16 e.pep, .int .i32 e.seq, .int .i64 N, .int .i64 M] 49)).alloc (.cells #[.int .i64 0, .slice none 0 0] 47)).alloc (.cells #[.int .i64 e.base, .int .i64 e.count, .int .i64 e.at_, .int .i64 e.size, .int .i64 e.last, .int .i64 e.pid, .int .i16 e.pep, .int .i32 e.seq] 30) = W0 at *
  have HH0 := Lib.hid BH.out.h
  have E0 := Lib.hid BH.out.e
  have R0 : Hid (Row W0 A L) := (HAP.out.below HH0.out.b).row
  refine (rnext_any W0 base L A c n HN.out (by omega) HVA.out R0.out).mono ?_
  rintro r w1 ⟨rfl, h1⟩
  have HH1 := Lib.hid (HH0.out.below h1)
  have E1 := Lib.hid (E0.out.below h1 (Array.getElem?_eq_some_iff.1 E0.out).1)
  have HH2 := Lib.hid (HH1.out.kept (kept_one (o := 0) (x := .int .i64 (nextOf base L))))
  have E2 := Lib.hid (E1.out.base (nextOf base L))
  obtain ⟨x0, x1⟩ := HH1.out.x.c
  obtain ⟨y0, y1, y2, y3, y4, y5, y6, y7⟩ := E1.out.ent
  have yf := E1.out.free
  clear h1
  go_wp2_with fail
  clear x0 x1 y0 y1 y2 y3 y4 y5 y6 y7 yf
  generalize w1.setCell ⟨w.heap.size + 1 + 1 + 1, 0, none⟩ (.int .i64 (nextOf base L)) = W2 at *
  have R2 : Hid (Row W2 A L) := (HAP.out.below HH2.out.b).row
  refine (rsize_any W2 base L A c n HN.out (by omega) HVA.out R2.out).mono ?_
  rintro r w3 ⟨rfl, h3⟩
  have HH3 := Lib.hid (HH2.out.below h3)
  have E3 := Lib.hid (E2.out.below h3 (Array.getElem?_eq_some_iff.1 E2.out).1)
  have HH4 := Lib.hid (HH3.out.kept (kept_one (o := 2) (x := .int .i64 (sizeOf L))))
  have he4 := E3.out.at2 (sizeOf L)
  simp only at he4
  have E4 := Lib.hid he4
  have B4 := Lib.hid HH4.out.b
  obtain ⟨x0, x1⟩ := HH3.out.x.c
  obtain ⟨y0, y1, y2, y3, y4, y5, y6, y7⟩ := E3.out.ent
  simp only at y0
  have yf := E3.out.free
  clear h3 he4
  go_wp2_with fail
  clear x0 x1 y0 y1 y2 y3 y4 y5 y6 y7 yf
  generalize w3.setCell ⟨w.heap.size + 1 + 1 + 1, 2, none⟩ (.int .i64 (sizeOf L)) = W4 at *
  have O4 : Hid (Obj W4 g base L P) := (HAP.out.below B4.out).obj
  have R4 : Hid (Row W4 A L) := (HAP.out.below B4.out).row
  refine (ob_add O4.out ⟨nextOf base L, e.count, sizeOf L, e.size, e.last, e.pid, e.pep, e.seq⟩ (by rw [HN.out]; omega)).mono ?_
  rintro r w5 ⟨rfl, ho5, hk5⟩
  have hlp := HAP.out.lt
  have SZ4 : Hid (w.heap.size + 1 + 1 < W4.heap.size ∧ W4.heap.size ≤ w5.heap.size) := ⟨HH4.out.r.lt, hk5.size⟩
  have x5 : Hid (RBox w5 w.heap.size base (.slice A n c)) := (hk5.block _ HH4.out.x.lt fun h => by have := hlp _ h; omega).trans HH4.out.x
  have r5 : Hid (RBox w5 (w.heap.size + 1 + 1) 0 (.slice none 0 0)) := (hk5.block _ HH4.out.r.lt fun h => by have := hlp _ h; omega).trans HH4.out.r
  have e5 : Hid (BoxAt w5 (w.heap.size + 1 + 1 + 1) ⟨nextOf base L, e.count, sizeOf L, e.size, e.last, e.pid, e.pep, e.seq⟩) := (hk5.block _ (Array.getElem?_eq_some_iff.1 E4.out).1 fun h => by have := hlp _ h; omega).trans E4.out
  have R5 : Hid (Row w5 A L) := R4.out.kept hk5 HAP.out.off
  have O5 := Lib.hid ho5.lt
  have K5 := Lib.hid hk5
  have HLP := Lib.hid hlp
  obtain ⟨x0, x1⟩ := x5.out.c
  obtain ⟨y0, y1, y2, y3, y4, y5, y6, y7⟩ := e5.out.ent
  clear ho5 hk5 hlp
  go_wp2_with fail
  clear x0 x1 y0 y1 y2 y3 y4 y5 y6 y7
  refine (radd_ans w5 base L A c n HN.out hm R5.out HVA.out ⟨nextOf base L, e.count, sizeOf L, e.size, e.last, e.pid, e.pep, e.seq⟩).mono ?_
  rintro r w6 ⟨A6, c6, rfl, hr6, ho6, h6⟩
  have R7 := Lib.hid hr6
  have OF7 := Lib.hid ho6
  have B7 := Lib.hid h6
  have hrb := r5.out.below h6 r5.out.lt
  obtain ⟨r0, r1⟩ := hrb.c
  have rf := hrb.free
  have lt2 : w.heap.size + 1 + 1 < w6.heap.size := hrb.lt
  have HLE := Lib.hid (addTo_le base L ⟨nextOf base L, e.count, sizeOf L, e.size, e.last, e.pid, e.pep, e.seq⟩)
  clear hr6 ho6 h6 hrb
  generalize addTo base L ⟨nextOf base L, e.count, sizeOf L, e.size, e.last, e.pid, e.pep, e.seq⟩ = L2 at *
  generalize addE base L ⟨nextOf base L, e.count, sizeOf L, e.size, e.last, e.pid, e.pep, e.seq⟩ = er at *
  go_wp2_with fail
  refine bodyPost_ret (v := .tuple #[.agg #[.int .i64 base, .slice A6 L2.length c6], .bool true]) ?_ rfl ((AskAns.done (B := W4.heap.size) (C := w5.heap.size) HLP.out SZ4.out.1 B7.out.size (O5.out.below B7.out |>.mono fun k hk => ?_) R7.out ?_ ?_ HLE.out (fun a ha hn => (OF7.out a ha hn).imp id (fun h => by have := SZ4.out; omega)) rfl).more ((Below.refl _ _).alloc (Nat.le_refl _) _))
  · rw [results_cell_tmp rfl]
    go_simp
    try rfl
  · rcases hk with ⟨h | h, h2⟩
    · exact .inl h
    · exact .inr ⟨h, h2⟩
  · intro a ha hn
    have hsz := SZ4.out
    rcases OF7.out a ha hn with ⟨rfl, hl⟩ | hge
    · have h1 := HAP.out.row.lt a ha hl
      exact ⟨HAP.out.off a ha hl, by omega, by omega⟩
    · refine ⟨fun h => ?_, by omega, by omega⟩
      have := HLP.out _ h
      omega
  · exact ((Kept.of_below B4.out).trans ((K5.out).mono fun k _ h => .inl h)).trans (Kept.of_below B7.out)

end
end Go.Proofs.Ytomlhedichdkkaa
