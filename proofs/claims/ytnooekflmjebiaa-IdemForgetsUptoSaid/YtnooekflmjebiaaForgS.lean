/- The law IdemForgets: All's answer, spoiled (its rows lie apart, and apart from the table's). -/
import Derived.Test.YtnooekflmjebiaaForgP
namespace Go.Proofs.Ytnooekflmjebiaa
open Go Go.RowKit Go.Proofs.YtnooekflmjebiaaW.PrintWords Go.Proofs.Ytnooekflmjebiaa.PIdemPlays
set_option linter.unusedVariables false

section
variable {W w1 : World} {base : Nat} {k : IntKind} {e : Nat} {ok : Nat → Prop}
/-- A number stored into a row. -/
theorem int_set {g n cap : Nat} {xs : List Int} (h : (Kd.int k).R e W base ok (.slice (some ⟨g, 0, none⟩) n cap) xs) {j : Nat} (hj : j < n) (z : Int) :
    (Kd.int k).R e (W.setCell ⟨g, j, none⟩ (.int k z)) base ok (.slice (some ⟨g, 0, none⟩) n cap) (xs.set j z) ∧ W.grownBy (W.setCell ⟨g, j, none⟩ (.int k z)) (some g) := by
  obtain ⟨c, hcl, _, hcc, _⟩ := Kd.R_elem h 0 (j : Int) (by omega) (by omega)
  have hcl' : c.length = 1 := hcl
  have hd : c.drop 1 = [] := List.drop_eq_nil_of_le (by omega)
  have := Kd.R_seg h (j : Int) (by omega) (by omega) (c := c) (seg := [.int k z]) (j := 0) (x' := z) (okp := fun _ => False) hcl hcc (Nat.le_refl 1) (by
    show c.take 0 ++ [Value.int k z] ++ c.drop (0 + 1) = [Value.int k z]
    rw [Nat.zero_add, hd]
    rfl) (fun _ h => h.elim)
  rw [Int.toNat_natCast, show j * (Kd.int k).sz + 0 = j by show j * 1 + 0 = j; omega] at this
  exact this
/-- A number of a row, read. -/
theorem int_get {g n cap : Nat} {xs : List Int} (h : (Kd.int k).R e W base ok (.slice (some ⟨g, 0, none⟩) n cap) xs) {j : Nat} (hj : j < n) :
    W.cell? ⟨g, j, none⟩ = some (.int k (xs.getD j 0)) ∧ W.frozen? ⟨g, j, none⟩ = false ∧ g < W.heap.size := by
  obtain ⟨c, hcl, hM, hcc, hfr⟩ := Kd.R_elem h 0 (j : Int) (by omega) (by omega)
  rw [Int.toNat_natCast] at hM hcc hfr
  have hM' : c = [Value.int k (xs.getD j 0)] := hM
  subst hM'
  have h0 := hcc 0 _ rfl
  have f0 := hfr 0
  rw [show j * (Kd.int k).sz + 0 = j by show j * 1 + 0 = j; omega] at h0 f0
  exact ⟨h0, f0, World.block_lt_of_cell? W _ h0⟩
end

/-- An element of a row whose rows lie apart, open. -/
structure Op52 (W : World) (base g n cap : Nat) (Xs : List S52) (i : Nat) (x : S52) (oki : Nat → Prop) (v2 v3 v4 : Value) : Prop where
  r2 : (Kd.int .i32).R 21 W base oki v2 x.f2
  r3 : (Kd.int .i64).R 3 W base oki v3 x.f3
  r4 : (Kd.int .i64).R 2 W base oki v4 x.f4
  c : ∀ j u, [Value.int .i64 x.f0, .int .i16 x.f1, v2, v3, v4][j]? = some u → W.cell? ⟨g, i * 5 + j, none⟩ = some u
  f : ∀ j, W.frozen? ⟨g, i * 5 + j, none⟩ = false
  ne : ∀ q, oki q → q ≠ g
  h : Kd.H k52 52 W base (fun _ => True) (.slice (some ⟨g, 0, none⟩) n cap) Xs (i : Int) oki [.int .i64 x.f0, .int .i16 x.f1, v2, v3, v4]
  ty : ∃ cs, W.heap[g]? = some (.cells cs 52 (0, 0))
  il : i < n
  bg : base ≤ g
abbrev SK (W : World) (base g n cap : Nat) (Xs : List S52) : Prop := Kd.S k52 52 W base (fun _ => True) (.slice (some ⟨g, 0, none⟩) n cap) Xs
section
variable {W w1 : World} {base g n cap i : Nat} {Xs : List S52} {x : S52} {oki : Nat → Prop} {v2 v3 v4 : Value}
theorem S_open (h : SK W base g n cap Xs) (hx : Xs[i]? = some x) : ∃ oki v2 v3 v4, Op52 W base g n cap Xs i x oki v2 v3 v4 := by
  have hn := (Kd.S_reads' h).1
  have hi := (List.getElem?_eq_some_iff.1 hx).1
  obtain ⟨oki, c, hcl, hM, hcc, hfr, hoki, hH⟩ := Kd.S_elem h z52 (i : Int) (by omega) (by omega)
  rw [Int.toNat_natCast] at hM hcc hfr
  rw [List.getD_eq_getElem?_getD, hx, Option.getD_some] at hM
  obtain ⟨v2, v3, v4, rfl, r2, r3, r4⟩ := k52_openM hM
  exact ⟨oki, v2, v3, v4, r2, r3, r4, hcc, hfr, fun q hq => (hoki q hq).2, hH, Kd.S_typed h g (by simp [Value.ownBlock]), by omega, Kd.S_base h g (by simp [Value.ownBlock])⟩
/-- A row of the element has been written: put back. -/
theorem Op52.set2 (o : Op52 W base g n cap Xs i x oki v2 v3 v4) {L : List Int} (hr : (Kd.int .i32).R 21 w1 base oki v2 L) (hg : W.grownBy w1 v2.ownBlock) : SK w1 base g n cap (Xs.set i { x with f2 := L }) := by
  have hH := Kd.H_grown o.h hg (fun q hq => o.r2.1 q hq)
  have := Kd.H_back hH (x' := { x with f2 := L }) (okp := oki) (k52_mkM w1 base oki { x with f2 := L } hr (Kd.R_over' o.r3 (Kd.R_typed o.r2) (by decide) hg) (Kd.R_over' o.r4 (Kd.R_typed o.r2) (by decide) hg)) (fun _ h => h)
  rwa [Int.toNat_natCast] at this
theorem Op52.set3 (o : Op52 W base g n cap Xs i x oki v2 v3 v4) {L : List Int} (hr : (Kd.int .i64).R 3 w1 base oki v3 L) (hg : W.grownBy w1 v3.ownBlock) : SK w1 base g n cap (Xs.set i { x with f3 := L }) := by
  have hH := Kd.H_grown o.h hg (fun q hq => o.r3.1 q hq)
  have := Kd.H_back hH (x' := { x with f3 := L }) (okp := oki) (k52_mkM w1 base oki { x with f3 := L } (Kd.R_over' o.r2 (Kd.R_typed o.r3) (by decide) hg) hr (Kd.R_over' o.r4 (Kd.R_typed o.r3) (by decide) hg)) (fun _ h => h)
  rwa [Int.toNat_natCast] at this
theorem Op52.set4 (o : Op52 W base g n cap Xs i x oki v2 v3 v4) {L : List Int} (hr : (Kd.int .i64).R 2 w1 base oki v4 L) (hg : W.grownBy w1 v4.ownBlock) : SK w1 base g n cap (Xs.set i { x with f4 := L }) := by
  have hH := Kd.H_grown o.h hg (fun q hq => o.r4.1 q hq)
  have := Kd.H_back hH (x' := { x with f4 := L }) (okp := oki) (k52_mkM w1 base oki { x with f4 := L } (Kd.R_over' o.r2 (Kd.R_typed o.r4) (by decide) hg) (Kd.R_over' o.r3 (Kd.R_typed o.r4) (by decide) hg) hr) (fun _ h => h)
  rwa [Int.toNat_natCast] at this
/-- The element put back. -/
theorem Op52.back (o : Op52 W base g n cap Xs i x oki v2 v3 v4) : SK W base g n cap (Xs.set i x) := by
  have := Kd.H_back o.h (x' := x) (okp := oki) (k52_mkM W base oki x o.r2 o.r3 o.r4) (fun _ h => h)
  rwa [Int.toNat_natCast] at this
/-- What may be an element's, new blocks too. -/
def okw (W : World) (oki : Nat → Prop) (q : Nat) : Prop := oki q ∨ True ∧ W.heap.size ≤ q
/-- An append to a row of the element, stored back. -/
theorem Op52.app2 (o : Op52 W base g n cap Xs i x oki v2 v3 v4) {v : Value} {L : List Int} (hr : (Kd.int .i32).R 21 w1 base (okw W oki) v L) (hg : W.grownBy w1 v2.ownBlock) :
    Op52 (w1.setCell ⟨g, i * 5 + 2, none⟩ v) base g n cap Xs i { x with f2 := L } (okw W oki) v v3 v4 ∧ (∀ j u, [Value.int .i64 x.f0, .int .i16 x.f1, v2, v3, v4][j]? = some u → w1.cell? ⟨g, i * 5 + j, none⟩ = some u) ∧ (∀ j, w1.frozen? ⟨g, i * 5 + j, none⟩ = false) ∧ g < w1.heap.size := by
  obtain ⟨cs, hcs⟩ := o.ty
  have hne : some g ≠ v2.ownBlock := Kd.R_ne o.r2 hcs (by decide)
  have hty : w1.heap[g]? = some (.cells cs 52 (0, 0)) := blk_grown hcs hg hne
  have hH := Kd.H_grown (Kd.H_widen o.h) hg (fun q hq => .inl (o.r2.1 q hq))
  obtain ⟨A_, c_, rfl⟩ := Kd.R_slice hr
  obtain ⟨v, hv⟩ : ∃ v, v = Value.slice A_ L.length c_ := ⟨_, rfl⟩
  have h1 : v.oneCell' = true := by rw [hv]; rfl
  rw [← hv] at hr ⊢
  clear hv
  obtain ⟨h2, h3⟩ := Kd.H_seg hH (by omega) (by have := o.il; omega) (seg := [v]) (j := 2) (show 2 + 1 ≤ 5 by decide) (fun q hq => by simp at hq; rw [hq]; exact h1)
  rw [Int.toNat_natCast] at h2 h3
  have hbl : w1.heap[g]? = W.heap[g]? := by rw [hty, hcs]
  obtain ⟨_, _, _, _, _, hcc, _⟩ := Kd.H_raw h2 (by omega) (by have := o.il; omega)
  rw [Int.toNat_natCast] at hcc
  refine ⟨⟨(Kd.R_set hr hty (by decide) (i * 5 + 2) v), (Kd.R_set (Kd.R_over' (Kd.R_mono o.r3 (fun q hq => (.inl hq : okw W oki q))) (Kd.R_typed o.r2) (by decide) hg) hty (by decide) (i * 5 + 2) v), (Kd.R_set (Kd.R_over' (Kd.R_mono o.r4 (fun q hq => (.inl hq : okw W oki q))) (Kd.R_typed o.r2) (by decide) hg) hty (by decide) (i * 5 + 2) v), hcc, fun j => (World.frozen?_setCells g [v] (i * 5 + 2) w1 _).trans ((World.frozen?_of_block (w := W) (a := ⟨g, i * 5 + j, none⟩) hbl).trans (o.f j)), fun q hq => ?_, h2, ⟨_, blk_put hty (i * 5 + 2) v rfl⟩, o.il, o.bg⟩, fun j u hu => (World.cell?_of_block (w := W) (a := ⟨g, i * 5 + j, none⟩) hbl).trans (o.c j u hu), fun j => (World.frozen?_of_block (w := W) (a := ⟨g, i * 5 + j, none⟩) hbl).trans (o.f j), (Array.getElem?_eq_some_iff.1 hty).1⟩
  rcases hq with hq | hq
  · exact o.ne q hq
  · have := (Array.getElem?_eq_some_iff.1 hcs).1
    have := hq.2
    omega
/-- An append to a row of the element, stored back. -/
theorem Op52.app3 (o : Op52 W base g n cap Xs i x oki v2 v3 v4) {v : Value} {L : List Int} (hr : (Kd.int .i64).R 3 w1 base (okw W oki) v L) (hg : W.grownBy w1 v3.ownBlock) :
    Op52 (w1.setCell ⟨g, i * 5 + 3, none⟩ v) base g n cap Xs i { x with f3 := L } (okw W oki) v2 v v4 ∧ (∀ j u, [Value.int .i64 x.f0, .int .i16 x.f1, v2, v3, v4][j]? = some u → w1.cell? ⟨g, i * 5 + j, none⟩ = some u) ∧ (∀ j, w1.frozen? ⟨g, i * 5 + j, none⟩ = false) ∧ g < w1.heap.size := by
  obtain ⟨cs, hcs⟩ := o.ty
  have hne : some g ≠ v3.ownBlock := Kd.R_ne o.r3 hcs (by decide)
  have hty : w1.heap[g]? = some (.cells cs 52 (0, 0)) := blk_grown hcs hg hne
  have hH := Kd.H_grown (Kd.H_widen o.h) hg (fun q hq => .inl (o.r3.1 q hq))
  obtain ⟨A_, c_, rfl⟩ := Kd.R_slice hr
  obtain ⟨v, hv⟩ : ∃ v, v = Value.slice A_ L.length c_ := ⟨_, rfl⟩
  have h1 : v.oneCell' = true := by rw [hv]; rfl
  rw [← hv] at hr ⊢
  clear hv
  obtain ⟨h2, h3⟩ := Kd.H_seg hH (by omega) (by have := o.il; omega) (seg := [v]) (j := 3) (show 3 + 1 ≤ 5 by decide) (fun q hq => by simp at hq; rw [hq]; exact h1)
  rw [Int.toNat_natCast] at h2 h3
  have hbl : w1.heap[g]? = W.heap[g]? := by rw [hty, hcs]
  obtain ⟨_, _, _, _, _, hcc, _⟩ := Kd.H_raw h2 (by omega) (by have := o.il; omega)
  rw [Int.toNat_natCast] at hcc
  refine ⟨⟨(Kd.R_set (Kd.R_over' (Kd.R_mono o.r2 (fun q hq => (.inl hq : okw W oki q))) (Kd.R_typed o.r3) (by decide) hg) hty (by decide) (i * 5 + 3) v), (Kd.R_set hr hty (by decide) (i * 5 + 3) v), (Kd.R_set (Kd.R_over' (Kd.R_mono o.r4 (fun q hq => (.inl hq : okw W oki q))) (Kd.R_typed o.r3) (by decide) hg) hty (by decide) (i * 5 + 3) v), hcc, fun j => (World.frozen?_setCells g [v] (i * 5 + 3) w1 _).trans ((World.frozen?_of_block (w := W) (a := ⟨g, i * 5 + j, none⟩) hbl).trans (o.f j)), fun q hq => ?_, h2, ⟨_, blk_put hty (i * 5 + 3) v rfl⟩, o.il, o.bg⟩, fun j u hu => (World.cell?_of_block (w := W) (a := ⟨g, i * 5 + j, none⟩) hbl).trans (o.c j u hu), fun j => (World.frozen?_of_block (w := W) (a := ⟨g, i * 5 + j, none⟩) hbl).trans (o.f j), (Array.getElem?_eq_some_iff.1 hty).1⟩
  rcases hq with hq | hq
  · exact o.ne q hq
  · have := (Array.getElem?_eq_some_iff.1 hcs).1
    have := hq.2
    omega
/-- An append to a row of the element, stored back. -/
theorem Op52.app4 (o : Op52 W base g n cap Xs i x oki v2 v3 v4) {v : Value} {L : List Int} (hr : (Kd.int .i64).R 2 w1 base (okw W oki) v L) (hg : W.grownBy w1 v4.ownBlock) :
    Op52 (w1.setCell ⟨g, i * 5 + 4, none⟩ v) base g n cap Xs i { x with f4 := L } (okw W oki) v2 v3 v ∧ (∀ j u, [Value.int .i64 x.f0, .int .i16 x.f1, v2, v3, v4][j]? = some u → w1.cell? ⟨g, i * 5 + j, none⟩ = some u) ∧ (∀ j, w1.frozen? ⟨g, i * 5 + j, none⟩ = false) ∧ g < w1.heap.size := by
  obtain ⟨cs, hcs⟩ := o.ty
  have hne : some g ≠ v4.ownBlock := Kd.R_ne o.r4 hcs (by decide)
  have hty : w1.heap[g]? = some (.cells cs 52 (0, 0)) := blk_grown hcs hg hne
  have hH := Kd.H_grown (Kd.H_widen o.h) hg (fun q hq => .inl (o.r4.1 q hq))
  obtain ⟨A_, c_, rfl⟩ := Kd.R_slice hr
  obtain ⟨v, hv⟩ : ∃ v, v = Value.slice A_ L.length c_ := ⟨_, rfl⟩
  have h1 : v.oneCell' = true := by rw [hv]; rfl
  rw [← hv] at hr ⊢
  clear hv
  obtain ⟨h2, h3⟩ := Kd.H_seg hH (by omega) (by have := o.il; omega) (seg := [v]) (j := 4) (show 4 + 1 ≤ 5 by decide) (fun q hq => by simp at hq; rw [hq]; exact h1)
  rw [Int.toNat_natCast] at h2 h3
  have hbl : w1.heap[g]? = W.heap[g]? := by rw [hty, hcs]
  obtain ⟨_, _, _, _, _, hcc, _⟩ := Kd.H_raw h2 (by omega) (by have := o.il; omega)
  rw [Int.toNat_natCast] at hcc
  refine ⟨⟨(Kd.R_set (Kd.R_over' (Kd.R_mono o.r2 (fun q hq => (.inl hq : okw W oki q))) (Kd.R_typed o.r4) (by decide) hg) hty (by decide) (i * 5 + 4) v), (Kd.R_set (Kd.R_over' (Kd.R_mono o.r3 (fun q hq => (.inl hq : okw W oki q))) (Kd.R_typed o.r4) (by decide) hg) hty (by decide) (i * 5 + 4) v), (Kd.R_set hr hty (by decide) (i * 5 + 4) v), hcc, fun j => (World.frozen?_setCells g [v] (i * 5 + 4) w1 _).trans ((World.frozen?_of_block (w := W) (a := ⟨g, i * 5 + j, none⟩) hbl).trans (o.f j)), fun q hq => ?_, h2, ⟨_, blk_put hty (i * 5 + 4) v rfl⟩, o.il, o.bg⟩, fun j u hu => (World.cell?_of_block (w := W) (a := ⟨g, i * 5 + j, none⟩) hbl).trans (o.c j u hu), fun j => (World.frozen?_of_block (w := W) (a := ⟨g, i * 5 + j, none⟩) hbl).trans (o.f j), (Array.getElem?_eq_some_iff.1 hty).1⟩
  rcases hq with hq | hq
  · exact o.ne q hq
  · have := (Array.getElem?_eq_some_iff.1 hcs).1
    have := hq.2
    omega

theorem ty_ne {W : World} {a b : Nat} {ca cb : Array Value} {ta tb : TypeId} (ha : W.heap[a]? = some (.cells ca ta (0, 0))) (hb : W.heap[b]? = some (.cells cb tb (0, 0))) (h : ta ≠ tb) : a ≠ b := by
  rintro rfl
  rw [ha] at hb
  injection hb with hb
  injection hb with _ hb
  exact h hb
/-- One place of each of the element's rows is spoiled. -/
theorem spoil3 (h : SK W base g n cap Xs) (hx : Xs[i]? = some x) {N j : Nat} (h2 : x.f2.length = N) (h3 : x.f3.length = N) (h4 : x.f4.length = N) (hj : j < N) :
    ∃ b2 q2 b3 q3 b4 q4 u2 u3 u4, (W.cell? ⟨g, i * 5 + 2, none⟩ = some (.slice (some ⟨b2, 0, none⟩) N q2) ∧ W.cell? ⟨g, i * 5 + 3, none⟩ = some (.slice (some ⟨b3, 0, none⟩) N q3) ∧ W.cell? ⟨g, i * 5 + 4, none⟩ = some (.slice (some ⟨b4, 0, none⟩) N q4)) ∧
      (W.cell? ⟨b2, j, none⟩ = some u2 ∧ W.cell? ⟨b3, j, none⟩ = some u3 ∧ W.cell? ⟨b4, j, none⟩ = some u4) ∧ (W.frozen? ⟨b2, j, none⟩ = false ∧ W.frozen? ⟨b3, j, none⟩ = false ∧ W.frozen? ⟨b4, j, none⟩ = false) ∧ (b2 < W.heap.size ∧ b3 < W.heap.size ∧ b4 < W.heap.size) ∧
      (b2 ≠ g ∧ b3 ≠ g ∧ b4 ≠ g ∧ b2 ≠ b3 ∧ b2 ≠ b4 ∧ b3 ≠ b4) ∧ (base ≤ b2 ∧ base ≤ b3 ∧ base ≤ b4) ∧
      SK (((W.setCell ⟨b4, j, none⟩ (.int .i64 (-9))).setCell ⟨b2, j, none⟩ (.int .i32 (-9))).setCell ⟨b3, j, none⟩ (.int .i64 (-9))) base g n cap (Xs.set i ⟨x.f0, x.f1, x.f2.set j (-9), x.f3.set j (-9), x.f4.set j (-9)⟩) := by
  obtain ⟨oki, v2, v3, v4, o⟩ := S_open h hx
  obtain ⟨b2, q2, e2, g2, l2, c2, t2⟩ := Kd.R_form o.r2 (by omega)
  obtain ⟨b3, q3, e3, g3, l3, c3, t3⟩ := Kd.R_form o.r3 (by omega)
  obtain ⟨b4, q4, e4, g4, l4, c4, t4⟩ := Kd.R_form o.r4 (by omega)
  rw [h2] at e2
  rw [h3] at e3
  rw [h4] at e4
  subst e2
  subst e3
  subst e4
  obtain ⟨cs, hcs⟩ := o.ty
  obtain ⟨d2, f2, _⟩ := int_get o.r2 hj
  obtain ⟨d3, f3, _⟩ := int_get o.r3 hj
  obtain ⟨d4, f4, _⟩ := int_get o.r4 hj
  have n23 := ty_ne t2 t3 (by decide)
  have n24 := ty_ne t2 t4 (by decide)
  have n34 := ty_ne t3 t4 (by decide)
  obtain ⟨r4, k4⟩ := int_set o.r4 hj (-9)
  have own : ∀ (b q : Nat), (Value.slice (some ⟨b, 0, none⟩) N q).ownBlock = some b := fun b q => by simp [Value.ownBlock]
  have r2 := Kd.R_over' o.r2 (Kd.R_typed o.r4) (by decide) (show W.grownBy _ (Value.slice (some ⟨b4, 0, none⟩) N q4).ownBlock by rw [own]; exact k4)
  have r3 := Kd.R_over' o.r3 (Kd.R_typed o.r4) (by decide) (show W.grownBy _ (Value.slice (some ⟨b4, 0, none⟩) N q4).ownBlock by rw [own]; exact k4)
  obtain ⟨r2', k2⟩ := int_set r2 hj (-9)
  have s4 := Kd.R_over' r4 (Kd.R_typed r2) (by decide) (show World.grownBy _ _ (Value.slice (some ⟨b2, 0, none⟩) N q2).ownBlock by rw [own]; exact k2)
  have s3 := Kd.R_over' r3 (Kd.R_typed r2) (by decide) (show World.grownBy _ _ (Value.slice (some ⟨b2, 0, none⟩) N q2).ownBlock by rw [own]; exact k2)
  obtain ⟨r3', k3⟩ := int_set s3 hj (-9)
  have z4 := Kd.R_over' s4 (Kd.R_typed s3) (by decide) (show World.grownBy _ _ (Value.slice (some ⟨b3, 0, none⟩) N q3).ownBlock by rw [own]; exact k3)
  have z2 := Kd.R_over' r2' (Kd.R_typed s3) (by decide) (show World.grownBy _ _ (Value.slice (some ⟨b3, 0, none⟩) N q3).ownBlock by rw [own]; exact k3)
  have own2 := fun q (hq : some b2 = some q) => o.r2.1 q ((own b2 q2).trans hq)
  have own3 := fun q (hq : some b3 = some q) => o.r3.1 q ((own b3 q3).trans hq)
  have own4 := fun q (hq : some b4 = some q) => o.r4.1 q ((own b4 q4).trans hq)
  have hH := Kd.H_grown (Kd.H_grown (Kd.H_grown o.h k4 own4) k2 own2) k3 own3
  have hS := Kd.H_back hH (x' := ⟨x.f0, x.f1, x.f2.set j (-9), x.f3.set j (-9), x.f4.set j (-9)⟩) (okp := oki) (k52_mkM _ base oki ⟨x.f0, x.f1, x.f2.set j (-9), x.f3.set j (-9), x.f4.set j (-9)⟩ z2 r3' z4) (fun _ h => h)
  rw [Int.toNat_natCast] at hS
  exact ⟨b2, q2, b3, q3, b4, q4, _, _, _, ⟨o.c 2 _ rfl, o.c 3 _ rfl, o.c 4 _ rfl⟩, ⟨d2, d3, d4⟩, ⟨f2, f3, f4⟩, ⟨l2, l3, l4⟩, ⟨ty_ne t2 hcs (by decide), ty_ne t3 hcs (by decide), ty_ne t4 hcs (by decide), n23, n24, n34⟩, ⟨g2, g3, g4⟩, hS⟩
end

/-- Row q's three columns up to len are spoiled. -/
def Bad9 (x : S52) (r : Nat) : Prop := x.f2[r]? = some (-9) ∧ x.f3[r]? = some (-9) ∧ x.f4[r]? = some (-9)
/-- Spoiled up to row i, place j. -/
def Sp (Lw Xs : List S52) (i j : Nat) : Prop :=
  Xs.length = Lw.length ∧ ∀ q x y, Xs[q]? = some x → Lw[q]? = some y → (x.f2.length = y.f4.length ∧ x.f3.length = y.f4.length ∧ x.f4.length = y.f4.length) ∧ ∀ r, r < y.f4.length → (q < i ∨ q = i ∧ r < j) → Bad9 x r
theorem Sp.start {Lw : List S52} (h : ∀ x ∈ Lw, Even x) : Sp Lw Lw 0 0 := ⟨rfl, fun q x y hx hy => by
  rw [hx] at hy
  injection hy with hy
  subst hy
  obtain ⟨h1, h2, _⟩ := h x (List.mem_of_getElem? hx)
  exact ⟨⟨h2, by omega, rfl⟩, fun r hr h => by omega⟩⟩
theorem Sp.step {Lw Xs : List S52} {i j : Nat} {x y : S52} (h : Sp Lw Xs i j) (hx : Xs[i]? = some x) (hy : Lw[i]? = some y) (hj : j < y.f4.length) : Sp Lw (Xs.set i ⟨x.f0, x.f1, x.f2.set j (-9), x.f3.set j (-9), x.f4.set j (-9)⟩) i (j + 1) := by
  refine ⟨by rw [List.length_set]; exact h.1, fun q x' y' hx' hy' => ?_⟩
  have hil := (List.getElem?_eq_some_iff.1 hx).1
  by_cases hq : q = i
  · subst hq
    rw [List.getElem?_set_self hil] at hx'
    injection hx' with hx'
    subst hx'
    rw [hy] at hy'
    injection hy' with hy'
    subst hy'
    obtain ⟨⟨a2, a3, a4⟩, hb⟩ := h.2 q x y hx hy
    refine ⟨⟨by simp [a2], by simp [a3], by simp [a4]⟩, fun r hr hc => ?_⟩
    by_cases hrj : r = j
    · subst hrj
      exact ⟨List.getElem?_set_self (by omega), List.getElem?_set_self (by omega), List.getElem?_set_self (by omega)⟩
    · obtain ⟨b2, b3, b4⟩ := hb r hr (by omega)
      exact ⟨(List.getElem?_set_ne (by omega)).trans b2, (List.getElem?_set_ne (by omega)).trans b3, (List.getElem?_set_ne (by omega)).trans b4⟩
  · rw [List.getElem?_set_ne (by omega)] at hx'
    obtain ⟨ha, hb⟩ := h.2 q x' y' hx' hy'
    exact ⟨ha, fun r hr hc => hb r hr (by omega)⟩
theorem Sp.row {Lw Xs : List S52} {i j : Nat} {y : S52} (h : Sp Lw Xs i j) (hy : Lw[i]? = some y) (hj : j = y.f4.length) : Sp Lw Xs (i + 1) 0 := by
  refine ⟨h.1, fun q x' y' hx' hy' => ⟨(h.2 q x' y' hx' hy').1, fun r hr hc => (h.2 q x' y' hx' hy').2 r hr ?_⟩⟩
  rcases hc with hc | hc
  · by_cases hq : q = i
    · subst hq
      rw [hy] at hy'
      injection hy' with hy'
      subst hy'
      omega
    · omega
  · omega
/-- Spoiled; row i has k numbers more, the rows ahead of it eight. -/
def Sq (Lw Xs : List S52) (i k : Nat) : Prop :=
  Xs.length = Lw.length ∧ ∀ q x y, Xs[q]? = some x → Lw[q]? = some y → (x.f2.length ≤ y.f4.length + 8 ∧ x.f3.length ≤ y.f4.length + 8 ∧ x.f4.length ≤ y.f4.length + 8) ∧ (i < q → x.f2.length ≤ y.f4.length ∧ x.f3.length ≤ y.f4.length ∧ x.f4.length ≤ y.f4.length) ∧ (q = i → x.f2.length ≤ y.f4.length + k ∧ x.f3.length ≤ y.f4.length + k ∧ x.f4.length ≤ y.f4.length + k) ∧ ∀ r, r < y.f4.length → Bad9 x r
theorem Sq.start {Lw Xs : List S52} (h : Sp Lw Xs Lw.length 0) : Sq Lw Xs 0 0 := by
  refine ⟨h.1, fun q x y hx hy => ?_⟩
  obtain ⟨⟨a2, a3, a4⟩, hb⟩ := h.2 q x y hx hy
  have hq := (List.getElem?_eq_some_iff.1 hy).1
  exact ⟨⟨by omega, by omega, by omega⟩, fun _ => ⟨by omega, by omega, by omega⟩, fun _ => ⟨by omega, by omega, by omega⟩, fun r hr => hb r hr (.inl hq)⟩
theorem Sq.step {Lw Xs : List S52} {i k : Nat} {x y : S52} {a b c : Int} (h : Sq Lw Xs i k) (hx : Xs[i]? = some x) (hy : Lw[i]? = some y) (hk : k < 8) : Sq Lw (Xs.set i ⟨x.f0, x.f1, x.f2 ++ [a], x.f3 ++ [b], x.f4 ++ [c]⟩) i (k + 1) := by
  refine ⟨by rw [List.length_set]; exact h.1, fun q x' y' hx' hy' => ?_⟩
  have hil := (List.getElem?_eq_some_iff.1 hx).1
  by_cases hq : q = i
  · subst hq
    rw [List.getElem?_set_self hil] at hx'
    injection hx' with hx'
    subst hx'
    rw [hy] at hy'
    injection hy' with hy'
    subst hy'
    obtain ⟨_, _, h3, hb⟩ := h.2 q x y hx hy
    obtain ⟨l2, l3, l4⟩ := h3 rfl
    refine ⟨⟨by simp; omega, by simp; omega, by simp; omega⟩, fun h => absurd h (Nat.lt_irrefl _), fun _ => ⟨by simp; omega, by simp; omega, by simp; omega⟩, fun r hr => ?_⟩
    obtain ⟨b2, b3, b4⟩ := hb r hr
    exact ⟨(List.getElem?_append_left (List.getElem?_eq_some_iff.1 b2).1).trans b2, (List.getElem?_append_left (List.getElem?_eq_some_iff.1 b3).1).trans b3, (List.getElem?_append_left (List.getElem?_eq_some_iff.1 b4).1).trans b4⟩
  · rw [List.getElem?_set_ne (by omega)] at hx'
    obtain ⟨h1, h2, h3, hb⟩ := h.2 q x' y' hx' hy'
    exact ⟨h1, h2, fun h => absurd h hq, hb⟩
theorem Sq.row {Lw Xs : List S52} {i k : Nat} (h : Sq Lw Xs i k) : Sq Lw Xs (i + 1) 0 := by
  refine ⟨h.1, fun q x' y' hx' hy' => ?_⟩
  obtain ⟨h1, h2, h3, hb⟩ := h.2 q x' y' hx' hy'
  exact ⟨h1, fun hq => h2 (by omega), fun hq => by subst hq; obtain ⟨a, b, c⟩ := h2 (Nat.lt_succ_self _); exact ⟨a, b, c⟩, hb⟩

/-- A row stays where a map is written. -/
theorem row_kept {W W' : World} {base b : Nat} {v : Value} {L : List S52} (hr : Kd.R k52 52 W base (fun _ => True) v L) (hk : Kept (fun j => j = b) W W') (hb : ∃ es c, W.heap[b]? = some (.map es c)) : Kd.R k52 52 W' base (fun _ => True) v L := by
  obtain ⟨es, cl, hmap⟩ := hb
  refine Kd.R_mono (Kd.R_step (Kd.R_bound hr) (fun k ho hlt => ho.2.2.2.elim fun q hq => ?_)) (fun _ _ => trivial)
  obtain ⟨_, cs, hc⟩ := hq
  exact hk.block k hlt (fun e => by rw [e, hmap] at hc; cases hc)
theorem alike_n (A1 A2 : Option Addr) (c1 c2 n : Nat) (xs : List S52) (w : World) (hn : n = xs.length) (h1 : Kd.C k52 w A1 xs.length xs) (h2 : Kd.C k52 w A2 xs.length xs) (hx : ∀ x ∈ xs, Even x) (hm : xs.length ≤ 9000000000000000000) :
    Calls Try.prog 15 #[.slice A1 n c1, .slice A2 n c2] w fun e w' => e = .returned (.bool true) ∧ Below w.heap.size w w' := by
  subst hn
  exact alike_same A1 A2 c1 c2 xs w h1 h2 hx hm
/-- All behind Forget. -/
theorem all_want (t b k n : Nat) (g : Int → Option (Int × List Mk)) (base : Int) (ks : List Int) (w : World) (ha : Asc ks) (hmem : ∀ x, x ∈ ks ↔ (g x).isSome = true) (h : Tab w t b k (forgetT g base)) (hk : k ≤ 1048576) (hn : n = (wantL g base ks).length) :
    Calls Try.prog 16 #[.pointer (some ⟨t, 0, none⟩)] w fun e w' => ∃ (A : Option Addr) (c : Nat), e = .returned (.slice A n c) ∧ Kd.S k52 52 w' w.heap.size (fun _ => True) (.slice A n c) (wantL g base ks) ∧ (∀ x ∈ wantL g base ks, Even x) ∧ n ≤ 1048576 ∧ Below w.heap.size w w' := by
  refine (all_any t b k _ w h (by omega)).mono ?_
  rintro e w' ⟨v, ks2, rfl, hasc, hmem2, hlen, hSS, hb⟩
  have he := want_all (base := base) ha hmem hasc hmem2
  rw [← he] at hSS
  obtain ⟨A, c, rfl⟩ := Kd.S_slice hSS
  rw [← hn] at hSS ⊢
  exact ⟨A, c, rfl, hSS, by rw [he]; exact kn_even h.ok hmem2, by rw [hn, he, List.length_map]; omega, hb⟩
end Go.Proofs.Ytnooekflmjebiaa
