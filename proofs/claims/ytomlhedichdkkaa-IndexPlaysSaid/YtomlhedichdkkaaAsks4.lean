/- One call of a script: All. -/
import Derived.Test.YtomlhedichdkkaaAsks3
namespace Go.Proofs.Ytomlhedichdkkaa
open Go Go.RowKit
set_option linter.unusedVariables false

/-- Nothing but the result's box has turned. -/
theorem kept_store {W : World} {b : Nat} {x y : Value} : Kept (fun k => k = b) W ((W.setCell ⟨b, 0, none⟩ x).setCell ⟨b, 1, none⟩ y) := Kept.setCell (S := fun k => k = b) (p := ⟨b, 1, none⟩) (Kept.setCell (S := fun k => k = b) (p := ⟨b, 0, none⟩) (Kept.refl _ W) rfl x) rfl y
theorem kept_drew {W : World} {b : Nat} : Kept (fun k => k = b) W W.drew := Kept.of_below (Below.refl _ _).drew
theorem kept_store_drew {W : World} {b : Nat} {x y : Value} : Kept (fun k => k = b) W ((W.setCell ⟨b, 0, none⟩ x).setCell ⟨b, 1, none⟩ y).drew := kept_store.trans kept_drew
theorem ask_alike {w W wA : World} {L : List Ent} {AA A : Option Addr} {cA c n b : Nat} (hn : L.length = n) (hm : n ≤ 1759218604390) (h : Row wA AA L ∧ Row wA A L ∧ (∀ a, AA = some a → 0 < L.length → a.block ≠ b) ∧ (∀ a, A = some a → 0 < L.length → a.block ≠ b)) (hw : Below w.heap.size w wA) (hb : w.heap.size ≤ b) (hbl : b < wA.heap.size) {x : Nat} {xb xv : Value} (hx0 : wA.cell? ⟨x, 0, none⟩ = some xb) (hx1 : wA.cell? ⟨x, 1, none⟩ = some xv) (hxl : x < wA.heap.size) (hxb : x ≠ b) (hk : Kept (fun k => k = b) wA W) :
    Calls Try.prog 18 #[.slice AA n cA, .slice A n c] W fun r w' => r = .returned (.bool true) ∧ Below w.heap.size w w' ∧ w'.cell? ⟨x, 0, none⟩ = some xb ∧ w'.cell? ⟨x, 1, none⟩ = some xv ∧ w'.cell? ⟨b, 0, none⟩ = W.cell? ⟨b, 0, none⟩ ∧ w'.cell? ⟨b, 1, none⟩ = W.cell? ⟨b, 1, none⟩ ∧ (∀ i, w'.frozen? ⟨b, i, none⟩ = W.frozen? ⟨b, i, none⟩) := by
  refine (alike_any W L AA A cA c n hn (by omega) (h.1.kept hk h.2.2.1) (h.2.1.kept hk h.2.2.2)).mono ?_
  rintro r w' ⟨rfl, h2⟩
  have h3 := hw.trans (hk.below hw.size fun k hk => by omega)
  have hl : b < W.heap.size := Nat.lt_of_lt_of_le hbl hk.size
  have hl2 : x < W.heap.size := Nat.lt_of_lt_of_le hxl hk.size
  exact ⟨rfl, h3.trans (h2.mono h3.size), keep_cell h2 hl2 ((hk.cell (a := ⟨x, 0, none⟩) hxl hxb).trans hx0), keep_cell h2 hl2 ((hk.cell (a := ⟨x, 1, none⟩) hxl hxb).trans hx1), h2.cell (p := ⟨b, 0, none⟩) hl, h2.cell (p := ⟨b, 1, none⟩) hl, fun i => h2.frozen (p := ⟨b, i, none⟩) hl⟩
theorem ask_all {w W W3 : World} {g : Nat} {base : Int} {L : List Ent} {A : Option Addr} {P : Nat → Prop} {n b : Nat} (hn : L.length = n) (hm : n ≤ 1759218604390) (ho : Obj W3 g base L P) (hr : Row W3 A L) (hP : ∀ k, P k → k < b) (hA : ∀ a, A = some a → 0 < L.length → a.block < b) (hw : Below w.heap.size w W3) (hb : w.heap.size ≤ b) (hb3 : b < W3.heap.size) {x : Nat} {xb xv : Value} (hx0 : W3.cell? ⟨x, 0, none⟩ = some xb) (hx1 : W3.cell? ⟨x, 1, none⟩ = some xv) (hxl : x < W3.heap.size) (hxb : x ≠ b) (hk : Kept (fun k => k = b) W3 W) :
    Calls Try.prog 10 #[.pointer (some ⟨g, 0, none⟩)] W fun r wA => ∃ AA cA, r = .returned (.slice AA n cA) ∧ (Row wA AA L ∧ Row wA A L ∧ (∀ a, AA = some a → 0 < L.length → a.block ≠ b) ∧ (∀ a, A = some a → 0 < L.length → a.block ≠ b)) ∧ Below w.heap.size w wA ∧ wA.cell? ⟨x, 0, none⟩ = some xb ∧ wA.cell? ⟨x, 1, none⟩ = some xv ∧ wA.cell? ⟨b, 0, none⟩ = W.cell? ⟨b, 0, none⟩ ∧ wA.cell? ⟨b, 1, none⟩ = W.cell? ⟨b, 1, none⟩ ∧ (∀ i, wA.frozen? ⟨b, i, none⟩ = W.frozen? ⟨b, i, none⟩) ∧ b < wA.heap.size := by
  refine (ob_all (ho.kept hk fun k h => by have := hP k h; omega) (by omega)).mono ?_
  rintro r wA ⟨v, rfl, hv, h2⟩
  obtain ⟨AA, cA, rfl⟩ := hv.slice
  have h3 := hw.trans (hk.below hw.size fun k hk => by omega)
  subst hn
  have hl : b < W.heap.size := Nat.lt_of_lt_of_le hb3 hk.size
  have hl2 : x < W.heap.size := Nat.lt_of_lt_of_le hxl hk.size
  refine ⟨AA, cA, rfl, ⟨hv.row, (hr.kept hk fun a ha hn => by have := hA a ha hn; omega).below' h2, fun a ha hn => ?_, fun a ha hn => by have := hA a ha hn; omega⟩, h3.trans (h2.mono h3.size), keep_cell h2 hl2 ((hk.cell (a := ⟨x, 0, none⟩) hxl hxb).trans hx0), keep_cell h2 hl2 ((hk.cell (a := ⟨x, 1, none⟩) hxl hxb).trans hx1), h2.cell (p := ⟨b, 0, none⟩) hl, h2.cell (p := ⟨b, 1, none⟩) hl, fun i => h2.frozen (p := ⟨b, i, none⟩) hl, Nat.lt_of_lt_of_le hl h2.size⟩
  have := (hv.lt a.block (by rw [ha]; rfl)).1
  have := hk.size
  omega

section
variable (w : World) (g : Nat) (base : Int) (L : List Ent) (A : Option Addr) (c n : Nat) (P : Nat → Prop) (hn : L.length = n) (hm : n ≤ 1759218604390) (hap : Apart w g base L A P)
include hn hm hap

set_option maxRecDepth 20000 in
set_option maxHeartbeats 4000000 in
theorem asks_all (e : Ent) (N M : Int) :
    Calls Try.prog 21 #[.pointer (some ⟨g, 0, none⟩), .agg #[.int .i64 base, .slice A n c], opVal 7 e N M] w (AskAns w g base L A P) := by
  have HN := Lib.hid hn
  have HAP := Lib.hid hap
  have hh := aheads w base (.slice A n c) 7 e N M
  simp only [opObj] at hh
  have HH := Lib.hid hh
  unfold opVal
  clear hap hn hh
  go_enter Try.func21, Try.ntmps21
  go_wp2_with fail
  generalize ((w.alloc (.cells #[.int .i64 base, .slice A n c] 47)).alloc (.cells #[.int .i64 7, .int .i64 e.base, .int .i64 e.count, .int .i64 e.at_, .int .i64 e.size, .int .i64 e.last, .int .i64 e.pid, .int .i16 e.pep, .int .i32 e.seq, .int .i64 N, .int .i64 M] 49)).alloc (.cells #[.int .i64 0, .slice none 0 0] 47) = W3 at *
  have O3 : Hid (Obj W3 g base L P) := (HAP.out.below HH.out.b).obj
  have R3 : Hid (Row W3 A L) := (HAP.out.below HH.out.b).row
  obtain ⟨x0, x1⟩ := HH.out.x.c
  obtain ⟨r0, r1⟩ := HH.out.r.c
  have rf := HH.out.r.free
  have hs0 : w.heap.size < W3.heap.size := HH.out.x.lt
  have hs2 : w.heap.size + 1 + 1 < W3.heap.size := HH.out.r.lt
  have B3 := Lib.hid HH.out.b
  have ALL := Lib.hid (fun (W : World) => ask_all (W := W) (b := w.heap.size + 1 + 1) HN.out hm O3.out R3.out (fun k hk => by have := HAP.out.lt k hk; omega) (fun a ha hn => by have := HAP.out.row.lt a ha hn; omega) HH.out.b (by omega) HH.out.r.lt HH.out.x.c.1 HH.out.x.c.2 HH.out.x.lt (by omega))
  go_wp2_with fail
  go_region_with
    (first
      | (go_at_call 10; refine (ALL.out _ ?_).mono ?_; (· first | exact kept_drew | exact kept_store_drew | exact kept_store | exact Kept.refl _ _); rintro r wA ⟨AA, cA, rfl, hrows, hbw, p0, p1, q0, q1, qf, ql⟩; have RWA := Lib.hid hrows; have BWA := Lib.hid hbw; clear hrows hbw)
      | (go_at_call 18; refine (ask_alike HN.out hm RWA.out BWA.out (b := w.heap.size + 1 + 1) (by omega) ql p0 p1 (by omega) (by omega) ?_).mono ?_; (· first | exact Kept.refl _ _ | exact kept_drew | exact kept_store_drew | exact kept_store); rintro r wB ⟨rfl, hbw, v0, v1, u0, u1, uf⟩; have BWB := Lib.hid hbw; clear hbw))
  all_goals
    go_wp2_with fail
    refine bodyPost_ret (v := .tuple #[.agg #[.int .i64 base, .slice A n c], .bool true]) ?_ rfl (AskAns.same HAP.out HN.out ?_ rfl)
    · rw [results_cell_tmp rfl]
      go_simp
      try rfl
    · first | exact BWB.out | exact put_res base BWB.out | exact (put_res base BWB.out).drew | exact BWB.out.drew
end
end Go.Proofs.Ytomlhedichdkkaa
