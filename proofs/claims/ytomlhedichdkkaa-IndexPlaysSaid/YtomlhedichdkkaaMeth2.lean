/- The walks of place, At, Since, All, Span: what an index answers. -/
import Derived.Test.YtomlhedichdkkaaMeth
namespace Go.Proofs.Ytomlhedichdkkaa
open Go Go.RowKit
set_option linter.unusedVariables false

/-- In range, the entry found holds the offset. -/
theorem fromE_in {base : Int} {es : List Ent} (h : Valid base es) (k : Int) (h1 : base ≤ k) (h2 : k < nextOf base es) :
    ∃ e, fromE es k < es.length ∧ es[fromE es k]? = some e ∧ e.base ≤ k ∧ k < e.base + e.count := by
  have hlt : fromE es k < es.length := by
    unfold fromE
    rcases snoc_cases es with rfl | ⟨es, e, rfl⟩
    · simp [nextOf, cntSum] at h2; omega
    · refine List.findIdx_lt_length_of_exists ⟨e, by simp, ?_⟩
      have := h.last
      simp only [decide_eq_true_eq]
      omega
  refine ⟨es[fromE es k], hlt, List.getElem?_eq_getElem hlt, ?_, ?_⟩
  · rcases Nat.eq_zero_or_pos (fromE es k) with h0 | h0
    · obtain ⟨e1, _⟩ := h.ent (fromE es k) _ (List.getElem?_eq_getElem hlt)
      rw [e1, h0]
      simp [cntSum]
      omega
    · have hp : fromE es k - 1 < es.findIdx (fun e => decide (k ≤ e.base + e.count - 1)) := by unfold fromE at h0 ⊢; omega
      have hn := List.not_of_lt_findIdx hp
      obtain ⟨e1, _⟩ := h.ent (fromE es k) _ (List.getElem?_eq_getElem hlt)
      have hlt' : fromE es k - 1 < es.length := by omega
      obtain ⟨f1, _⟩ := h.ent (fromE es k - 1) _ (List.getElem?_eq_getElem hlt')
      have ht := take_snoc' (List.getElem?_eq_getElem hlt')
      rw [show fromE es k - 1 + 1 = fromE es k by omega] at ht
      rw [ht, cntSum_append, cntSum_one] at e1
      simp only [decide_eq_false_iff_not] at hn
      omega
  · have hp := List.findIdx_getElem (w := show es.findIdx (fun e => decide (k ≤ e.base + e.count - 1)) < es.length from hlt)
    simp only [decide_eq_true_eq] at hp
    unfold fromE
    omega

def placeI (base : Int) (es : List Ent) (k : Int) : Int := if k < base ∨ nextOf base es ≤ k then -1 else (fromE es k : Int)
def atOf (base : Int) (es : List Ent) (k : Int) : Option Ent := if k < base ∨ nextOf base es ≤ k then none else es[fromE es k]?
def sinceOf (es : List Ent) (t : Int) : Option Ent := es[fromP es t]?
/-- What At and Since answer. -/
def optAns (o : Option Ent) : Value := .tuple #[(o.getD Ent.zero).val, .bool o.isSome]

def zeroCells : Array Value := #[.int .i64 0, .int .i64 0, .int .i64 0, .int .i64 0, .int .i64 0, .int .i64 0, .int .i16 0, .int .i32 0]
/-- A struct's result, made at the head and kept by a call: its cells may be written. -/
structure ResAt (w1 : World) (b : Nat) : Prop where
  c0 : w1.cell? ⟨b, 0, none⟩ = some (.int .i64 0)
  c1 : w1.cell? ⟨b, 1, none⟩ = some (.int .i64 0)
  c2 : w1.cell? ⟨b, 2, none⟩ = some (.int .i64 0)
  c3 : w1.cell? ⟨b, 3, none⟩ = some (.int .i64 0)
  c4 : w1.cell? ⟨b, 4, none⟩ = some (.int .i64 0)
  c5 : w1.cell? ⟨b, 5, none⟩ = some (.int .i64 0)
  c6 : w1.cell? ⟨b, 6, none⟩ = some (.int .i16 0)
  c7 : w1.cell? ⟨b, 7, none⟩ = some (.int .i32 0)
  f0 : w1.frozen? ⟨b, 0, none⟩ = false
  f1 : w1.frozen? ⟨b, 1, none⟩ = false
  f2 : w1.frozen? ⟨b, 2, none⟩ = false
  f3 : w1.frozen? ⟨b, 3, none⟩ = false
  f4 : w1.frozen? ⟨b, 4, none⟩ = false
  f5 : w1.frozen? ⟨b, 5, none⟩ = false
  f6 : w1.frozen? ⟨b, 6, none⟩ = false
  f7 : w1.frozen? ⟨b, 7, none⟩ = false
  lt : b < w1.heap.size
theorem resAt {w w1 : World} {B : Nat} (hb : Below B (w.alloc (.cells #[.int .i64 0, .int .i64 0, .int .i64 0, .int .i64 0, .int .i64 0, .int .i64 0, .int .i16 0, .int .i32 0] 30)) w1) (hB : w.heap.size < B) : ResAt w1 w.heap.size := by
  have h : w1.heap[w.heap.size]? = some (.cells zeroCells 30 (0, 0)) := (hb.block _ hB).trans (heap_alloc_new w _)
  have k := fun j => cell_of_row w1 w.heap.size j _ _ _ h
  have f : ∀ i, w1.frozen? ⟨w.heap.size, i, none⟩ = false := fun i => by simp [World.frozen?, h]
  exact ⟨k 0, k 1, k 2, k 3, k 4, k 5, k 6, k 7, f 0, f 1, f 2, f 3, f 4, f 5, f 6, f 7, (Array.getElem?_eq_some_iff.1 h).1⟩

section
variable (w : World) (g : Nat) (base : Int) (es : List Ent) (ve vp : Value) (hx : IX w g base es ve vp) (hm : es.length ≤ 140737488355328)
include hx hm

set_option maxHeartbeats 400000 in
theorem place_any (k : Int) : Calls Try.prog 25 #[.pointer (some ⟨g, 0, none⟩), .int .i64 k] w fun r w' => r = .returned (.int .i64 (placeI base es k)) ∧ Below w.heap.size w w' := by
  obtain ⟨c0, c1, c2, c3, c4⟩ := hx.c
  have HN := Lib.hid (next_any w g base es ve vp hx hm)
  have HX := Lib.hid hx
  clear hx
  by_cases h1 : k < base
  · have k1 : decide (k < base) = true := by simpa using h1
    have HP := Lib.hid (show placeI base es k = -1 by unfold placeI; rw [if_pos (.inl h1)])
    go_enter Try.func25, Try.ntmps25
    go_wp2_with fail
    go_ret
    exact ⟨by rw [HP.out]; rfl, Below.refl _ _⟩
  · have k1 : decide (k < base) = false := by simpa using h1
    by_cases h2 : nextOf base es ≤ k
    · have k2 : decide (nextOf base es ≤ k) = true := by simpa using h2
      have HP := Lib.hid (show placeI base es k = -1 by unfold placeI; rw [if_pos (.inr h2)])
      go_enter Try.func25, Try.ntmps25
      go_wp2_with fail
      refine HN.out.mono ?_
      rintro r w1 ⟨rfl, hb⟩
      go_wp2_with fail
      go_ret
      exact ⟨by rw [HP.out]; rfl, hb⟩
    · have k2 : decide (nextOf base es ≤ k) = false := by simpa using h2
      have HP := Lib.hid (show placeI base es k = fromE es k by unfold placeI; rw [if_neg (by omega)])
      go_enter Try.func25, Try.ntmps25
      go_wp2_with fail
      refine HN.out.mono ?_
      rintro r w1 ⟨rfl, hb⟩
      have HB := Lib.hid hb
      clear hb
      go_wp2_with fail
      refine (fromE_any w1 g base es ve vp (HX.out.below HB.out) k hm).mono ?_
      rintro r w2 ⟨rfl, hb2⟩
      go_wp2_with fail
      go_ret
      exact ⟨by rw [HP.out]; rfl, HB.out.trans (hb2.mono HB.out.size)⟩

set_option maxHeartbeats 1000000 in
theorem at_any (k : Int) : Calls Try.prog 11 #[.pointer (some ⟨g, 0, none⟩), .int .i64 k] w fun r w' => r = .returned (optAns (atOf base es k)) ∧ Below w.heap.size w w' := by
  have HB0 := Lib.hid ((Below.refl w.heap.size w).alloc (Nat.le_refl _) (.cells #[.int .i64 0, .int .i64 0, .int .i64 0, .int .i64 0, .int .i64 0, .int .i64 0, .int .i16 0, .int .i32 0] 30))
  have HPL := Lib.hid (place_any _ g base es ve vp (hx.below HB0.out) hm k)
  have hg := hx.lt
  by_cases h1 : k < base ∨ nextOf base es ≤ k
  · have HA := Lib.hid (show atOf base es k = none by unfold atOf; rw [if_pos h1])
    have hpl := HPL.out
    rw [show placeI base es k = -1 by unfold placeI; rw [if_pos h1]] at hpl
    have HPL := Lib.hid hpl
    clear hpl hx h1
    go_enter Try.func11, Try.ntmps11
    go_wp2_with fail
    refine HPL.out.mono ?_
    rintro r w1 ⟨rfl, hb⟩
    obtain ⟨a0, a1, a2, a3, a4, a5, a6, a7, f0, f1, f2, f3, f4, f5, f6, f7, hl⟩ := resAt hb (by simp)
    have HB := Lib.hid (HB0.out.trans (hb.mono (by simp)))
    clear hb
    go_wp2_with fail
    refine bodyPost_ret (v := .tuple #[Ent.zero.val, .bool false]) ?_ rfl ⟨by rw [HA.out]; rfl, ?_⟩
    · rw [results_cell_tmp rfl]
      go_simp
      rfl
    · iterate 8 refine Below.setCell ?_ (by exact Nat.le_refl _) _
      exact HB.out
  · obtain ⟨e, hlt, he, _, _⟩ := fromE_in hx.val k (by omega) (by omega)
    have HA := Lib.hid (show atOf base es k = some e by unfold atOf; rw [if_neg h1]; exact he)
    have hpl := HPL.out
    rw [show placeI base es k = fromE es k by unfold placeI; rw [if_neg h1]] at hpl
    have HPL := Lib.hid hpl
    have HX := Lib.hid hx
    clear hpl hx h1
    generalize fromE es k = i at *
    have hi1 : (0 : Int) ≤ (i : Int) := by omega
    have hi2 : (i : Int) < (es.length : Int) := by omega
    go_enter Try.func11, Try.ntmps11
    go_wp2_with fail
    refine HPL.out.mono ?_
    rintro r w1 ⟨rfl, hb⟩
    obtain ⟨a0, a1, a2, a3, a4, a5, a6, a7, f0, f1, f2, f3, f4, f5, f6, f7, hl⟩ := resAt hb (by simp)
    have HB := Lib.hid (HB0.out.trans (hb.mono (by simp)))
    have hx1 := HX.out.below HB.out
    obtain ⟨c0, c1, c2, c3, c4⟩ := hx1.c
    obtain ⟨b, c, rfl, _, hbl, hc, hcm, hent⟩ := hx1.own.ent (by omega)
    obtain ⟨d0, d1, d2, d3, d4, d5, d6, d7⟩ := hent i e he
    have hgl := hx1.lt
    have HE := Lib.hid he
    clear hb hx1 hent c2 c3 c4 he
    go_wp2_with fail
    refine bodyPost_ret (v := .tuple #[e.val, .bool true]) ?_ rfl ⟨by rw [HA.out]; rfl, ?_⟩
    · rw [results_cell_tmp rfl]
      go_simp
      rfl
    · iterate 8 refine Below.setCell ?_ (by exact Nat.le_refl _) _
      exact HB.out

set_option maxHeartbeats 1000000 in
theorem since_any (t : Int) : Calls Try.prog 16 #[.pointer (some ⟨g, 0, none⟩), .int .i64 t] w fun r w' => r = .returned (optAns (sinceOf es t)) ∧ Below w.heap.size w w' := by
  obtain ⟨c0, c1, c2, c3, c4⟩ := hx.c
  have HB0 := Lib.hid ((Below.refl w.heap.size w).alloc (Nat.le_refl _) (.cells #[.int .i64 0, .int .i64 0, .int .i64 0, .int .i64 0, .int .i64 0, .int .i64 0, .int .i16 0, .int .i32 0] 30))
  have HPL := Lib.hid (fromP_any _ g base es ve vp (hx.below HB0.out) t hm)
  have hg := hx.lt
  have hle : fromP es t ≤ es.length := by
    have := List.findIdx_le_length (xs := peaks es) (p := fun p => decide (t ≤ p))
    rw [peaks_length] at this
    exact this
  by_cases h1 : fromP es t = es.length
  · have HA := Lib.hid (show sinceOf es t = none by unfold sinceOf; rw [h1]; simp)
    have hpl := HPL.out
    rw [h1] at hpl
    have HPL := Lib.hid hpl
    have HX := Lib.hid hx
    clear hpl hx h1 hle
    have hq : ((es.length : Int) == (es.length : Int)) = true := by simp
    go_enter Try.func16, Try.ntmps16
    go_wp2_with fail
    refine HPL.out.mono ?_
    rintro r w1 ⟨rfl, hb⟩
    obtain ⟨a0, a1, a2, a3, a4, a5, a6, a7, f0, f1, f2, f3, f4, f5, f6, f7, hl⟩ := resAt hb (by simp)
    have HB := Lib.hid (HB0.out.trans (hb.mono (by simp)))
    clear hb
    go_wp2_with fail
    refine (len_any w1 g base es ve vp (HX.out.below HB.out)).mono ?_
    rintro r w2 ⟨rfl, rfl⟩
    go_wp2_with fail
    refine bodyPost_ret (v := .tuple #[Ent.zero.val, .bool false]) ?_ rfl ⟨by rw [HA.out]; rfl, ?_⟩
    · rw [results_cell_tmp rfl]
      go_simp
      rfl
    · iterate 8 refine Below.setCell ?_ (by exact Nat.le_refl _) _
      exact HB.out
  · have hlt : fromP es t < es.length := by omega
    obtain ⟨e, he⟩ : ∃ e, es[fromP es t]? = some e := ⟨_, List.getElem?_eq_getElem hlt⟩
    have HA := Lib.hid (show sinceOf es t = some e from he)
    have HX := Lib.hid hx
    clear hx hle
    generalize fromP es t = i at *
    have hq : ((i : Int) == (es.length : Int)) = false := by simp; omega
    have hi1 : (0 : Int) ≤ (i : Int) := by omega
    have hi2 : (i : Int) < (es.length : Int) := by omega
    go_enter Try.func16, Try.ntmps16
    go_wp2_with fail
    refine HPL.out.mono ?_
    rintro r w1 ⟨rfl, hb⟩
    obtain ⟨a0, a1, a2, a3, a4, a5, a6, a7, f0, f1, f2, f3, f4, f5, f6, f7, hl⟩ := resAt hb (by simp)
    have HB := Lib.hid (HB0.out.trans (hb.mono (by simp)))
    have HX1 := Lib.hid (HX.out.below HB.out)
    clear hb c0 c1 c2 c3 c4
    have HE := Lib.hid he
    clear he
    go_wp2_with fail
    refine (len_any w1 g base es ve vp HX1.out).mono ?_
    rintro r w2 ⟨rfl, rfl⟩
    obtain ⟨c0, c1, c2, c3, c4⟩ := HX1.out.c
    obtain ⟨b, c, rfl, _, hbl, hc, hcm, hent⟩ := HX1.out.own.ent (by omega)
    obtain ⟨d0, d1, d2, d3, d4, d5, d6, d7⟩ := hent i e HE.out
    have hgl := HX1.out.lt
    clear hent c2 c3 c4
    go_wp2_with fail
    refine bodyPost_ret (v := .tuple #[e.val, .bool true]) ?_ rfl ⟨by rw [HA.out]; rfl, ?_⟩
    · rw [results_cell_tmp rfl]
      go_simp
      rfl
    · iterate 8 refine Below.setCell ?_ (by exact Nat.le_refl _) _
      exact HB.out
end
end Go.Proofs.Ytomlhedichdkkaa
