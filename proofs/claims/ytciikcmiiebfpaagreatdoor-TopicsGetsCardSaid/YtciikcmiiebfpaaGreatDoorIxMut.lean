/- IxPlain, IxClos, IxMeth, IxMeth2, IxMeth3, IxMut as one text (a claim holds at most 60 files). -/
import Derived.Test.YtciikcmiiebfpaaGreatDoorIxBase

/- IxPlain -/
section
/- Plain facts on lists of entries that follow on. -/
namespace Go.Proofs.YtciikcmiiebfpaaGreatDoor.Ix
open Go Go.RowKit

def cntSum (es : List Ent) : Int := (es.map (·.count)).sum
def sizSum (es : List Ent) : Int := (es.map (·.size)).sum
theorem cntSum_append (a b : List Ent) : cntSum (a ++ b) = cntSum a + cntSum b := by simp [cntSum, List.sum_append]
theorem sizSum_append (a b : List Ent) : sizSum (a ++ b) = sizSum a + sizSum b := by simp [sizSum, List.sum_append]
theorem cntSum_one (e : Ent) : cntSum [e] = e.count := by simp [cntSum]
theorem sizSum_one (e : Ent) : sizSum [e] = e.size := by simp [sizSum]

structure Valid (base : Int) (es : List Ent) : Prop where
  lo : -9223372036854775808 ≤ base
  hi : base ≤ 9223372036854775807
  ent : ∀ i e, es[i]? = some e → e.base = base + cntSum (es.take i) ∧ e.at_ = sizSum (es.take i) ∧ 1 ≤ e.count ∧ e.count ≤ 256 ∧ 1 ≤ e.size ∧ e.size ≤ 36000 ∧ e.base + e.count ≤ 4611686018427387904

def nextOf (base : Int) (es : List Ent) : Int := base + cntSum es
def sizeOf (es : List Ent) : Int := sizSum es

theorem Valid.nil {base : Int} (lo : -9223372036854775808 ≤ base) (hi : base ≤ 9223372036854775807) : Valid base [] := ⟨lo, hi, fun i e h => by simp at h⟩

theorem Valid.take {base : Int} {es : List Ent} (h : Valid base es) (n : Nat) : Valid base (es.take n) := by
  refine ⟨h.lo, h.hi, fun i e he => ?_⟩
  rw [List.getElem?_take] at he
  split at he
  · have := h.ent i e he
    rw [List.take_take, Nat.min_eq_left (by omega)]
    exact this
  · cases he

theorem Valid.snoc {base : Int} {es : List Ent} {e : Ent} (h : Valid base es) (h1 : e.base = nextOf base es) (h2 : e.at_ = sizeOf es) (c1 : 1 ≤ e.count) (c2 : e.count ≤ 256) (s1 : 1 ≤ e.size) (s2 : e.size ≤ 36000) (hE : e.base + e.count ≤ 4611686018427387904) : Valid base (es ++ [e]) := by
  refine ⟨h.lo, h.hi, fun i x hx => ?_⟩
  rcases Nat.lt_or_ge i es.length with hi | hi
  · rw [List.getElem?_append_left hi] at hx
    have := h.ent i x hx
    rwa [List.take_append_of_le_length (by omega)]
  · rw [List.getElem?_append_right hi] at hx
    have hi0 : i = es.length := by
      rcases Nat.lt_or_ge (i - es.length) 1 with h0 | h0
      · omega
      · rw [List.getElem?_eq_none (by simpa using h0)] at hx; cases hx
    subst hi0
    simp at hx
    subst hx
    rw [List.take_left']
    · exact ⟨h1, h2, c1, c2, s1, s2, hE⟩
    · rfl

theorem take_snoc' {es : List Ent} {i : Nat} {e : Ent} (h : es[i]? = some e) : es.take (i + 1) = es.take i ++ [e] := by
  rw [List.take_add_one, h]; rfl

/-- Sums over the front, in bounds. -/
theorem Valid.sums {base : Int} {es : List Ent} (h : Valid base es) : ∀ i, i ≤ es.length → 0 ≤ cntSum (es.take i) ∧ (i : Int) ≤ cntSum (es.take i) ∧ (i : Int) ≤ sizSum (es.take i) ∧ sizSum (es.take i) ≤ 36000 * (i : Int) := by
  intro i
  induction i with
  | zero => intro _; simp [cntSum, sizSum]
  | succ i ih =>
    intro hi
    have hlt : i < es.length := by omega
    obtain ⟨e, he⟩ : ∃ e, es[i]? = some e := ⟨_, List.getElem?_eq_getElem hlt⟩
    obtain ⟨_, _, c1, c2, s1, s2, _⟩ := h.ent i e he
    obtain ⟨a, b, c, d⟩ := ih (by omega)
    rw [take_snoc' he, cntSum_append, sizSum_append, cntSum_one, sizSum_one]
    omega

theorem Valid.mono {base : Int} {es : List Ent} (h : Valid base es) {i j : Nat} (hij : i ≤ j) (hj : j ≤ es.length) : cntSum (es.take i) ≤ cntSum (es.take j) ∧ sizSum (es.take i) ≤ sizSum (es.take j) := by
  induction j with
  | zero =>
    have : i = 0 := by omega
    subst this; simp
  | succ j ih =>
    rcases Nat.lt_or_ge i (j + 1) with hlt | hge
    · obtain ⟨e, he⟩ : ∃ e, es[j]? = some e := ⟨_, List.getElem?_eq_getElem (by omega)⟩
      obtain ⟨_, _, c1, c2, s1, s2, _⟩ := h.ent j e he
      have := ih (by omega) (by omega)
      rw [take_snoc' he, cntSum_append, sizSum_append, cntSum_one, sizSum_one]
      omega
    · have : i = j + 1 := by omega
      subst this; simp

/-- The last entry tells what follows on. -/
theorem Valid.last {base : Int} {es : List Ent} {e : Ent} (h : Valid base (es ++ [e])) :
    nextOf base (es ++ [e]) = e.base + e.count ∧ sizeOf (es ++ [e]) = e.at_ + e.size ∧ -9223372036854775808 ≤ e.base ∧ e.base + e.count ≤ 4611686018427387904 ∧ 1 ≤ e.count ∧ e.count ≤ 256 ∧ 1 ≤ e.size ∧ e.size ≤ 36000 ∧ 0 ≤ e.at_ ∧ e.at_ ≤ 36000 * (es.length : Int) := by
  obtain ⟨h1, h2, c1, c2, s1, s2, hE⟩ := h.ent es.length e (by simp)
  rw [List.take_left' rfl] at h1 h2
  have hs := h.sums es.length (by simp)
  rw [List.take_left' rfl] at hs
  have := h.lo
  unfold nextOf sizeOf
  rw [cntSum_append, sizSum_append, cntSum_one, sizSum_one]
  omega

theorem snoc_cases (es : List Ent) : es = [] ∨ ∃ es' e, es = es' ++ [e] := by
  rcases List.eq_nil_or_concat es with h | ⟨l, a, h⟩
  · exact .inl h
  · exact .inr ⟨l, a, by rw [h, List.concat_eq_append]⟩

def pkStep (acc : Option Int) (e : Ent) : Option Int := some (match acc with | none => e.last | some p => max e.last p)
def pk (es : List Ent) : Option Int := es.foldl pkStep none
theorem pk_snoc (es : List Ent) (e : Ent) : pk (es ++ [e]) = pkStep (pk es) e := by simp [pk]
def peaks (es : List Ent) : List Int := (List.range es.length).map fun i => (pk (es.take (i + 1))).getD 0
theorem peaks_length (es : List Ent) : (peaks es).length = es.length := by simp [peaks]
theorem peaks_get (es : List Ent) (i : Nat) (h : i < es.length) : (peaks es)[i]? = some ((pk (es.take (i + 1))).getD 0) := by simp [peaks, h]
theorem pk_some (es : List Ent) (h : es ≠ []) : ∃ p, pk es = some p := by
  rcases snoc_cases es with rfl | ⟨es, e, rfl⟩
  · exact absurd rfl h
  · exact ⟨_, pk_snoc es e⟩
theorem peaks_snoc (es : List Ent) (e : Ent) : peaks (es ++ [e]) = peaks es ++ [(pkStep (pk es) e).getD 0] := by
  apply List.ext_getElem?
  intro i
  rcases Nat.lt_or_ge i es.length with h | h
  · rw [peaks_get _ _ (by simp; omega), List.getElem?_append_left (by rw [peaks_length]; exact h), peaks_get _ _ h, List.take_append_of_le_length (by omega)]
  · rcases Nat.lt_or_ge i (es.length + 1) with h2 | h2
    · have : i = es.length := by omega
      subst this
      rw [peaks_get _ _ (by simp), List.getElem?_append_right (by rw [peaks_length]; omega), peaks_length, Nat.sub_self, List.take_of_length_le (by simp), pk_snoc]
      rfl
    · rw [List.getElem?_eq_none (by rw [peaks_length]; simp; omega), List.getElem?_eq_none (by simp [peaks_length]; omega)]
end Go.Proofs.YtciikcmiiebfpaaGreatDoor.Ix
end

/- IxClos -/
section
/- The walks of the keys, of the search's tests and of sort.Search. -/
namespace Go.Proofs.YtciikcmiiebfpaaGreatDoor.Ix
open Go Go.RowKit
set_option linter.unusedVariables false

/-- A cell of old memory behind a call. -/
theorem keep_cell {B : Nat} {w w1 : World} (hb : Below B w w1) {b o : Nat} (h : b < B) {v : Value} (hc : w.cell? ⟨b, o, none⟩ = some v) : w1.cell? ⟨b, o, none⟩ = some v := (hb.cell (p := ⟨b, o, none⟩) h).trans hc



end Go.Proofs.YtciikcmiiebfpaaGreatDoor.Ix
end

/- IxMeth -/
section
/- The walks of the index's methods that only ask. -/
namespace Go.Proofs.YtciikcmiiebfpaaGreatDoor.Ix
open Go Go.RowKit
set_option linter.unusedVariables false

def peakVals (es : List Ent) : List Value := (peaks es).map (Value.int .i64)

/-- An index in memory. -/
structure IX (w : World) (g : Nat) (base : Int) (es : List Ent) (ve vp : Value) : Prop where
  val : Valid base es
  blk : w.heap[g]? = some (.cells #[.int .i64 base, ve, .func (.func 127) #[] #[], vp, .func (.func 128) #[] #[]] 182 (0, 0))
  own : Owns w 0 109 8 ve es.length (entVals es)
  pek : Owns w 0 2 1 vp es.length (peakVals es)

/-- The blocks that an index lies in. -/
def Foot (g : Nat) (ve vp : Value) (k : Nat) : Prop := k = g ∨ ve.ownBlock = some k ∨ vp.ownBlock = some k

section
variable {w : World} {g : Nat} {base : Int} {es : List Ent} {ve vp : Value}
theorem IX.lt (h : IX w g base es ve vp) : g < w.heap.size := (Array.getElem?_eq_some_iff.1 h.blk).1
theorem IX.kept {w' : World} {S : Nat → Prop} (h : IX w g base es ve vp) (hk : Kept S w w') (hS : ∀ k, Foot g ve vp k → ¬ S k) : IX w' g base es ve vp :=
  ⟨h.val, (hk.block g h.lt (hS g (.inl rfl))).trans h.blk, h.own.kept hk fun k hk => hS k (.inr (.inl hk)), h.pek.kept hk fun k hk => hS k (.inr (.inr hk))⟩
theorem IX.below {w' : World} (h : IX w g base es ve vp) (hb : Below w.heap.size w w') : IX w' g base es ve vp :=
  h.kept (S := fun _ => False) (Kept.of_below hb) fun _ _ h => h
theorem IX.c (h : IX w g base es ve vp) : w.cell? ⟨g, 0, none⟩ = some (.int .i64 base) ∧ w.cell? ⟨g, 1, none⟩ = some ve ∧ w.cell? ⟨g, 2, none⟩ = some (.func (.func 127) #[] #[]) ∧ w.cell? ⟨g, 3, none⟩ = some vp ∧ w.cell? ⟨g, 4, none⟩ = some (.func (.func 128) #[] #[]) := by
  have k := fun j => cell_of_row w g j _ _ _ h.blk
  exact ⟨k 0, k 1, k 2, k 3, k 4⟩
theorem IX.free (h : IX w g base es ve vp) : ∀ i, w.frozen? ⟨g, i, none⟩ = false := by
  intro i
  simp [World.frozen?, h.blk]
end

theorem new_any (base : Int) (w : World) (lo : -9223372036854775808 ≤ base) (hi : base ≤ 9223372036854775807) :
    Calls Tryz.prog 71 #[.int .i64 base] w fun r w' => r = .returned (.pointer (some ⟨w.heap.size, 0, none⟩)) ∧ IX w' w.heap.size base [] (.slice none 0 0) (.slice none 0 0) ∧ Below w.heap.size w w' := by
  go_enter Tryz.func71, Tryz.ntmps71
  go_wp2
  go_ret
  exact ⟨rfl, ⟨Valid.nil lo hi, heap_alloc_new w _, Owns.nil _ _ _ _, Owns.nil _ _ _ _⟩, (Below.refl _ _).alloc (Nat.le_refl _) _⟩

def lastOf (es : List Ent) : Ent := es.getLast?.getD Ent.zero
theorem snoc_isEmpty (es : List Ent) (e : Ent) : (es ++ [e]).isEmpty = false := by simp
theorem lastOf_snoc (es : List Ent) (e : Ent) : lastOf (es ++ [e]) = e := by simp [lastOf]

section
variable (w : World) (g : Nat) (base : Int) (es : List Ent) (ve vp : Value) (hx : IX w g base es ve vp)
include hx



set_option maxHeartbeats 400000 in
theorem last_any (hm : es.length ≤ 140737488355328) : Calls Tryz.prog 78 #[.pointer (some ⟨g, 0, none⟩)] w fun r w' => r = .returned (.tuple #[(lastOf es).val, .bool (!es.isEmpty)]) ∧ Below w.heap.size w w' := by
  obtain ⟨c0, c1, c2, c3, c4⟩ := hx.c
  have hg := hx.lt
  have hb0 := (Below.refl w.heap.size w)
  rcases snoc_cases es with rfl | ⟨es, e, rfl⟩
  · obtain ⟨A, c, rfl⟩ := hx.own.slice
    simp only [List.length_nil] at c1
    clear hx
    go_enter Tryz.func78, Tryz.ntmps78
    go_wp2
    refine bodyPost_ret (v := .tuple #[Ent.zero.val, .bool false]) ?_ rfl ⟨rfl, hb0.alloc (Nat.le_refl _) _⟩
    rw [results_cell_tmp rfl]
    go_simp
    rfl
  · obtain ⟨b, c, rfl, _, hb, hc, _, hent⟩ := hx.own.ent (by simp)
    obtain ⟨d0, d1, d2, d3, d4, d5, d6, d7⟩ := hent es.length e (by simp)
    clear hent hx
    simp only [List.length_append, List.length_cons, List.length_nil, Nat.zero_add] at c1 hm hc
    have HL := Lib.hid (lastOf_snoc es e)
    generalize hn : es.length = n at *
    have hz : (((n + 1 : Nat) : Int) == 0) = false := by simp; omega
    have hw1 : IntKind.i64.wrap (((n + 1 : Nat) : Int) - 1) = (n : Int) := by rw [IntWalk.i64_in _ (by omega)]; omega
    have hw2 : (0 : Int) ≤ (n : Int) := by omega
    have hw4 : (n : Int) < ((n + 1 : Nat) : Int) := by omega
    clear hn
    go_enter Tryz.func78, Tryz.ntmps78
    go_wp2
    go_region
    go_wp2
    refine bodyPost_ret (v := .tuple #[e.val, .bool true]) ?_ rfl ⟨?_, (hb0.alloc (Nat.le_refl _) _).drew⟩
    · rw [results_cell_tmp rfl]
      go_simp
      rfl
    · rw [HL.out]; simp

set_option maxHeartbeats 400000 in
theorem next_any (hm : es.length ≤ 140737488355328) : Calls Tryz.prog 65 #[.pointer (some ⟨g, 0, none⟩)] w fun r w' => r = .returned (.int .i64 (nextOf base es)) ∧ Below w.heap.size w w' := by
  obtain ⟨c0, c1, c2, c3, c4⟩ := hx.c
  have hg := hx.lt
  have hL := Lib.hid (last_any w g base es ve vp hx hm)
  rcases snoc_cases es with rfl | ⟨es, e, rfl⟩
  · have HN := Lib.hid (show nextOf base [] = base by simp [nextOf, cntSum])
    clear hx
    go_enter Tryz.func65, Tryz.ntmps65
    go_wp2_with fail
    refine hL.out.mono ?_
    rintro r w1 ⟨rfl, hb⟩
    have k0 := keep_cell hb hg c0
    have hg1 : g < w1.heap.size := Nat.lt_of_lt_of_le hg hb.size
    have HB := Lib.hid hb
    clear hb
    simp only [lastOf, Ent.val, Ent.zero, List.getLast?_nil, Option.getD_none, List.isEmpty_nil, Bool.not_true]
    go_wp2
    go_ret
    exact ⟨by rw [HN.out]; rfl, HB.out.alloc HB.out.size _⟩
  · obtain ⟨v1, v2, v3, v4, v5, v6, v7, v8, v9, v10⟩ := hx.val.last
    have HN := Lib.hid v1
    clear hx v1 v2
    go_enter Tryz.func65, Tryz.ntmps65
    go_wp2_with fail
    refine hL.out.mono ?_
    rintro r w1 ⟨rfl, hb⟩
    have HB := Lib.hid hb
    clear hb
    rw [lastOf_snoc]
    simp only [Ent.val, snoc_isEmpty, Bool.not_false]
    go_wp2
    go_ret
    exact ⟨by rw [HN.out]; rfl, HB.out.alloc HB.out.size _⟩

set_option maxHeartbeats 400000 in
theorem size_any (hm : es.length ≤ 140737488355328) : Calls Tryz.prog 33 #[.pointer (some ⟨g, 0, none⟩)] w fun r w' => r = .returned (.int .i64 (sizeOf es)) ∧ Below w.heap.size w w' := by
  have hL := Lib.hid (last_any w g base es ve vp hx hm)
  rcases snoc_cases es with rfl | ⟨es, e, rfl⟩
  · have HN := Lib.hid (show sizeOf [] = 0 by simp [sizeOf, sizSum])
    clear hx
    go_enter Tryz.func33, Tryz.ntmps33
    go_wp2_with fail
    refine hL.out.mono ?_
    rintro r w1 ⟨rfl, hb⟩
    have HB := Lib.hid hb
    clear hb
    simp only [lastOf, Ent.val, Ent.zero, List.getLast?_nil, Option.getD_none, List.isEmpty_nil, Bool.not_true]
    go_wp2
    go_ret
    exact ⟨by rw [HN.out]; rfl, HB.out.alloc HB.out.size _⟩
  · obtain ⟨v1, v2, v3, v4, v5, v6, v7, v8, v9, v10⟩ := hx.val.last
    have HN := Lib.hid v2
    simp only [List.length_append, List.length_cons, List.length_nil, Nat.zero_add] at hm
    clear hx v1 v2
    go_enter Tryz.func33, Tryz.ntmps33
    go_wp2_with fail
    refine hL.out.mono ?_
    rintro r w1 ⟨rfl, hb⟩
    have HB := Lib.hid hb
    clear hb
    rw [lastOf_snoc]
    simp only [Ent.val, snoc_isEmpty, Bool.not_false]
    go_wp2
    go_ret
    exact ⟨by rw [HN.out]; rfl, HB.out.alloc HB.out.size _⟩

end
end Go.Proofs.YtciikcmiiebfpaaGreatDoor.Ix
end

/- IxMeth2 -/
section
/- The walks of place, At, Since, All, Span: what an index answers. -/
namespace Go.Proofs.YtciikcmiiebfpaaGreatDoor.Ix
open Go Go.RowKit
set_option linter.unusedVariables false

section
variable (w : World) (g : Nat) (base : Int) (es : List Ent) (ve vp : Value) (hx : IX w g base es ve vp) (hm : es.length ≤ 140737488355328)
include hx hm



end
end Go.Proofs.YtciikcmiiebfpaaGreatDoor.Ix
end

/- IxMeth3 -/
section
/- The walks of All and Span. -/
namespace Go.Proofs.YtciikcmiiebfpaaGreatDoor.Ix
open Go Go.RowKit
set_option linter.unusedVariables false

theorem ent_info : (Tryz.prog.info? 109).map (fun i => (i.zero, i.size, i.bytes)) = some (some Ent.zero.val, 8, 56) := by kernel_rfl

section
variable (w : World) (g : Nat) (base : Int) (es : List Ent) (ve vp : Value) (hx : IX w g base es ve vp)
include hx


end
end Go.Proofs.YtciikcmiiebfpaaGreatDoor.Ix
end

/- IxMut -/
section
/- The walks of Back and Add: what an index becomes. -/
namespace Go.Proofs.YtciikcmiiebfpaaGreatDoor.Ix
open Go Go.RowKit
set_option linter.unusedVariables false

theorem heap_setCell_at {w : World} {g i : Nat} {cs : Array Value} {t : TypeId} {fr : Nat × Nat} (h : w.heap[g]? = some (.cells cs t fr)) (u : Value) : (w.setCell ⟨g, i, none⟩ u).heap[g]? = some (.cells (cs.setIfInBounds i u) t fr) := by
  simp [World.setCell, Array.getElem?_modify, h]

theorem Kept.setCell {S : Nat → Prop} {a w : World} (h : Kept S a w) {p : Addr} (hp : S p.block) (u : Value) : Kept S a (w.setCell p u) :=
  ⟨h.os, h.tape, h.output, by simpa [World.setCell] using h.size, fun k hk hn => (Below.heap_setCell w p u k (fun e => hn (by rw [e]; exact hp))).trans (h.block k hk hn)⟩
theorem Kept.drew {S : Nat → Prop} {a w : World} (h : Kept S a w) : Kept S a w.drew := ⟨h.os, h.tape, h.output, h.size, h.block⟩
theorem Kept.alloc {S : Nat → Prop} {a w : World} (h : Kept S a w) (o : Obj) : Kept S a (w.alloc o) :=
  ⟨h.os, h.tape, h.output, Nat.le_trans h.size (by simp), fun k hk hn => (Below.heap_alloc w o k (Nat.lt_of_lt_of_le hk h.size)).trans (h.block k hk hn)⟩

section
variable (w : World) (g : Nat) (base : Int) (es : List Ent) (ve vp : Value) (hx : IX w g base es ve vp)
include hx

/-- What a call that turns the index leaves. -/
def Turned (es' : List Ent) (w' : World) : Prop :=
  ∃ ve' vp', IX w' g base es' ve' vp' ∧ Kept (Foot g ve vp) w w' ∧ ∀ k, Foot g ve' vp' k → Foot g ve vp k ∨ w.heap.size ≤ k

end
end Go.Proofs.YtciikcmiiebfpaaGreatDoor.Ix
end
