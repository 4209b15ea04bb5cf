/- The walks of the index's methods that only ask. -/
import Derived.Test.YtomlhedichdkkaaPlain
import Derived.Test.YtomlhedichdkkaaClos
namespace Go.Proofs.Ytomlhedichdkkaa
open Go Go.RowKit
set_option linter.unusedVariables false

def peakVals (es : List Ent) : List Value := (peaks es).map (Value.int .i64)

/-- An index in memory. -/
structure IX (w : World) (g : Nat) (base : Int) (es : List Ent) (ve vp : Value) : Prop where
  val : Valid base es
  blk : w.heap[g]? = some (.cells #[.int .i64 base, ve, .func (.func 28) #[] #[], vp, .func (.func 29) #[] #[]] 63 (0, 0))
  own : Owns w 0 30 8 ve es.length (entVals es)
  pek : Owns w 0 2 1 vp es.length (peakVals es)

/-- The blocks that an index lies in. -/
def Foot (g : Nat) (ve vp : Value) (k : Nat) : Prop := k = g ∨ ve.ownBlock = some k ∨ vp.ownBlock = some k

section
variable {w : World} {g : Nat} {base : Int} {es : List Ent} {ve vp : Value}
theorem IX.lt (h : IX w g base es ve vp) : g < w.heap.size := (Array.getElem?_eq_some_iff.1 h.blk).1
theorem IX.foot_lt (h : IX w g base es ve vp) : ∀ k, Foot g ve vp k → k < w.heap.size := by
  rintro k (rfl | hk | hk)
  · exact h.lt
  · exact (h.own.lt k hk).2
  · exact (h.pek.lt k hk).2
theorem IX.kept {w' : World} {S : Nat → Prop} (h : IX w g base es ve vp) (hk : Kept S w w') (hS : ∀ k, Foot g ve vp k → ¬ S k) : IX w' g base es ve vp :=
  ⟨h.val, (hk.block g h.lt (hS g (.inl rfl))).trans h.blk, h.own.kept hk fun k hk => hS k (.inr (.inl hk)), h.pek.kept hk fun k hk => hS k (.inr (.inr hk))⟩
theorem IX.below {w' : World} (h : IX w g base es ve vp) (hb : Below w.heap.size w w') : IX w' g base es ve vp :=
  h.kept (S := fun _ => False) (Kept.of_below hb) fun _ _ h => h
theorem IX.c (h : IX w g base es ve vp) : w.cell? ⟨g, 0, none⟩ = some (.int .i64 base) ∧ w.cell? ⟨g, 1, none⟩ = some ve ∧ w.cell? ⟨g, 2, none⟩ = some (.func (.func 28) #[] #[]) ∧ w.cell? ⟨g, 3, none⟩ = some vp ∧ w.cell? ⟨g, 4, none⟩ = some (.func (.func 29) #[] #[]) := by
  have k := fun j => cell_of_row w g j _ _ _ h.blk
  exact ⟨k 0, k 1, k 2, k 3, k 4⟩
theorem IX.free (h : IX w g base es ve vp) : ∀ i, w.frozen? ⟨g, i, none⟩ = false := by
  intro i
  simp [World.frozen?, h.blk]
end

theorem new_any (base : Int) (w : World) (lo : -9223372036854775808 ≤ base) (hi : base ≤ 9223372036854775807) :
    Calls Try.prog 20 #[.int .i64 base] w fun r w' => r = .returned (.pointer (some ⟨w.heap.size, 0, none⟩)) ∧ IX w' w.heap.size base [] (.slice none 0 0) (.slice none 0 0) ∧ Below w.heap.size w w' := by
  go_enter Try.func20, Try.ntmps20
  go_wp2
  go_ret
  exact ⟨rfl, ⟨Valid.nil lo hi, heap_alloc_new w _, Owns.nil _ _ _ _, Owns.nil _ _ _ _⟩, (Below.refl _ _).alloc (Nat.le_refl _) _⟩

def lastOf (es : List Ent) : Ent := es.getLast?.getD Ent.zero
theorem snoc_isEmpty (es : List Ent) (e : Ent) : (es ++ [e]).isEmpty = false := by simp
theorem lastOf_snoc (es : List Ent) (e : Ent) : lastOf (es ++ [e]) = e := by simp [lastOf]

section
variable (w : World) (g : Nat) (base : Int) (es : List Ent) (ve vp : Value) (hx : IX w g base es ve vp)
include hx

theorem base_any : Calls Try.prog 13 #[.pointer (some ⟨g, 0, none⟩)] w fun r w' => r = .returned (.int .i64 base) ∧ w = w' := by
  obtain ⟨c0, c1, c2, c3, c4⟩ := hx.c
  clear hx
  go_enter Try.func13, Try.ntmps13
  go_wp2
  go_ret
  exact ⟨rfl, rfl⟩

theorem len_any : Calls Try.prog 9 #[.pointer (some ⟨g, 0, none⟩)] w fun r w' => r = .returned (.int .i64 (es.length : Int)) ∧ w = w' := by
  obtain ⟨c0, c1, c2, c3, c4⟩ := hx.c
  obtain ⟨A, c, rfl⟩ := hx.own.slice
  clear hx
  go_enter Try.func9, Try.ntmps9
  go_wp2
  go_ret
  exact ⟨rfl, rfl⟩

set_option maxHeartbeats 400000 in
theorem last_any (hm : es.length ≤ 140737488355328) : Calls Try.prog 26 #[.pointer (some ⟨g, 0, none⟩)] w fun r w' => r = .returned (.tuple #[(lastOf es).val, .bool (!es.isEmpty)]) ∧ Below w.heap.size w w' := by
  obtain ⟨c0, c1, c2, c3, c4⟩ := hx.c
  have hg := hx.lt
  have hb0 := (Below.refl w.heap.size w)
  rcases snoc_cases es with rfl | ⟨es, e, rfl⟩
  · obtain ⟨A, c, rfl⟩ := hx.own.slice
    simp only [List.length_nil] at c1
    clear hx
    go_enter Try.func26, Try.ntmps26
    go_wp2
    refine bodyPost_ret (v := .tuple #[Ent.zero.val, .bool false]) ?_ rfl ⟨rfl, hb0.alloc (Nat.le_refl _) _⟩
    rw [results_cell_tmp rfl]
    go_simp
    rfl
  · obtain ⟨b, c, rfl, _, hb, hc, _, hent⟩ := hx.own.ent (by simp)
    obtain ⟨d0, d1, d2, d3, d4, d5, d6, d7⟩ := hent es.length e (by simp)
    clear hent hx
    simp only [List.length_append, List.length_cons, List.length_nil, Nat.zero_add] at c1 hm hc
    have HL := Lib.hid (lastOf_snoc es e)
    generalize hn : es.length = n at *
    have hz : (((n + 1 : Nat) : Int) == 0) = false := by simp; omega
    have hw1 : IntKind.i64.wrap (((n + 1 : Nat) : Int) - 1) = (n : Int) := by rw [IntWalk.i64_in _ (by omega)]; omega
    have hw2 : (0 : Int) ≤ (n : Int) := by omega
    have hw4 : (n : Int) < ((n + 1 : Nat) : Int) := by omega
    clear hn
    go_enter Try.func26, Try.ntmps26
    go_wp2
    go_region
    go_wp2
    refine bodyPost_ret (v := .tuple #[e.val, .bool true]) ?_ rfl ⟨?_, (hb0.alloc (Nat.le_refl _) _).drew⟩
    · rw [results_cell_tmp rfl]
      go_simp
      rfl
    · rw [HL.out]; simp

set_option maxHeartbeats 400000 in
theorem next_any (hm : es.length ≤ 140737488355328) : Calls Try.prog 14 #[.pointer (some ⟨g, 0, none⟩)] w fun r w' => r = .returned (.int .i64 (nextOf base es)) ∧ Below w.heap.size w w' := by
  obtain ⟨c0, c1, c2, c3, c4⟩ := hx.c
  have hg := hx.lt
  have hL := Lib.hid (last_any w g base es ve vp hx hm)
  rcases snoc_cases es with rfl | ⟨es, e, rfl⟩
  · have HN := Lib.hid (show nextOf base [] = base by simp [nextOf, cntSum])
    clear hx
    go_enter Try.func14, Try.ntmps14
    go_wp2_with fail
    refine hL.out.mono ?_
    rintro r w1 ⟨rfl, hb⟩
    have k0 := keep_cell hb hg c0
    have hg1 : g < w1.heap.size := Nat.lt_of_lt_of_le hg hb.size
    have HB := Lib.hid hb
    clear hb
    simp only [lastOf, Ent.val, Ent.zero, List.getLast?_nil, Option.getD_none, List.isEmpty_nil, Bool.not_true]
    go_wp2
    go_ret
    exact ⟨by rw [HN.out]; rfl, HB.out.alloc HB.out.size _⟩
  · obtain ⟨v1, v2, v3, v4, v5, v6, v7, v8, v9, v10⟩ := hx.val.last
    have HN := Lib.hid v1
    clear hx v1 v2
    go_enter Try.func14, Try.ntmps14
    go_wp2_with fail
    refine hL.out.mono ?_
    rintro r w1 ⟨rfl, hb⟩
    have HB := Lib.hid hb
    clear hb
    rw [lastOf_snoc]
    simp only [Ent.val, snoc_isEmpty, Bool.not_false]
    go_wp2
    go_ret
    exact ⟨by rw [HN.out]; rfl, HB.out.alloc HB.out.size _⟩

set_option maxHeartbeats 400000 in
theorem size_any (hm : es.length ≤ 140737488355328) : Calls Try.prog 15 #[.pointer (some ⟨g, 0, none⟩)] w fun r w' => r = .returned (.int .i64 (sizeOf es)) ∧ Below w.heap.size w w' := by
  have hL := Lib.hid (last_any w g base es ve vp hx hm)
  rcases snoc_cases es with rfl | ⟨es, e, rfl⟩
  · have HN := Lib.hid (show sizeOf [] = 0 by simp [sizeOf, sizSum])
    clear hx
    go_enter Try.func15, Try.ntmps15
    go_wp2_with fail
    refine hL.out.mono ?_
    rintro r w1 ⟨rfl, hb⟩
    have HB := Lib.hid hb
    clear hb
    simp only [lastOf, Ent.val, Ent.zero, List.getLast?_nil, Option.getD_none, List.isEmpty_nil, Bool.not_true]
    go_wp2
    go_ret
    exact ⟨by rw [HN.out]; rfl, HB.out.alloc HB.out.size _⟩
  · obtain ⟨v1, v2, v3, v4, v5, v6, v7, v8, v9, v10⟩ := hx.val.last
    have HN := Lib.hid v2
    simp only [List.length_append, List.length_cons, List.length_nil, Nat.zero_add] at hm
    clear hx v1 v2
    go_enter Try.func15, Try.ntmps15
    go_wp2_with fail
    refine hL.out.mono ?_
    rintro r w1 ⟨rfl, hb⟩
    have HB := Lib.hid hb
    clear hb
    rw [lastOf_snoc]
    simp only [Ent.val, snoc_isEmpty, Bool.not_false]
    go_wp2
    go_ret
    exact ⟨by rw [HN.out]; rfl, HB.out.alloc HB.out.size _⟩

/-- The first entry whose last offset is k or above. -/
def fromE (es : List Ent) (k : Int) : Nat := es.findIdx fun e => decide (k ≤ e.base + e.count - 1)
/-- The first entry up to which a time t or later is. -/
def fromP (es : List Ent) (t : Int) : Nat := (peaks es).findIdx fun p => decide (t ≤ p)

theorem ix_test (hm : es.length ≤ 140737488355328) (p q : Nat) (k : Int) (hp : w.cell? ⟨p, 0, none⟩ = some (.pointer (some ⟨g, 1, none⟩))) (hq : w.cell? ⟨q, 0, none⟩ = some (.int .i64 k)) (hpl : p < w.heap.size) (hql : q < w.heap.size) :
    ∀ (i : Nat) (W : World), i < es.length → Below w.heap.size w W → Calls Try.prog 39 #[.int .i64 (i : Int), .pointer (some ⟨p, 0, none⟩), .pointer (some ⟨q, 0, none⟩)] W
      fun r w' => r = .returned (.bool (decide (k ≤ (es.getD i Ent.zero).base + (es.getD i Ent.zero).count - 1))) ∧ Below W.heap.size W w' := by
  intro i W hi hb
  have hx' := hx.below hb
  obtain ⟨c0, c1, c2, c3, c4⟩ := hx'.c
  obtain ⟨b, c, rfl, _, hbl, hc, hcm, hent⟩ := hx'.own.ent (by omega)
  have he : es[i]? = some (es.getD i Ent.zero) := by simp [List.getD, hi]
  obtain ⟨v1, v2, v3, v4, v5, v6, v7⟩ := hx.val.ent i _ he
  have hs := hx.val.sums i (by omega)
  have hlo := hx.val.lo
  exact entTest g p q b es.length c i k _ W hx'.lt (Nat.lt_of_lt_of_le hpl hb.size) (Nat.lt_of_lt_of_le hql hb.size) hbl hi (by omega) c1 c2 (keep_cell hb hpl hp) (keep_cell hb hql hq) (hent i _ he) (by omega) (by omega) v3 v4

theorem ent_mono (k : Int) : ∀ a b, a ≤ b → b < es.length → decide (k ≤ (es.getD a Ent.zero).base + (es.getD a Ent.zero).count - 1) = true → decide (k ≤ (es.getD b Ent.zero).base + (es.getD b Ent.zero).count - 1) = true := by
  intro a b hab hb h
  have ha : es[a]? = some (es.getD a Ent.zero) := by simp [List.getD, show a < es.length by omega]
  have hb' : es[b]? = some (es.getD b Ent.zero) := by simp [List.getD, hb]
  obtain ⟨a1, _, a3, _, _, _, _⟩ := hx.val.ent a _ ha
  obtain ⟨b1, _, b3, _, _, _, _⟩ := hx.val.ent b _ hb'
  have m1 := (hx.val.mono (show a + 1 ≤ b + 1 by omega) (by omega)).1
  rw [take_snoc' ha, take_snoc' hb', cntSum_append, cntSum_append, cntSum_one, cntSum_one] at m1
  simp only [decide_eq_true_eq] at h ⊢
  omega

set_option maxHeartbeats 400000 in
theorem fromE_any (k : Int) (hm : es.length ≤ 140737488355328) : Calls Try.prog 35 #[.pointer (some ⟨g, 1, none⟩), .int .i64 k] w fun r w' => r = .returned (.int .i64 (fromE es k : Int)) ∧ Below w.heap.size w w' := by
  obtain ⟨c0, c1, c2, c3, c4⟩ := hx.c
  have hg := hx.lt
  have hmono := Lib.hid (ent_mono w g base es ve vp hx k)
  have hB1 := Lib.hid (((Below.refl w.heap.size w).alloc (Nat.le_refl _) (.cells #[.pointer (some ⟨g, 1, none⟩)] 76)).alloc (by simp) (.cells #[.int .i64 k] 2))
  have ht := Lib.hid (ix_test _ g base es ve vp (hx.below hB1.out) hm w.heap.size (w.heap.size + 1) k (by go_simp) (by go_simp) (by simp; omega) (by simp))
  obtain ⟨A, c, rfl⟩ := hx.own.slice
  have hlen := Lib.hid (fun m h1 h2 h3 => found_idx es (fun i => decide (k ≤ (es.getD i Ent.zero).base + (es.getD i Ent.zero).count - 1)) (fun e => decide (k ≤ e.base + e.count - 1)) (fun i a h => by simp [List.getD, h]) m h1 h2 h3)
  clear hx
  go_enter Try.func35, Try.ntmps35
  go_wp2_with fail
  refine (search_ent _ _ es.length (fun i => decide (k ≤ (es.getD i Ent.zero).base + (es.getD i Ent.zero).count - 1)) _ (by omega) ht.out hmono.out).mono ?_
  rintro r w1 ⟨m, h1, rfl, h2, h3, h4⟩
  have HF := Lib.hid (hlen.out m h1 h2 h3)
  have H4 := Lib.hid (hB1.out.trans (h4.mono hB1.out.size))
  clear h2 h3 h4
  go_wp2_with fail
  go_ret
  refine ⟨?_, H4.out⟩
  unfold fromE
  rw [← HF.out]
  rfl

theorem ix_ptest (hm : es.length ≤ 140737488355328) (p q : Nat) (k : Int) (hp : w.cell? ⟨p, 0, none⟩ = some (.pointer (some ⟨g, 3, none⟩))) (hq : w.cell? ⟨q, 0, none⟩ = some (.int .i64 k)) (hpl : p < w.heap.size) (hql : q < w.heap.size) :
    ∀ (i : Nat) (W : World), i < es.length → Below w.heap.size w W → Calls Try.prog 37 #[.int .i64 (i : Int), .pointer (some ⟨p, 0, none⟩), .pointer (some ⟨q, 0, none⟩)] W
      fun r w' => r = .returned (.bool (decide (k ≤ (peaks es).getD i 0))) ∧ Below W.heap.size W w' := by
  intro i W hi hb
  have hx' := hx.below hb
  obtain ⟨c0, c1, c2, c3, c4⟩ := hx'.c
  obtain ⟨b, c, rfl, _, hbl, hc, hcm, hcell⟩ := hx'.pek.form (by omega)
  have he : (peakVals es)[i]? = some (.int .i64 ((peaks es).getD i 0)) := by
    unfold peakVals
    rw [List.getElem?_map]
    simp [List.getD, peaks_length, hi]
  exact peakTest g p q b es.length c i k _ W hx'.lt (Nat.lt_of_lt_of_le hpl hb.size) (Nat.lt_of_lt_of_le hql hb.size) hbl hi (by omega) c3 c4 (keep_cell hb hpl hp) (keep_cell hb hql hq) (hcell i _ he)

set_option maxHeartbeats 400000 in
theorem fromP_any (k : Int) (hm : es.length ≤ 140737488355328) : Calls Try.prog 27 #[.pointer (some ⟨g, 3, none⟩), .int .i64 k] w fun r w' => r = .returned (.int .i64 (fromP es k : Int)) ∧ Below w.heap.size w w' := by
  obtain ⟨c0, c1, c2, c3, c4⟩ := hx.c
  have hg := hx.lt
  have hmono := Lib.hid (peak_mono es k)
  have hB1 := Lib.hid (((Below.refl w.heap.size w).alloc (Nat.le_refl _) (.cells #[.pointer (some ⟨g, 3, none⟩)] 72)).alloc (by simp) (.cells #[.int .i64 k] 2))
  have ht := Lib.hid (ix_ptest _ g base es ve vp (hx.below hB1.out) hm w.heap.size (w.heap.size + 1) k (by go_simp) (by go_simp) (by simp; omega) (by simp))
  obtain ⟨A, c, rfl⟩ := hx.pek.slice
  have hlen := Lib.hid (fun m h1 h2 h3 => found_idx (peaks es) (fun i => decide (k ≤ (peaks es).getD i 0)) (fun p => decide (k ≤ p)) (fun i a h => by simp [List.getD, h]) m h1 h2 h3)
  clear hx
  go_enter Try.func27, Try.ntmps27
  go_wp2_with fail
  refine (search_peak _ _ es.length (fun i => decide (k ≤ (peaks es).getD i 0)) _ (by omega) ht.out hmono.out).mono ?_
  rintro r w1 ⟨m, h1, rfl, h2, h3, h4⟩
  have HF := Lib.hid (hlen.out m (by rw [peaks_length]; exact h1) h2 (by rw [peaks_length]; exact h3))
  have H4 := Lib.hid (hB1.out.trans (h4.mono hB1.out.size))
  clear h2 h3 h4
  go_wp2_with fail
  go_ret
  refine ⟨?_, H4.out⟩
  unfold fromP
  rw [← HF.out]
  rfl
end
end Go.Proofs.Ytomlhedichdkkaa
