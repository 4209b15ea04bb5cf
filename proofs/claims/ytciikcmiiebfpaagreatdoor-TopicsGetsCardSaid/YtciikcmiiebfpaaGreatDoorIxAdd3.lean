/- IxAdd, IxAdd2, IxAdd3 as one text (a claim holds at most 60 files). -/
import Derived.Test.YtciikcmiiebfpaaGreatDoorIxMut
import Derived.Deep.RegionLaw

/- IxAdd -/
section
/- The walk of Add: what it answers, and what the index becomes. -/
namespace Go.Proofs.YtciikcmiiebfpaaGreatDoor.Ix
open Go Go.RowKit
set_option linter.unusedVariables false

def badE (e : Ent) : Prop := e.count < 1 ∨ 256 < e.count ∨ e.size < 1 ∨ 36000 < e.size
instance (e : Ent) : Decidable (badE e) := by unfold badE; infer_instance

/-- The error's number of Add. -/
def addE (base : Int) (es : List Ent) (e : Ent) : Nat :=
  if badE e then 3 else if e.base ≠ nextOf base es ∨ e.at_ ≠ sizeOf es then 190 else if 4611686018427387904 - e.count < e.base then 222 else 0
def addTo (base : Int) (es : List Ent) (e : Ent) : List Ent := if addE base es e = 0 then es ++ [e] else es

theorem same_turned {w w' : World} {g : Nat} {base : Int} {es : List Ent} {ve vp : Value} (hx : IX w g base es ve vp) (hb : Below w.heap.size w w') : Turned w g base ve vp es w' := ⟨ve, vp, hx.below hb, Kept.of_below hb, fun k h => .inl h⟩

set_option maxHeartbeats 1000000 in
theorem add_bad (w : World) (g : Nat) (e : Ent) (h : badE e) : Calls Tryz.prog 34 #[.pointer (some ⟨g, 0, none⟩), e.val] w fun r w' => r = .returned (.int .i64 3) ∧ Below w.heap.size w w' := by
  have HB := Lib.hid (fun o => (Below.refl w.heap.size w).alloc (Nat.le_refl _) o)
  unfold Ent.val
  by_cases c1 : e.count < 1
  · go_enter Tryz.func34, Tryz.ntmps34
    go_wp2_with fail
    go_ret
    exact ⟨rfl, HB.out _⟩
  by_cases c2 : 256 < e.count
  · clear h
    go_enter Tryz.func34, Tryz.ntmps34
    go_wp2_with fail
    go_ret
    exact ⟨rfl, HB.out _⟩
  by_cases c3 : e.size < 1
  · clear h
    go_enter Tryz.func34, Tryz.ntmps34
    go_wp2_with fail
    go_ret
    exact ⟨rfl, HB.out _⟩
  · have c4 : 36000 < e.size := by unfold badE at h; omega
    clear h
    go_enter Tryz.func34, Tryz.ntmps34
    go_wp2_with fail
    go_ret
    exact ⟨rfl, HB.out _⟩

section
variable (w : World) (g : Nat) (base : Int) (es : List Ent) (ve vp : Value) (hx : IX w g base es ve vp) (hm : es.length ≤ 140737488355328)
include hx hm

set_option maxHeartbeats 1000000 in
theorem add_gap1 (e : Ent) (h : ¬ badE e) (hn : e.base ≠ nextOf base es) : Calls Tryz.prog 34 #[.pointer (some ⟨g, 0, none⟩), e.val] w fun r w' => r = .returned (.int .i64 190) ∧ Below w.heap.size w w' := by
  have HB := Lib.hid (fun o => (Below.refl w.heap.size w).alloc (Nat.le_refl _) o)
  have HX := Lib.hid hx
  unfold Ent.val
  unfold badE at h
  have c1 : ¬ e.count < 1 := by omega
  have c2 : ¬ 256 < e.count := by omega
  have c3 : ¬ e.size < 1 := by omega
  have c4 : ¬ 36000 < e.size := by omega
  have hne : (e.base != nextOf base es) = true := by rw [bne_iff_ne]; exact hn
  clear h hx hn
  go_enter Tryz.func34, Tryz.ntmps34
  go_wp2_with fail
  first | go_region_with (go_at_call 65; refine (next_any _ g base es ve vp (HX.out.below (HB.out _).drew) hm).mono ?_; rintro r w1 ⟨rfl, hb⟩; have hb1 : Below w.heap.size w w1 := (HB.out _).drew.trans (hb.mono (by simp)); have k0 : w1.cell? ⟨w.heap.size, 0, none⟩ = some (.int .i64 e.base) := keep_cell hb (by simp) (by simp)) | fail
  all_goals go_wp2_with fail
  all_goals go_ret
  all_goals exact ⟨rfl, hb1⟩

set_option maxHeartbeats 1000000 in
theorem add_gap2 (e : Ent) (h : ¬ badE e) (hn : e.base = nextOf base es) (hn2 : e.at_ ≠ sizeOf es) : Calls Tryz.prog 34 #[.pointer (some ⟨g, 0, none⟩), e.val] w fun r w' => r = .returned (.int .i64 190) ∧ Below w.heap.size w w' := by
  have HB := Lib.hid (fun o => (Below.refl w.heap.size w).alloc (Nat.le_refl _) o)
  have HX := Lib.hid hx
  unfold Ent.val
  unfold badE at h
  have c1 : ¬ e.count < 1 := by omega
  have c2 : ¬ 256 < e.count := by omega
  have c3 : ¬ e.size < 1 := by omega
  have c4 : ¬ 36000 < e.size := by omega
  have hne : (e.base != nextOf base es) = false := by simp [hn]
  have hne2 : (e.at_ != sizeOf es) = true := by rw [bne_iff_ne]; exact hn2
  clear h hx hn hn2
  go_enter Tryz.func34, Tryz.ntmps34
  go_wp2_with fail
  have HB0 : Below w.heap.size w (w.alloc (.cells #[.int .i64 e.base, .int .i64 e.count, .int .i64 e.at_, .int .i64 e.size, .int .i64 e.last, .int .i64 e.pid, .int .i16 e.pep, .int .i32 e.seq] 109)).drew := (HB.out _).drew
  have hl0 : w.heap.size < (w.alloc (.cells #[.int .i64 e.base, .int .i64 e.count, .int .i64 e.at_, .int .i64 e.size, .int .i64 e.last, .int .i64 e.pid, .int .i16 e.pep, .int .i32 e.seq] 109)).drew.heap.size := by simp
  go_region_held3 (fun w' => w'.cell? ⟨w.heap.size, 0, none⟩ = some (.int .i64 e.base) ∧ w'.cell? ⟨w.heap.size, 2, none⟩ = some (.int .i64 e.at_) ∧ w.heap.size < w'.heap.size ∧ Below w.heap.size w w') (go_keep)
    (first
      | (go_at_call 65; refine (next_any _ g base es ve vp (HX.out.below (‹_ ∧ _ ∧ _ ∧ Below w.heap.size w _›).2.2.2) hm).mono ?_; rintro r w1 ⟨rfl, hb⟩; have hb1 : Below w.heap.size w w1 := (‹_ ∧ _ ∧ _ ∧ Below w.heap.size w _›).2.2.2.trans (hb.mono (‹_ ∧ _ ∧ _ ∧ Below w.heap.size w _›).2.2.2.size); have k0 := keep_cell hb (‹_ ∧ _ ∧ _ ∧ Below w.heap.size w _›).2.2.1 (‹_ ∧ _ ∧ _ ∧ Below w.heap.size w _›).1; have k2 := keep_cell hb (‹_ ∧ _ ∧ _ ∧ Below w.heap.size w _›).2.2.1 (‹_ ∧ _ ∧ _ ∧ Below w.heap.size w _›).2.1; have k3 := Nat.lt_of_lt_of_le (‹_ ∧ _ ∧ _ ∧ Below w.heap.size w _›).2.2.1 hb.size)
      | (go_at_call 33; refine (size_any _ g base es ve vp (HX.out.below (‹_ ∧ _ ∧ _ ∧ Below w.heap.size w _›).2.2.2) hm).mono ?_; rintro r w2 ⟨rfl, hc⟩; have hb2 : Below w.heap.size w w2 := (‹_ ∧ _ ∧ _ ∧ Below w.heap.size w _›).2.2.2.trans (hc.mono (‹_ ∧ _ ∧ _ ∧ Below w.heap.size w _›).2.2.2.size); have l0 := keep_cell hc (‹_ ∧ _ ∧ _ ∧ Below w.heap.size w _›).2.2.1 (‹_ ∧ _ ∧ _ ∧ Below w.heap.size w _›).1; have l2 := keep_cell hc (‹_ ∧ _ ∧ _ ∧ Below w.heap.size w _›).2.2.1 (‹_ ∧ _ ∧ _ ∧ Below w.heap.size w _›).2.1; have l3 := Nat.lt_of_lt_of_le (‹_ ∧ _ ∧ _ ∧ Below w.heap.size w _›).2.2.1 hc.size))
  all_goals go_wp2_with fail
  all_goals go_ret
  all_goals exact ⟨rfl, hb2⟩
end
end Go.Proofs.YtciikcmiiebfpaaGreatDoor.Ix
end

/- IxAdd2 -/
section
/- The walk of Add where the entry follows on. -/
namespace Go.Proofs.YtciikcmiiebfpaaGreatDoor.Ix
open Go Go.RowKit
set_option linter.unusedVariables false

theorem int_info : (Tryz.prog.info? 2).map (fun i => (i.zero, i.size, i.bytes)) = some (some (.int .i64 0), 1, 8) := by kernel_rfl

/-- An entry's box. -/
theorem box_at (w : World) (e : Ent) : EntAt (w.alloc (.cells #[.int .i64 e.base, .int .i64 e.count, .int .i64 e.at_, .int .i64 e.size, .int .i64 e.last, .int .i64 e.pid, .int .i16 e.pep, .int .i32 e.seq] 109)) w.heap.size 0 e := by
  have h := heap_alloc_new w (.cells #[.int .i64 e.base, .int .i64 e.count, .int .i64 e.at_, .int .i64 e.size, .int .i64 e.last, .int .i64 e.pid, .int .i16 e.pep, .int .i32 e.seq] 109)
  have k := fun j => cell_of_row _ w.heap.size j _ _ _ h
  exact ⟨k 0, k 1, k 2, k 3, k 4, k 5, k 6, k 7⟩

theorem EntAt.below {w w' : World} {b o B : Nat} {e : Ent} (h : EntAt w b o e) (hb : Below B w w') (hl : b < B) : EntAt w' b o e :=
  ⟨keep_cell hb hl h.c0, keep_cell hb hl h.c1, keep_cell hb hl h.c2, keep_cell hb hl h.c3, keep_cell hb hl h.c4, keep_cell hb hl h.c5, keep_cell hb hl h.c6, keep_cell hb hl h.c7⟩

theorem entVals_snoc (es : List Ent) (e : Ent) : entVals (es ++ [e]) = entVals es ++ e.vs := by simp [entVals]
theorem peakVals_snoc (es : List Ent) (e : Ent) : peakVals (es ++ [e]) = peakVals es ++ [.int .i64 ((pkStep (pk es) e).getD 0)] := by simp [peakVals, peaks_snoc]

/-- 'append(items, e)' in a region that draws. -/
theorem step_push_ent {ops : Array Oper} {o : Oper} {a : Act} {K : Act → World → Prop} {Q : Exit → Act → World → Prop} {E : Prop} (hgd : o.guard = none) (s x : Operand)
    (ho : o.op = .call { callee := .builtin .append, args := #[s, x], argTypes := #[104, 104] })
    (W : World) (v : Value) (es : List Ent) (n : Nat) (e : Ent) (hs : a.eval s = v) (hx : a.eval x = .slice (some ⟨W.heap.size, 0, none⟩) 1 1) (hlen : es.length = n) (hown : Owns W 0 109 8 v n (entVals es))
    (hroom : (n + 1) * 56 ≤ 140737488355328)
    (h : ∀ v' w', Owns w' 0 109 8 v' (n + 1) (entVals (es ++ [e])) → Kept (fun k => v.ownBlock = some k) W w' → (∀ k, v'.ownBlock = some k → v.ownBlock = some k ∨ W.heap.size ≤ k) → K (a.put o.dst v') w') :
    if Region.wanted o (yielded ops a.tmps) = true then Oper.wp Tryz.prog o a (W.alloc (.cells #[.int .i64 e.base, .int .i64 e.count, .int .i64 e.at_, .int .i64 e.size, .int .i64 e.last, .int .i64 e.pid, .int .i16 e.pep, .int .i32 e.seq] 109)).drew K Q else E := by
  subst hlen
  obtain ⟨i0, hi, hz0, hz1, hz2⟩ := info_parts ent_info
  have hk : Kept (fun k => v.ownBlock = some k) W (W.alloc (.cells #[.int .i64 e.base, .int .i64 e.count, .int .i64 e.at_, .int .i64 e.size, .int .i64 e.last, .int .i64 e.pid, .int .i16 e.pep, .int .i32 e.seq] 109)).drew := ((Kept.refl _ W).alloc _).drew
  have hk0 : Kept (fun _ => False) W (W.alloc (.cells #[.int .i64 e.base, .int .i64 e.count, .int .i64 e.at_, .int .i64 e.size, .int .i64 e.last, .int .i64 e.pid, .int .i16 e.pep, .int .i32 e.seq] 109)).drew := ((Kept.refl _ W).alloc _).drew
  have hb := box_at W e
  refine step_app _ hgd s x 104 ho 0 109 i0 _ 8 56 Tryz.underlying104 hi hz0 hz1 hz2 rfl (by decide) v es.length (entVals es) hs (hown.kept hk0 (fun _ _ h => h)) (some ⟨W.heap.size, 0, none⟩) 1 1 e.vs hx ⟨rfl, fun _ => ⟨_, rfl, by simp, fun j u hu => ?_⟩⟩ ?_ (by simp only [maxLen]; omega) (by omega) (by omega) ?_
  · rw [add_zero']
    have hj : j < 8 := by
      rcases Nat.lt_or_ge j 8 with h | h
      · exact h
      · rw [List.getElem?_eq_none (by simpa [Ent.vs] using h)] at hu; cases hu
    have hc : ∀ j, (W.alloc (.cells #[.int .i64 e.base, .int .i64 e.count, .int .i64 e.at_, .int .i64 e.size, .int .i64 e.last, .int .i64 e.pid, .int .i16 e.pep, .int .i32 e.seq] 109)).drew.cell? ⟨W.heap.size, j, none⟩ = e.vs[j]? := fun j => by
      have h := cell_of_row _ W.heap.size j _ _ _ (heap_alloc_new W (.cells #[.int .i64 e.base, .int .i64 e.count, .int .i64 e.at_, .int .i64 e.size, .int .i64 e.last, .int .i64 e.pid, .int .i16 e.pep, .int .i32 e.seq] 109))
      rw [World.cell?_drew, h, ← Array.getElem?_toList]
      rfl
    rw [hc, hu]
  · intro u hu
    simp [Ent.vs] at hu
    rcases hu with rfl | rfl | rfl | rfl | rfl | rfl | rfl | rfl <;> rfl
  · intro v' w' h1 h2 h3
    rw [← entVals_snoc] at h1
    exact h v' w' h1 (hk.trans ⟨h2.os, h2.tape, h2.output, h2.size, h2.block⟩) (fun k hk => (h3 k hk).imp id (fun h => by simp at h; omega))

/-- 'append(peaks, p)'. -/
theorem wpList_push_int {ops : Array Oper} {rest : List Oper} {o : Oper} {a : Act} {Q : Exit → Act → World → Prop} (hgd : o.guard = none) (s x : Operand)
    (ho : o.op = .call { callee := .builtin .append, args := #[s, x], argTypes := #[123, 123] })
    (W : World) (b : Nat) (hbb : b = W.heap.size) (v : Value) (xs : List Value) (n : Nat) (p : Int) (hs : a.eval s = v) (hx : a.eval x = .slice (some ⟨b, 0, none⟩) 1 1) (hown : Owns W 0 2 1 v n xs)
    (hroom : (n + 1) * 8 ≤ 140737488355328)
    (h : ∀ v' w', Owns w' 0 2 1 v' (n + 1) (xs ++ [.int .i64 p]) → Kept (fun k => v.ownBlock = some k) W w' → (∀ k, v'.ownBlock = some k → v.ownBlock = some k ∨ W.heap.size ≤ k) → wpList Tryz.prog ops Q rest (a.put o.dst v') w') :
    wpList Tryz.prog ops Q (o :: rest) a (W.alloc (.cells #[.int .i64 p] 2)) := by
  subst hbb
  obtain ⟨i0, hi, hz0, hz1, hz2⟩ := info_parts int_info
  have hk : Kept (fun k => v.ownBlock = some k) W (W.alloc (.cells #[.int .i64 p] 2)) := (Kept.refl _ W).alloc _
  have hk0 : Kept (fun _ => False) W (W.alloc (.cells #[.int .i64 p] 2)) := (Kept.refl _ W).alloc _
  refine wpList_app _ hgd s x 123 ho 0 2 i0 _ 1 8 Tryz.underlying123 hi hz0 hz1 hz2 rfl (by decide) v n xs hs (hown.kept hk0 (fun _ _ h => h)) (some ⟨W.heap.size, 0, none⟩) 1 1 [.int .i64 p] hx ⟨rfl, fun _ => ⟨_, rfl, by simp, cell_one_new _ _ _⟩⟩ ?_ (by simp only [maxLen]; omega) (by omega) (by omega) ?_
  · intro u hu
    simp at hu
    subst hu
    rfl
  · intro v' w' h1 h2 h3
    exact h v' w' h1 (hk.trans ⟨h2.os, h2.tape, h2.output, h2.size, h2.block⟩) (fun k hk => (h3 k hk).imp id (fun h => by simp at h; omega))

theorem diff_block {w : World} {B B' : Nat} {e e' : TypeId} {sz sz' n n' : Nat} {v v' : Value} {xs xs' : List Value} (h : Owns w B e sz v n xs) (h' : Owns w B' e' sz' v' n' xs') (hne : e ≠ e') : ∀ k, v.ownBlock = some k → ¬ v'.ownBlock = some k := by
  intro k hk hk'
  obtain ⟨c1, h1⟩ := h.block_type k hk
  obtain ⟨c2, h2⟩ := h'.block_type k hk'
  rw [h1] at h2
  injection h2 with h2
  injection h2 with _ h2
  exact hne h2
theorem not_g {w : World} {B g : Nat} {e t : TypeId} {sz n : Nat} {v : Value} {xs : List Value} {cs : Array Value} (h : Owns w B e sz v n xs) (hg : w.heap[g]? = some (.cells cs t (0, 0))) (hne : e ≠ t) : ¬ v.ownBlock = some g := by
  intro hk
  obtain ⟨c1, h1⟩ := h.block_type g hk
  rw [hg] at h1
  injection h1 with h1
  injection h1 with _ h1
  exact hne h1.symm

/-- What the two appends leave is the index with the entry more. -/
theorem add_turned {w w2 w3 w4 : World} {g : Nat} {base : Int} {es : List Ent} {e : Ent} {ve vp v3 v4 : Value} (hb : Below w.heap.size w w2) (hx : IX w g base es ve vp) (hx2 : IX w2 g base es ve vp) (hval : Valid base (es ++ [e]))
    (hown3 : Owns w3 0 109 8 v3 (es.length + 1) (entVals (es ++ [e]))) (hk3 : Kept (fun k => ve.ownBlock = some k) w2 w3) (hs3 : ∀ k, v3.ownBlock = some k → ve.ownBlock = some k ∨ w2.heap.size ≤ k)
    (hown4 : Owns w4 0 2 1 v4 (es.length + 1) (peakVals (es ++ [e]))) (hk4 : Kept (fun k => vp.ownBlock = some k) (w3.setCell ⟨g, 1, none⟩ v3) w4) (hs4 : ∀ k, v4.ownBlock = some k → vp.ownBlock = some k ∨ (w3.setCell ⟨g, 1, none⟩ v3).heap.size ≤ k) :
    Turned w g base ve vp (es ++ [e]) (w4.setCell ⟨g, 3, none⟩ v4) := by
  have hlen : (es ++ [e]).length = es.length + 1 := by simp
  have b3 : w3.heap[g]? = _ := (hk3.block g hx2.lt (not_g hx2.own hx2.blk (by decide))).trans hx2.blk
  have s3 : (w3.setCell ⟨g, 1, none⟩ v3).heap.size = w3.heap.size := by simp [World.setCell]
  have b3' := heap_setCell_at (i := 1) b3 v3
  have hg3 : g < (w3.setCell ⟨g, 1, none⟩ v3).heap.size := (Array.getElem?_eq_some_iff.1 b3').1
  have hgp := not_g hx2.pek hx2.blk (by decide)
  have b4 := (hk4.block g hg3 hgp).trans b3'
  have b5 := heap_setCell_at (i := 3) b4 v4
  have ks3 : Kept (fun k => k = g) w3 (w3.setCell ⟨g, 1, none⟩ v3) := Kept.setCell (S := fun k => k = g) (p := ⟨g, 1, none⟩) (Kept.refl _ w3) rfl _
  have ks4 : Kept (fun k => k = g) w4 (w4.setCell ⟨g, 3, none⟩ v4) := Kept.setCell (S := fun k => k = g) (p := ⟨g, 3, none⟩) (Kept.refl _ w4) rfl _
  have hown3' := hown3.kept ks3 (fun k hk => by rintro rfl; exact not_g hown3 b3 (by decide) hk)
  have hpek3 : Owns w3 0 2 1 vp es.length (peakVals es) := hx2.pek.kept hk3 (diff_block hx2.pek hx2.own (by decide))
  have hpek3' := hpek3.kept ks3 (fun k hk => by rintro rfl; exact not_g hpek3 b3 (by decide) hk)
  have hown4' := hown3'.kept hk4 (diff_block hown3' hpek3' (by decide))
  refine ⟨v3, v4, ⟨hval, b5, ?_, ?_⟩, ?_, ?_⟩
  · rw [hlen]
    exact hown4'.kept ks4 (fun k hk => by rintro rfl; exact not_g hown4' b4 (by decide) hk)
  · rw [hlen]
    exact hown4.kept ks4 (fun k hk => by rintro rfl; exact not_g hown4 b4 (by decide) hk)
  · have a1 : Kept (Foot g ve vp) w w2 := Kept.of_below hb
    have a2 : Kept (Foot g ve vp) w2 w3 := hk3.mono fun k _ h => .inr (.inl h)
    have a3 : Kept (Foot g ve vp) w3 (w3.setCell ⟨g, 1, none⟩ v3) := ks3.mono fun k _ h => .inl h
    have a4 : Kept (Foot g ve vp) (w3.setCell ⟨g, 1, none⟩ v3) w4 := hk4.mono fun k _ h => .inr (.inr h)
    have a5 : Kept (Foot g ve vp) w4 (w4.setCell ⟨g, 3, none⟩ v4) := ks4.mono fun k _ h => .inl h
    exact (((a1.trans a2).trans a3).trans a4).trans a5
  · rintro k (rfl | hk | hk)
    · exact .inl (.inl rfl)
    · rcases hs3 k hk with h | h
      · exact .inl (.inr (.inl h))
      · exact .inr (Nat.le_trans hb.size h)
    · rcases hs4 k hk with h | h
      · exact .inl (.inr (.inr h))
      · rw [s3] at h
        exact .inr (Nat.le_trans hb.size (Nat.le_trans hk3.size h))

section
variable (w : World) (g : Nat) (base : Int) (es : List Ent) (ve vp : Value) (hx : IX w g base es ve vp) (hm : es.length ≤ 140737488355328)
include hx hm

set_option maxHeartbeats 1000000 in
theorem add_end (e : Ent) (h : ¬ badE e) (hn : e.base = nextOf base es) (hn2 : e.at_ = sizeOf es) (hE : 4611686018427387904 - e.count < e.base) : Calls Tryz.prog 34 #[.pointer (some ⟨g, 0, none⟩), e.val] w fun r w' => r = .returned (.int .i64 222) ∧ Below w.heap.size w w' := by
  have HB := Lib.hid (fun o => (Below.refl w.heap.size w).alloc (Nat.le_refl _) o)
  have HX := Lib.hid hx
  have hbox := box_at w e
  unfold Ent.val
  unfold badE at h
  have c1 : ¬ e.count < 1 := by omega
  have c2 : ¬ 256 < e.count := by omega
  have c3 : ¬ e.size < 1 := by omega
  have c4 : ¬ 36000 < e.size := by omega
  have hne : (e.base != nextOf base es) = false := by simp [hn]
  have hne2 : (e.at_ != sizeOf es) = false := by simp [hn2]
  clear h hx hn hn2
  go_enter Tryz.func34, Tryz.ntmps34
  go_wp2_with fail
  have HB0 := HB.out (.cells #[.int .i64 e.base, .int .i64 e.count, .int .i64 e.at_, .int .i64 e.size, .int .i64 e.last, .int .i64 e.pid, .int .i16 e.pep, .int .i32 e.seq] 109)
  have hl0 : w.heap.size < (w.alloc (.cells #[.int .i64 e.base, .int .i64 e.count, .int .i64 e.at_, .int .i64 e.size, .int .i64 e.last, .int .i64 e.pid, .int .i16 e.pep, .int .i32 e.seq] 109)).heap.size := by simp
  generalize w.alloc (.cells #[.int .i64 e.base, .int .i64 e.count, .int .i64 e.at_, .int .i64 e.size, .int .i64 e.last, .int .i64 e.pid, .int .i16 e.pep, .int .i32 e.seq] 109) = W0 at *
  have HX0 := Lib.hid (HX.out.below HB0)
  have HBOX := Lib.hid hbox
  have k0 := hbox.c0
  have k1 := hbox.c1
  have k2 := hbox.c2
  have HBB := Lib.hid (fun (W : World) (h : Below W0.heap.size W0 W) => HB0.trans (h.mono HB0.size))
  clear HB0 hbox HB
  have hw0 : Below W0.heap.size W0 W0.drew := (Below.refl _ _).drew
  go_region_held3 (fun w' => w'.cell? ⟨w.heap.size, 0, none⟩ = some (.int .i64 e.base) ∧ w'.cell? ⟨w.heap.size, 2, none⟩ = some (.int .i64 e.at_) ∧ Below W0.heap.size W0 w') (go_keep)
    (first
      | (go_at_call 65; refine (next_any _ g base es ve vp (HX0.out.below (‹_ ∧ _ ∧ Below W0.heap.size W0 _›).2.2) hm).mono ?_; rintro r w1 ⟨rfl, hb⟩; have hb1 : Below W0.heap.size W0 w1 := (‹_ ∧ _ ∧ Below W0.heap.size W0 _›).2.2.trans (hb.mono (‹_ ∧ _ ∧ Below W0.heap.size W0 _›).2.2.size); have m0 := keep_cell hb1 hl0 k0; have m2 := keep_cell hb1 hl0 k2)
      | (go_at_call 33; refine (size_any _ g base es ve vp (HX0.out.below (‹_ ∧ _ ∧ Below W0.heap.size W0 _›).2.2) hm).mono ?_; rintro r w2 ⟨rfl, hc⟩; have hb2 : Below W0.heap.size W0 w2 := (‹_ ∧ _ ∧ Below W0.heap.size W0 _›).2.2.trans (hc.mono (‹_ ∧ _ ∧ Below W0.heap.size W0 _›).2.2.size); have l0 := keep_cell hb2 hl0 k0; have l2 := keep_cell hb2 hl0 k2))
  all_goals
    have l1 := keep_cell hb2 hl0 k1
    go_wp2_with fail
    go_ret
    exact ⟨rfl, HBB.out _ hb2⟩

set_option maxHeartbeats 2000000 in
theorem add_ok (e : Ent) (h : ¬ badE e) (hn : e.base = nextOf base es) (hn2 : e.at_ = sizeOf es) (hE : ¬ 4611686018427387904 - e.count < e.base) (hroom : (es.length + 1) * 56 ≤ 140737488355328) : Calls Tryz.prog 34 #[.pointer (some ⟨g, 0, none⟩), e.val] w fun r w' => r = .returned (.int .i64 0) ∧ Turned w g base ve vp (es ++ [e]) w' := by
  have HB := Lib.hid (fun o => (Below.refl w.heap.size w).alloc (Nat.le_refl _) o)
  have HX := Lib.hid hx
  have hbox := box_at w e
  unfold Ent.val
  unfold badE at h
  have c1 : ¬ e.count < 1 := by omega
  have c2 : ¬ 256 < e.count := by omega
  have c3 : ¬ e.size < 1 := by omega
  have c4 : ¬ 36000 < e.size := by omega
  have hne : (e.base != nextOf base es) = false := by simp [hn]
  have hne2 : (e.at_ != sizeOf es) = false := by simp [hn2]
  clear h hx hn hn2
  go_enter Tryz.func34, Tryz.ntmps34
  go_wp2_with fail
  have HB0 := HB.out (.cells #[.int .i64 e.base, .int .i64 e.count, .int .i64 e.at_, .int .i64 e.size, .int .i64 e.last, .int .i64 e.pid, .int .i16 e.pep, .int .i32 e.seq] 109)
  have hl0 : w.heap.size < (w.alloc (.cells #[.int .i64 e.base, .int .i64 e.count, .int .i64 e.at_, .int .i64 e.size, .int .i64 e.last, .int .i64 e.pid, .int .i16 e.pep, .int .i32 e.seq] 109)).heap.size := by simp
  generalize w.alloc (.cells #[.int .i64 e.base, .int .i64 e.count, .int .i64 e.at_, .int .i64 e.size, .int .i64 e.last, .int .i64 e.pid, .int .i16 e.pep, .int .i32 e.seq] 109) = W0 at *
  have HX0 := Lib.hid (HX.out.below HB0)
  have HBOX := Lib.hid hbox
  have k0 := hbox.c0
  have k1 := hbox.c1
  have k2 := hbox.c2
  have HBB := Lib.hid (fun (W : World) (h : Below W0.heap.size W0 W) => HB0.trans (h.mono HB0.size))
  clear HB0 hbox HB
  have hw0 : Below W0.heap.size W0 W0.drew := (Below.refl _ _).drew
  go_region_held3 (fun w' => w'.cell? ⟨w.heap.size, 0, none⟩ = some (.int .i64 e.base) ∧ w'.cell? ⟨w.heap.size, 2, none⟩ = some (.int .i64 e.at_) ∧ Below W0.heap.size W0 w') (go_keep)
    (first
      | (go_at_call 65; refine (next_any _ g base es ve vp (HX0.out.below (‹_ ∧ _ ∧ Below W0.heap.size W0 _›).2.2) hm).mono ?_; rintro r w1 ⟨rfl, hb⟩; have hb1 : Below W0.heap.size W0 w1 := (‹_ ∧ _ ∧ Below W0.heap.size W0 _›).2.2.trans (hb.mono (‹_ ∧ _ ∧ Below W0.heap.size W0 _›).2.2.size); have m0 := keep_cell hb1 hl0 k0; have m2 := keep_cell hb1 hl0 k2)
      | (go_at_call 33; refine (size_any _ g base es ve vp (HX0.out.below (‹_ ∧ _ ∧ Below W0.heap.size W0 _›).2.2) hm).mono ?_; rintro r w2 ⟨rfl, hc⟩; have hb2 : Below W0.heap.size W0 w2 := (‹_ ∧ _ ∧ Below W0.heap.size W0 _›).2.2.trans (hc.mono (‹_ ∧ _ ∧ Below W0.heap.size W0 _›).2.2.size); have l0 := keep_cell hb2 hl0 k0; have l2 := keep_cell hb2 hl0 k2))
  all_goals
    have hx2 := HX0.out.below hb2
    have HX2 := Lib.hid hx2
    have HB2 := Lib.hid (HBB.out _ hb2)
    have HBOX2 := Lib.hid (HBOX.out.below hb2 hl0)
    have hl2 : w.heap.size < w2.heap.size := Nat.lt_of_lt_of_le hl0 hb2.size
    obtain ⟨b0, b1, b2, b3, b4, b5, b6, b7⟩ := HBOX2.out
    obtain ⟨c0', c1', c2', c3', c4'⟩ := hx2.c
    have hg2 := hx2.lt
    have f1 := hx2.free 1
    have f3 := hx2.free 3
    obtain ⟨A, c, hve⟩ := hx2.own.slice
    obtain ⟨A', c', hvp⟩ := hx2.pek.slice
    subst hve hvp
    clear hx2 hb2 l0 l2
    have HPK := Lib.hid (peaks_snoc es e)
  have hng := not_g HX2.out.own HX2.out.blk (by decide)
  have AK : Hid (∀ w3, Kept (fun k => (Value.slice A es.length c).ownBlock = some k) w2 w3 → w3.cell? ⟨g, 1, none⟩ = some (.slice A es.length c) ∧ w3.cell? ⟨g, 3, none⟩ = some (.slice A' es.length c') ∧ w3.frozen? ⟨g, 1, none⟩ = false ∧ w3.frozen? ⟨g, 3, none⟩ = false ∧ g < w3.heap.size) := by
    intro w3 hk
    have hbk := hk.block g hg2 hng
    exact ⟨(World.cell?_of_block (w := w2) (a := ⟨g, 1, none⟩) hbk).trans c1', (World.cell?_of_block (w := w2) (a := ⟨g, 3, none⟩) hbk).trans c3', (World.frozen?_of_block (w := w2) (a := ⟨g, 1, none⟩) hbk).trans f1, (World.frozen?_of_block (w := w2) (a := ⟨g, 3, none⟩) hbk).trans f3, Nat.lt_of_lt_of_le hg2 hk.size⟩
  have BK : Hid (∀ w3 v3 w4, Kept (fun k => (Value.slice A es.length c).ownBlock = some k) w2 w3 → Kept (fun k => (Value.slice A' es.length c').ownBlock = some k) (w3.setCell ⟨g, 1, none⟩ v3) w4 → (w4.cell? ⟨g, 3, none⟩).isSome = true ∧ w4.frozen? ⟨g, 3, none⟩ = false) := by
    intro w3 v3 w4 hk hk4
    have b3 : w3.heap[g]? = _ := (hk.block g hg2 hng).trans HX2.out.blk
    have b3' := heap_setCell_at (i := 1) b3 v3
    have b4 := (hk4.block g (Array.getElem?_eq_some_iff.1 b3').1 (not_g HX2.out.pek HX2.out.blk (by decide))).trans b3'
    exact ⟨by rw [cell_of_row w4 g 3 _ _ _ b4]; rfl, by simp [World.frozen?, b4]⟩
  have PK : Hid (∀ w3 v3, Kept (fun k => (Value.slice A es.length c).ownBlock = some k) w2 w3 → Owns w3 0 109 8 v3 (es.length + 1) (entVals (es ++ [e])) → Owns (w3.setCell ⟨g, 1, none⟩ v3) 0 2 1 (.slice A' es.length c') es.length (peakVals es)) := by
    intro w3 v3 hk ho
    have b3 : w3.heap[g]? = _ := (hk.block g hg2 hng).trans HX2.out.blk
    have hpek3 := HX2.out.pek.kept hk (diff_block HX2.out.pek HX2.out.own (by decide))
    exact hpek3.kept (Kept.setCell (S := fun k => k = g) (p := ⟨g, 1, none⟩) (Kept.refl _ w3) rfl v3) (fun k hk => by rintro rfl; exact not_g hpek3 b3 (by decide) hk)
  have HV : Hid (Valid base (es ++ [e])) := HX2.out.val.snoc (by simpa using hne) (by simpa using hne2) c1 c2 c3 c4 (by omega)
  have HT := Lib.hid (fun w3 w4 v3 v4 => add_turned (w3 := w3) (w4 := w4) (v3 := v3) (v4 := v4) HB2.out HX.out HX2.out HV.out)
  have HPS := Lib.hid (peakVals_snoc es e)
  have HOW := Lib.hid HX2.out.own
  rcases snoc_cases es with rfl | ⟨es0, e0, rfl⟩
  · have HPV : Hid ((pkStep (pk ([] : List Ent)) e).getD 0 = e.last) := rfl
    have hz : decide (0 < ([] : List Ent).length) = false := by simp
    simp only [List.length_nil] at *
    go_wp2_with fail
    go_region_law ((refine step_push_ent rfl _ _ rfl w2 (.slice A 0 c) [] 0 e rfl rfl rfl HOW.out hroom ?_; intro v3 w3 hown3 hk3 hs3; obtain ⟨A3, c3, rfl⟩ := hown3.slice; obtain ⟨r0, r1, rf1, rf3, rlt⟩ := AK.out w3 hk3))
    all_goals
      have HO3 := Lib.hid hown3
      have HK3 := Lib.hid hk3
      have HS3 := Lib.hid hs3
      have HPP := Lib.hid (PK.out w3 _ hk3 hown3)
      clear hown3 hk3 hs3
      go_wp2_with (at_builtin; refine wpList_push_int rfl _ _ rfl (w3.setCell ⟨g, 1, none⟩ (.slice A3 (0 + 1) c3)) _ (by simp [World.setCell]) (.slice A' 0 c') _ 0 e.last rfl rfl HPP.out (by omega) ?_; intro v4 w4 hown4 hk4 hs4; obtain ⟨A4, c4, rfl⟩ := hown4.slice; obtain ⟨q1, q2⟩ := BK.out w3 _ w4 HK3.out hk4; obtain ⟨u3, q3⟩ := Option.isSome_iff_exists.1 q1)
      go_ret
      refine ⟨rfl, HT.out w3 w4 _ _ HO3.out HK3.out HS3.out ?_ hk4 hs4⟩
      rw [HPS.out, HPV.out]
      exact hown4
  · obtain ⟨q, hq⟩ := pk_some (es0 ++ [e0]) (by simp)
    have HPV : Hid ((pkStep (pk (es0 ++ [e0])) e).getD 0 = max e.last q) := by rw [hq]; rfl
    have hpkc : (peakVals (es0 ++ [e0]))[(es0 ++ [e0]).length - 1]? = some (.int .i64 q) := by
      rw [peakVals, List.getElem?_map, peaks_get _ _ (by simp), List.take_of_length_le (by simp), hq]; rfl
    obtain ⟨bq, cq, hvq, _, hbq, hcc, _, hcellq⟩ := HX2.out.pek.form (by simp)
    injection hvq with hA' _ hc'
    subst hA'
    subst hc'
    have hcq := hcellq _ _ hpkc
    clear hcellq hpkc
    have hz : decide ((0 : Int) < ((es0 ++ [e0]).length : Int)) = true := by simp
    have hz2 : 0 < (es0 ++ [e0]).length := by simp
    generalize hn : (es0 ++ [e0]).length = n at *
    have hw1 : IntKind.i64.wrap ((n : Int) - 1) = ((n - 1 : Nat) : Int) := by rw [IntWalk.i64_in _ (by omega)]; omega
    have hw2 : (0 : Int) ≤ ((n - 1 : Nat) : Int) := by omega
    have hw4 : ((n - 1 : Nat) : Int) < (n : Int) := by omega
    have hw5 : ((n - 1 : Nat) : Int).toNat = n - 1 := by omega
    generalize n - 1 = n1 at *
    have HLN := Lib.hid hn
    clear hn
    go_wp2_with fail
    all_goals
      go_region_law ((refine step_push_ent rfl _ _ rfl w2 (.slice A n c) (es0 ++ [e0]) n e rfl rfl HLN.out HOW.out hroom ?_; intro v3 w3 hown3 hk3 hs3; obtain ⟨A3, c3, rfl⟩ := hown3.slice; obtain ⟨r0, r1, rf1, rf3, rlt⟩ := AK.out w3 hk3))
    all_goals
      have HO3 := Lib.hid hown3
      have HK3 := Lib.hid hk3
      have HS3 := Lib.hid hs3
      have HPP := Lib.hid (PK.out w3 _ hk3 hown3)
      clear hown3 hk3 hs3
      go_wp2_with (at_builtin; refine wpList_push_int rfl _ _ rfl (w3.setCell ⟨g, 1, none⟩ (.slice A3 (n + 1) c3)) _ (by simp [World.setCell]) (.slice (some ⟨bq, 0, none⟩) n c') _ _ _ rfl rfl HPP.out (by omega) ?_; intro v4 w4 hown4 hk4 hs4; obtain ⟨A4, c4, rfl⟩ := hown4.slice; obtain ⟨q1, q2⟩ := BK.out w3 _ w4 HK3.out hk4; obtain ⟨u3, q3⟩ := Option.isSome_iff_exists.1 q1)
      go_ret
      refine ⟨rfl, ?_⟩
      rw [HLN.out]
      refine HT.out w3 w4 _ _ HO3.out HK3.out HS3.out ?_ hk4 hs4
      rw [HPS.out, HPV.out]
      first
        | (rw [Int.max_eq_left (by assumption)]; exact hown4)
        | (rw [Int.max_eq_right (by omega)]; exact hown4)
end
end Go.Proofs.YtciikcmiiebfpaaGreatDoor.Ix
end

/- IxAdd3 -/
section
/- Add, whatever the entry. -/
namespace Go.Proofs.YtciikcmiiebfpaaGreatDoor.Ix
open Go Go.RowKit
set_option linter.unusedVariables false

theorem add_any (w : World) (g : Nat) (base : Int) (es : List Ent) (ve vp : Value) (hx : IX w g base es ve vp) (e : Ent) (hroom : (es.length + 1) * 56 ≤ 140737488355328) :
    Calls Tryz.prog 34 #[.pointer (some ⟨g, 0, none⟩), e.val] w fun r w' => r = .returned (.int .i64 (addE base es e : Nat)) ∧ Turned w g base ve vp (addTo base es e) w' := by
  have hm : es.length ≤ 140737488355328 := by omega
  unfold addTo addE
  by_cases h : badE e
  · rw [if_pos h, if_neg (by decide)]
    refine (add_bad w g e h).mono ?_
    rintro r w' ⟨rfl, hb⟩
    exact ⟨rfl, same_turned hx hb⟩
  rw [if_neg h]
  by_cases h1 : e.base = nextOf base es
  · by_cases h2 : e.at_ = sizeOf es
    · rw [if_neg (by simp [h1, h2])]
      by_cases h3 : 4611686018427387904 - e.count < e.base
      · rw [if_pos h3, if_neg (by decide)]
        refine (add_end w g base es ve vp hx hm e h h1 h2 h3).mono ?_
        rintro r w' ⟨rfl, hb⟩
        exact ⟨rfl, same_turned hx hb⟩
      · rw [if_neg h3, if_pos rfl]
        refine (add_ok w g base es ve vp hx hm e h h1 h2 h3 hroom).mono ?_
        rintro r w' ⟨rfl, hb⟩
        exact ⟨rfl, hb⟩
    · rw [if_pos (.inr h2), if_neg (by decide)]
      refine (add_gap2 w g base es ve vp hx hm e h h1 h2).mono ?_
      rintro r w' ⟨rfl, hb⟩
      exact ⟨rfl, same_turned hx hb⟩
  · rw [if_pos (.inl h1), if_neg (by decide)]
    refine (add_gap1 w g base es ve vp hx hm e h h1).mono ?_
    rintro r w' ⟨rfl, hb⟩
    exact ⟨rfl, same_turned hx hb⟩
end Go.Proofs.YtciikcmiiebfpaaGreatDoor.Ix
end
