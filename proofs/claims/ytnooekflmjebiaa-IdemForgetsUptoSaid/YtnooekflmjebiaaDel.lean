/- Forget's closures, slices.ContainsFunc, and maps.DeleteFunc with its closure. -/
import Derived.Test.YtnooekflmjebiaaKeys
import Derived.Deep.LoopGhost
import Derived.Lib.SlMapFilter
import Derived.Maps.Ext
import Derived.Maps.RangeWalk
import Derived.Laws.IdiomRangeMap
namespace Go.Proofs
open Go Go.RowKit Go.Shelf
namespace Ytnooekflmjebiaa
set_option linter.unusedVariables false

instance : Inhabited Mk := ⟨⟨0, 0, 0⟩⟩

theorem ge_any (B : Nat) (base : Int) (k : Mk) (w : World) (hB : w.cell? ⟨B, 0, none⟩ = some (.int .i64 base)) : Calls Try.prog 27 #[k.val, .pointer (some ⟨B, 0, none⟩)] w fun e w' => e = .returned (.bool (decide (base ≤ k.base))) ∧ Below w.heap.size w w' := by
  have hb0 := (Below.refl w.heap.size w)
  have hlt := World.block_lt_of_cell? w _ hB
  unfold Mk.val
  go_enter Try.func27, Try.ntmps27
  go_wp2_with fail
  go_ret
  exact ⟨by simp, hb0.alloc (Nat.le_refl _) _⟩
theorem lt_any (B : Nat) (base : Int) (k : Mk) (w : World) (hB : w.cell? ⟨B, 0, none⟩ = some (.int .i64 base)) : Calls Try.prog 31 #[k.val, .pointer (some ⟨B, 0, none⟩)] w fun e w' => e = .returned (.bool (decide (k.base < base))) ∧ Below w.heap.size w w' := by
  have hb0 := (Below.refl w.heap.size w)
  have hlt := World.block_lt_of_cell? w _ hB
  unfold Mk.val
  go_enter Try.func31, Try.ntmps31
  go_wp2_with fail
  go_ret
  exact ⟨by simp, hb0.alloc (Nat.le_refl _) _⟩

/-- Forget's first closure: none of the batches is at the base or above. -/
theorem del1_any (B : Nat) (base x e : Int) (gb go cap : Nat) (ms : List Mk) (w : World) (hB : w.cell? ⟨B, 0, none⟩ = some (.int .i64 base)) (hg : gb < w.heap.size) (hat : ∀ j k, ms[j]? = some k → MkAt w gb (go + j * 3) k) (h5 : ms.length ≤ 5) :
    Calls Try.prog 25 #[.int .i64 x, .agg #[.int .i16 e, .slice (some ⟨gb, go, none⟩) ms.length cap], .pointer (some ⟨B, 0, none⟩)] w fun r w' => r = .returned (.bool (!(ms.any fun k => decide (base ≤ k.base)))) ∧ Below w.heap.size w w' := by
  have hlt := World.block_lt_of_cell? w _ hB
  have HB0 : Hid (Below w.heap.size w (w.alloc (.cells #[.int .i16 e, .slice (some ⟨gb, go, none⟩) ms.length cap] 60))) := (Below.refl w.heap.size w).alloc (Nat.le_refl _) _
  have hcon := AnyQ.slices_ContainsFunc Try.containsA 3 Try.isAgg66 Try.sizeOf66 Mk.vs (fun _ => rfl) (fun k => decide (base ≤ k.base)) 27 #[.pointer (some ⟨B, 0, none⟩)] (enters_of Try.func27 (by kernel_rfl) rfl) gb go ms.length cap ms
    (w.alloc (.cells #[.int .i16 e, .slice (some ⟨gb, go, none⟩) ms.length cap] 60))
    (fun W k hb => (ge_any B base k W ((hb.cell (p := ⟨B, 0, none⟩) (by show B < _; rw [World.size_alloc]; show B < _; have : B < w.heap.size := hlt; omega)).trans ((HB0.out.cell (p := ⟨B, 0, none⟩) hlt).trans hB))).mono fun e w' h => ⟨h.1, (hb.trans (h.2.mono hb.size))⟩)
    (Nat.le_refl _) (by omega) (by simp; omega) (fun j hj i v hi => by
      have hk : ms[j]? = some ms[j]! := by rw [List.getElem?_eq_getElem hj, getElem!_pos ms j hj]
      have h1 := (hat j _ hk).below HB0.out hg
      generalize ms[j]! = y at hi h1
      match i, hi with
      | 0, hi => simp [Mk.vs] at hi; rw [← hi]; exact h1.c0
      | 1, hi => simp [Mk.vs] at hi; rw [← hi]; exact h1.c1
      | 2, hi => simp [Mk.vs] at hi; rw [← hi]; exact h1.c2
      | i + 3, hi => simp [Mk.vs] at hi)
  change Calls Try.prog 26 _ _ _ at hcon
  rw [List.take_length] at hcon
  have HCON := Lib.hid hcon
  clear hcon hat
  generalize (ms.any fun k => decide (base ≤ k.base)) = bb at HCON ⊢
  go_enter Try.func25, Try.ntmps25
  go_wp2_with (go_at_call 26; refine HCON.out.mono ?_; rintro r w' ⟨rfl, hb⟩; have HB1 := Lib.hid (HB0.out.trans (hb.mono (by simp))); clear hb)
  go_ret
  exact ⟨rfl, HB1.out⟩

open Go.Maps
/-- Which key goes: keep x says that it stays. -/
def pdK (keep : Int → Bool) : Lit → DataW Value → Bool := fun kl _ => match kl with
  | .int _ x => !keep x
  | _ => true

section
variable {es0 : List (Lit × DataW Value)} {f : Int → Option Value} (hap : es0.Pairwise (fun p q => p.1 ≠ q.1)) (hkeys : ∀ p ∈ es0, WideAt.IsKeyLit p.1)
  (hv : ∀ x z, Maps.has (.map es0) (.int .i64 x) = (f x).isSome ∧ (DataW.map es0).atKey (.int .i64 x) (.held z) = .held ((f x).getD z))
include hap hv
theorem entry_some {x : Int} {v : Value} (h : f x = some v) : ((Lit.int .i64 x), DataW.held v) ∈ es0 := by
  have hh : Maps.has (.map es0) (.int .i64 x) = true := by rw [(hv x v).1, h]; rfl
  rw [has_eq, List.any_eq_true] at hh
  obtain ⟨p, hp, hs⟩ := hh
  have hk := WideAt.sameKey_eq hs
  obtain ⟨k, d⟩ := p
  simp only at hk
  subst hk
  have h1 := WideAt.atKey_mem (.held v) (keylit x) hap hp
  rw [(hv x v).2, h] at h1
  rw [show DataW.held v = d from h1]
  exact hp
theorem entry_inv {x : Int} {d : DataW Value} (h : ((Lit.int .i64 x), d) ∈ es0) : ∃ v, f x = some v ∧ d = .held v := by
  have hh : Maps.has (.map es0) (.int .i64 x) = true := by
    rw [has_eq, List.any_eq_true]
    exact ⟨_, h, WideAt.sameKey_self (keylit x)⟩
  rw [(hv x zmem).1] at hh
  obtain ⟨v, hfv⟩ := Option.isSome_iff_exists.1 hh
  have h1 := WideAt.atKey_mem (.held zmem) (keylit x) hap h
  rw [(hv x zmem).2, hfv] at h1
  exact ⟨v, hfv, h1.symm⟩
theorem filter_view (keep : Int → Bool) (x : Int) (z : Value) :
    Maps.has (Lib.deleteFuncD (pdK keep) (.map es0)) (.int .i64 x) = (if keep x = true then f x else none).isSome ∧ (Lib.deleteFuncD (pdK keep) (.map es0)).atKey (.int .i64 x) (.held z) = .held ((if keep x = true then f x else none).getD z) := by
  unfold Lib.deleteFuncD
  have hcase : (∃ v, f x = some v ∧ keep x = true) ∨ (∀ p ∈ es0.filter (fun p => !pdK keep p.1 p.2), p.1 ≠ .int .i64 x) ∧ (if keep x = true then f x else none) = none := by
    cases hk : keep x with
    | true =>
      cases hf : f x with
      | some v => exact .inl ⟨v, rfl, rfl⟩
      | none =>
        refine .inr ⟨fun p hp he => ?_, by simp⟩
        obtain ⟨k, d⟩ := p
        simp only at he
        subst he
        obtain ⟨v, h1, _⟩ := entry_inv hap hv (List.mem_filter.1 hp).1
        rw [hf] at h1
        cases h1
    | false =>
      refine .inr ⟨fun p hp he => ?_, by simp⟩
      have h2 := (List.mem_filter.1 hp).2
      rw [he] at h2
      simp [pdK, hk] at h2
  rcases hcase with ⟨v, h1, h2⟩ | ⟨h1, h2⟩
  · have hm : ((Lit.int .i64 x), DataW.held v) ∈ es0.filter (fun p => !pdK keep p.1 p.2) := List.mem_filter.2 ⟨entry_some hap hv h1, by simp [pdK, h2]⟩
    rw [if_pos h2, h1]
    refine ⟨?_, WideAt.atKey_mem _ (keylit x) (hap.filter _) hm⟩
    rw [has_eq]
    exact List.any_eq_true.2 ⟨_, hm, WideAt.sameKey_self (keylit x)⟩
  · rw [h2]
    refine ⟨?_, WideAt.atKey_none _ h1⟩
    rw [has_eq]
    exact List.any_eq_false.2 fun p hp hs => h1 p hp (WideAt.sameKey_eq hs)
end

theorem Kept.of_grown {w w' : World} {b : Nat} (h : w.grownBy w' (some b)) : Kept (fun j => j = b) w w' := ⟨h.os, h.tape, h.output, h.size, fun k hk hne => h.block k hk (fun e => hne (Option.some.inj e))⟩
theorem grown_of_below {w w' : World} (h : Below w.heap.size w w') : w.grownBy w' none := ⟨h.os, h.tape, h.output, h.size, fun k hk _ => h.block k hk⟩
/-- What stays of a table where a base is given. -/
def stays (g : Int → Option (Int × List Mk)) (base x : Int) : Bool := match g x with
  | some m => m.2.any fun k => decide (base ≤ k.base)
  | none => false

set_option maxHeartbeats 4000000 in
set_option maxRecDepth 100000 in
/-- maps.DeleteFunc with Forget's closure: the producers all of whose batches lie below the base go. -/
theorem del_any (t b n B : Nat) (g : Int → Option (Int × List Mk)) (base : Int) (w : World) (h : Tab w t b n g) (hB : w.cell? ⟨B, 0, none⟩ = some (.int .i64 base)) :
    Calls Try.prog 24 #[.map (some b), .func (.func 25) #[] #[.pointer (some ⟨B, 0, none⟩)]] w fun e w' => e = .returned (.tuple #[]) ∧
      Tab w' t b n (fun x => if stays g base x = true then g x else none) ∧ Kept (fun j => j = b) w w' := by
  obtain ⟨f, hT, hg, hf⟩ := h
  obtain ⟨D, hD, hv⟩ := hT.mp
  have hmap := hT.mp.is_map
  obtain ⟨es0, rfl, hap, hkeys⟩ := hD.entries keyed
  have HAP := Lib.hid hap
  have HKEYS := Lib.hid hkeys
  have HV := Lib.hid hv
  have HG := Lib.hid hg
  have HF := Lib.hid hf
  have HT := Lib.hid hT
  have HMAP := Lib.hid hmap
  have hBl := World.block_lt_of_cell? w _ hB
  have hBne : B ≠ b := by
    rintro rfl
    obtain ⟨es, c, h2⟩ := hmap
    unfold World.cell? at hB
    simp only at hB
    rw [h2] at hB
    cases hB
  clear hap hkeys hv hg hf hT hmap
  go_enter Try.func24, Try.ntmps24
  go_wp2_with (at_range; refine wpList_range_own _ rfl _ 54 rfl 2 60 keyed Try.underlying54 raw b n _ rfl hD ?_; intro w0 hrg0 hg0 hs0; have HRG := Lib.hid hrg0; have HG0 := Lib.hid hg0; clear hrg0 hg0 hs0)
  go_loopw [8] (fun _ wr => ∃ (left : Lit → Bool) (cnt : Nat), Hid (wr.ranges Try.prog 2 raw b w.heap.size n (Fk (pdK (stays g base)) es0 left) left cnt) ∧ Hid (w.grownBy wr (some b))) (fun _ wr => wr.rangeLeft b w.heap.size)
  case atStart => exact ⟨_, _, by rw [Fk_start HKEYS.out]; exact HRG.out, HG0.out.but _⟩
  case round =>
    rename World => wr
    obtain ⟨left, cnt, hrgH, hgwH⟩ := hrel
    have hrg := hrgH.out
    clear hrgH
    go_wp2_with (at_next; refine wpList_next_ranges _ rfl _ rfl 2 keyed raw id id (fun key _ _ => ⟨key, rfl⟩) (fun v _ _ => ⟨v, rfl⟩) b w.heap.size n _ _ _ rfl hrg ?_ ?_)
    · intro _ hl0
      go_wp2_with fail
      go_end0
      have hk := Kept.of_grown hgwH.out
      have htb : t ≠ b := HT.out.ne
      refine ⟨rfl, ⟨fun x => if stays g base x = true then f x else none, ⟨(hk.cell (a := ⟨t, 0, none⟩) HT.out.lt.1 htb).trans HT.out.c, ⟨_, by have := hrg.owns; rwa [Fk_end hl0] at this, filter_view HAP.out HV.out (stays g base)⟩, htb, by obtain ⟨cs, hc⟩ := HT.out.ty; exact ⟨cs, (hk.block t HT.out.lt.1 htb).trans hc⟩⟩, fun x m hm => ?_, fun x => ⟨fun hx => ?_, fun m hm => ?_⟩⟩, hk⟩
      · simp only at hm
        split at hm
        · exact HG.out x m hm
        · cases hm
      · simp only at hx ⊢
        split
        · rename_i hs
          rw [if_pos hs] at hx
          exact (HF.out x).1 hx
        · rfl
      · simp only at hm ⊢
        split at hm
        · rename_i hs
          obtain ⟨v, h1, h2⟩ := (HF.out x).2 m hm
          exact ⟨v, by rw [if_pos hs]; exact h1, h2.kept hk HMAP.out⟩
        · cases hm
    · intro x c kl yd yp w1 cnt1 hkey hlx hraw hat hrg1 hlt hg1 hs1 hen
      obtain ⟨xi, hx', rfl, hwf⟩ := Maps.keyOf_i64 Try.underlying2 hkey
      obtain rfl : x = .int .i64 xi := hx'
      have hy : (yd, yp) = (.held c, []) := by
        unfold raw at hraw
        exact (Option.some.inj hraw).symm
      obtain ⟨rfl, rfl⟩ := Prod.mk.inj hy
      have hfx : f xi = some c := by
        have hh := has_true_of_atKey hat
        unfold Fk at hh
        rw [has_eq] at hh
        obtain ⟨p, hp, hs⟩ := List.any_eq_true.1 hh
        have hk := WideAt.sameKey_eq hs
        obtain ⟨k, d⟩ := p
        simp only at hk
        subst hk
        have hd : d = .held c := at_cameK HAP.out (keylit xi) hlx hat _ (List.mem_filter.1 hp).1 rfl
        rw [hd] at hp
        obtain ⟨v, h1, h2⟩ := entry_inv HAP.out HV.out (List.mem_filter.1 hp).1
        injection h2 with h2
        rw [h2]
        exact h1
      have hgw1 := hgwH.out.andThen hg1 (fun j hj => by cases hj; exact Or.inl (Nat.le_refl _))
      have hk1 := Kept.of_grown hgw1
      cases hgx : g xi with
      | none => rw [(HF.out xi).1 hgx] at hfx; cases hfx
      | some m =>
        obtain ⟨e, ms⟩ := m
        obtain ⟨v, hv1, hel⟩ := (HF.out xi).2 _ hgx
        obtain rfl : v = c := Option.some.inj (hv1.symm.trans hfx)
        obtain ⟨gb, go, cap, rfl, ⟨cs, hcs⟩, hat2⟩ := hel.kept hk1 HMAP.out
        have hgb : gb < w1.heap.size := (Array.getElem?_eq_some_iff.1 hcs).1
        obtain ⟨_, _, _, _, hok1, hok5, hok⟩ := HG.out xi _ hgx
        have hB1 : w1.cell? ⟨B, 0, none⟩ = some (.int .i64 base) := (hk1.cell (a := ⟨B, 0, none⟩) hBl hBne).trans hB
        have hst : stays g base xi = ms.any fun k => decide (base ≤ k.base) := by unfold stays; rw [hgx]
        have HB0 : Hid (Below w1.heap.size w1 (w1.alloc (.cells #[.int .i16 e, .slice (some ⟨gb, go, none⟩) ms.length cap] 60))) := (Below.refl _ _).alloc (Nat.le_refl _) _
        have HC := Lib.hid (del1_any B base xi e gb go cap ms (w1.alloc (.cells #[.int .i16 e, .slice (some ⟨gb, go, none⟩) ms.length cap] 60)) ((HB0.out.cell (p := ⟨B, 0, none⟩) (World.block_lt_of_cell? w1 _ hB1)).trans hB1) (by simp; omega) (fun j k hj => (hat2 j k hj).below HB0.out hgb) hok5)
        have hp : pdK (stays g base) (.int .i64 xi) (.held (.agg #[.int .i16 e, .slice (some ⟨gb, go, none⟩) ms.length cap])) = !(ms.any fun k => decide (base ≤ k.base)) := by
          simp [pdK, hst]
        obtain ⟨n0, hn0⟩ : ∃ n0, n0 = ms.length := ⟨_, rfl⟩
        rw [← hn0] at HC HB0 hp hat hraw hen
        have HP := Lib.hid hp
        have HAT := Lib.hid hat
        have HRG1 := Lib.hid hrg1
        have HGW1 := Lib.hid hgw1
        have HLT := Lib.hid hlt
        have HLX := Lib.hid hlx
        have HKEY := Lib.hid hkey
        have HRG := Lib.hid hrg
        rw [← hn0]
        clear hp hat hrg1 hgw1 hlt hlx hkey hrg hs1 hg1 hat2 hel hcs hn0 hfx hv1 hk1 hst hok
        cases hbb : (ms.any fun k => decide (base ≤ k.base))
        · rw [hbb] at HP HC
          go_wp2_with (first
            | (go_at_call 25; refine HC.out.mono ?_; rintro e2 w2 ⟨rfl, hb⟩; have hg2 := grown_of_below (HB0.out.trans (hb.mono (by simp))); have HRG2 := Lib.hid (HRG1.out.kept hg2 (by simp) (by simp)); have HGW2 := Lib.hid (HGW1.out.andThen hg2 (fun j hj => by cases hj)); clear hb hg2)
            | (at_delete; have hrg2 := HRG2.out; refine wpList_delete_ranges _ rfl _ _ 54 2 rfl 60 keyed Try.underlying54 raw b w.heap.size n _ _ _ rfl hrg2 _ _ rfl HKEY.out ?_; intro w3 cnt3 hrg3 hle hturn; go_frame))
          rw [strike_twice] at hrg3
          go_roundw
          case rel => exact ⟨_, cnt3, by rw [← Fk_struck HAP.out (keyed.key HKEY.out) HLX.out (show _ = true from HP.out) HAT.out]; exact hrg3, HGW2.out.andThen hturn.grown (fun j hj => by cases hj; exact Or.inr rfl)⟩
          case measure => rw [hrg3.left_eq, HRG.out.left_eq]; have := HLT.out; omega
        · rw [hbb] at HP HC
          go_wp2_with (go_at_call 25; refine HC.out.mono ?_; rintro e2 w2 ⟨rfl, hb⟩; have hg2 := grown_of_below (HB0.out.trans (hb.mono (by simp))); have HRG2 := Lib.hid (HRG1.out.kept hg2 (by simp) (by simp)); have HGW2 := Lib.hid (HGW1.out.andThen hg2 (fun j hj => by cases hj)); clear hb hg2)
          have hrg2 := HRG2.out
          go_roundw
          case rel => exact ⟨_, cnt1, by rw [← Fk_stays HAP.out (keyed.key HKEY.out) HLX.out (show _ = false from HP.out) HAT.out]; exact hrg2, HGW2.out⟩
          case measure => rw [hrg2.left_eq, HRG.out.left_eq]; exact HLT.out
end Ytnooekflmjebiaa
end Go.Proofs
