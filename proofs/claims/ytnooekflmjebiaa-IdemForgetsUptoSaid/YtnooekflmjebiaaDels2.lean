/- The walk of slices.DeleteFunc at the remembered batches. -/
import Derived.Test.YtnooekflmjebiaaDels
namespace Go.Proofs
open Go Go.RowKit Go.Shelf
namespace Ytnooekflmjebiaa
set_option linter.unusedVariables false

theorem Row.eq {w : World} {g : Nat} {L L' : List Mk} (h : Row w g L) (e : L = L') : Row w g L' := e ▸ h
theorem kept_put {w W : World} {g : Nat} (h : Kept (fun j => j = g) w W) (o : Nat) (v : Value) : Kept (fun j => j = g) w (W.setCell ⟨g, o, none⟩ v) :=
  ⟨h.os, h.tape, h.output, by rw [show (W.setCell ⟨g, o, none⟩ v).heap.size = W.heap.size by simp]; exact h.size, fun k hk hne => (setCell_block W ⟨g, o, none⟩ v k hne).trans (h.block k hk hne)⟩
theorem kept_below {S : Nat → Prop} {w W W' : World} (h : Kept S w W) (hb : Below W.heap.size W W') : Kept S w W' :=
  ⟨hb.os.trans h.os, hb.tape.trans h.tape, hb.output.trans h.output, Nat.le_trans h.size hb.size, fun k hk hne => (hb.block k (Nat.lt_of_lt_of_le hk h.size)).trans (h.block k hk hne)⟩
theorem kept_puts {w W : World} {g : Nat} (h : Kept (fun j => j = g) w W) : ∀ (zs : List Value) (o : Nat), Kept (fun j => j = g) w (W.setCells g o zs) := by
  intro zs
  induction zs generalizing W with
  | nil => intro o; exact h
  | cons z zs ih => intro o; exact ih (kept_put h o z) (o + 1)
theorem ty_sets {g : Nat} : ∀ (zs : List Value) (o : Nat) {w : World}, (∃ cs, w.heap[g]? = some (.cells cs 66 (0, 0))) → ∃ cs, (w.setCells g o zs).heap[g]? = some (.cells cs 66 (0, 0))
  | [], _, _, h => h
  | z :: zs, o, _, h => ty_sets zs (o + 1) (ty_set h _ _)

set_option maxRecDepth 100000 in
set_option maxHeartbeats 4000000 in
theorem sdel_any (g n cap B : Nat) (base : Int) (ms : List Mk) (w : World) (hn : ms.length = n) (h5 : n ≤ 5) (hcap : n ≤ cap) (hrow : Row w g ms) (hB : w.cell? ⟨B, 0, none⟩ = some (.int .i64 base)) (hBg : B ≠ g) :
    Calls Try.prog 30 #[.slice (some ⟨g, 0, none⟩) n cap, .func (.func 31) #[] #[.pointer (some ⟨B, 0, none⟩)]] w fun r w' => ∃ k, r = .returned (.slice (some ⟨g, 0, none⟩) k cap) ∧
      k = (ms.filter fun m => !decide (m.base < base)).length ∧ Row w' g (ms.filter fun m => !decide (m.base < base)) ∧ Kept (fun j => j = g) w w' := by
  have hBl := World.block_lt_of_cell? w _ hB
  have hIF := AnyQ.slices_IndexFunc Try.indexA 3 Try.isAgg66 Try.sizeOf66 Mk.vs (fun _ => rfl) (fun m => decide (m.base < base)) 31 #[.pointer (some ⟨B, 0, none⟩)] (enters_of Try.func31 (by kernel_rfl) rfl) g 0 n cap ms w
    (fun W k hb => (lt_any B base k W ((hb.cell (p := ⟨B, 0, none⟩) hBl).trans hB)).mono fun e w' h => ⟨h.1, (hb.trans (h.2.mono hb.size))⟩)
    (by omega) (by omega) hrow.lt (fun j hj i v hi => by
      have hk : ms[j]? = some ms[j]! := by rw [List.getElem?_eq_getElem hj, getElem!_pos ms j hj]
      have h1 := hrow.at_ j _ hk
      generalize ms[j]! = y at hi h1
      rw [Nat.zero_add]
      match i, hi with
      | 0, hi => simp [Mk.vs] at hi; rw [← hi]; exact h1.c0
      | 1, hi => simp [Mk.vs] at hi; rw [← hi]; exact h1.c1
      | 2, hi => simp [Mk.vs] at hi; rw [← hi]; exact h1.c2
      | i + 3, hi => simp [Mk.vs] at hi)
  change Calls Try.prog 36 _ _ _ at hIF
  rw [show ms.take n = ms by rw [← hn]; exact List.take_length] at hIF
  have HROW := Lib.hid hrow
  have HN := Lib.hid hn
  have HIX := Lib.hid (idx_spec (fun m => decide (m.base < base)) ms)
  clear hrow hn
  rcases HIX.out with ⟨e1, hall⟩ | ⟨k0, hk0, e1, ht, hall⟩
  · rw [e1] at hIF
    have HIF := Lib.hid hIF
    have hfil : (ms.filter fun m => !decide (m.base < base)) = ms := List.filter_eq_self.2 fun m hm => by show (!decide (m.base < base)) = true; rw [show decide (m.base < base) = false from hall m hm]; rfl
    rw [hfil, HN.out]
    clear hIF hall hfil e1 HIX
    go_enter Try.func30, Try.ntmps30
    go_wp2_with (go_at_call 36; refine HIF.out.mono ?_; rintro e w1 ⟨rfl, hb⟩)
    go_ret
    exact ⟨n, rfl, rfl, HROW.out.below hb, kept_below (Kept.refl _ _) hb⟩
  · rw [e1] at hIF
    have HIF := Lib.hid hIF
    have HK := Lib.hid (KInv.start (p := fun m => !decide (m.base < base)) hk0 (fun j x hj hx => by show (!decide (x.base < base)) = true; rw [show decide (x.base < base) = false from hall j x hj hx]; rfl) (fun x hx => by show (!decide (x.base < base)) = false; rw [show decide (x.base < base) = true from ht x hx]; rfl))
    have hk0n : k0 < n := by rw [← HN.out]; exact hk0
    have hne : ((k0 : Int) == -1) = false := beq_eq_false_iff_ne.2 (by omega)
    clear hIF hall ht e1 HIX hk0
    go_enter Try.func30, Try.ntmps30
    go_wp2_with (go_at_call 36; refine HIF.out.mono ?_; rintro e w1 ⟨rfl, hb⟩; have HR1 := Lib.hid (HROW.out.below hb); have HK1 := Lib.hid (kept_below (Kept.refl (fun j => j = g) w) hb); clear hb)
    go_loopw [5, 6] (fun si sj wr => ∃ (i j : Nat) (L : List Mk), si = .int .i64 i ∧ sj = .int .i64 j ∧ j ≤ n ∧ Hid (KInv (fun m => !decide (m.base < base)) ms j i L) ∧ Hid (Row wr g L) ∧ Hid (Kept (fun j => j = g) w wr)) (fun _ sj _ => n - (intOf sj).toNat)
    case atStart => exact ⟨k0, k0 + 1, ms, rfl, by go_num, by omega, HK.out, HR1.out, HK1.out⟩
    case round =>
      obtain ⟨i, j, L, rfl, rfl, hjn, HI, HR, HKP⟩ := hrel
      rename World => wr
      have hij := HI.out.lt
      by_cases hlt : j < n
      · obtain ⟨m, hm⟩ : ∃ m, ms[j]? = some m := ⟨_, List.getElem?_eq_getElem (by rw [HN.out]; exact hlt)⟩
        have hat := HR.out.at_ j m (HI.out.get.trans hm)
        have k0' := hat.c0
        have k1' := hat.c1
        have k2' := hat.c2
        have hgl := HR.out.lt
        have HM := Lib.hid hm
        have hBw : wr.cell? ⟨B, 0, none⟩ = some (.int .i64 base) := (HKP.out.cell (a := ⟨B, 0, none⟩) hBl hBg).trans hB
        have HB0 : Hid (Below wr.heap.size wr (wr.alloc (.cells #[.int .i32 m.seq, .int .i64 m.count, .int .i64 m.base] 66))) := (Below.refl _ _).alloc (Nat.le_refl _) _
        have HC := Lib.hid (lt_any B base m (wr.alloc (.cells #[.int .i32 m.seq, .int .i64 m.count, .int .i64 m.base] 66)) ((HB0.out.cell (p := ⟨B, 0, none⟩) (World.block_lt_of_cell? wr _ hBw)).trans hBw))
        have hboxes : ∀ W, Below (wr.alloc (.cells #[.int .i32 m.seq, .int .i64 m.count, .int .i64 m.base] 66)).heap.size (wr.alloc (.cells #[.int .i32 m.seq, .int .i64 m.count, .int .i64 m.base] 66)) W →
            (W.cell? ⟨wr.heap.size, 0, none⟩ = some (.int .i32 m.seq) ∧ W.cell? ⟨wr.heap.size, 1, none⟩ = some (.int .i64 m.count) ∧ W.cell? ⟨wr.heap.size, 2, none⟩ = some (.int .i64 m.base)) ∧ wr.heap.size < W.heap.size := fun W hb => by
          have hbl : W.heap[wr.heap.size]? = some (.cells #[.int .i32 m.seq, .int .i64 m.count, .int .i64 m.base] 66 (0, 0)) := (hb.block _ (by simp)).trans (heap_alloc_new _ _)
          exact ⟨⟨(cell_of_row _ _ 0 _ _ _ hbl).trans rfl, (cell_of_row _ _ 1 _ _ _ hbl).trans rfl, (cell_of_row _ _ 2 _ _ _ hbl).trans rfl⟩, (Array.getElem?_eq_some_iff.1 hbl).1⟩
        have HBX := Lib.hid hboxes
        obtain ⟨bb, hbb⟩ : ∃ bb, bb = decide (m.base < base) := ⟨_, rfl⟩
        have HBB := Lib.hid hbb
        rw [← hbb] at HC
        clear hat hm hBw hboxes hbb
        unfold Mk.val at HC
        cases bb
        · go_wp2_with (go_at_call 31; refine HC.out.mono ?_; rintro e w2 ⟨rfl, hb⟩; obtain ⟨⟨x0, x1, x2⟩, hx3⟩ := HBX.out _ hb; have hb2 := HB0.out.trans (hb.mono (by simp)); have HR2 := Lib.hid (HR.out.below hb2); have HKP2 := Lib.hid (kept_below HKP.out hb2); have hgl2 := HR2.out.lt; have hcap2 : i < n := (by omega); have f0 := HR2.out.frozen (i * 3); have f1 := HR2.out.frozen (i * 3 + 1); have f2 := HR2.out.frozen (i * 3 + 2); obtain ⟨mo, hmo⟩ : ∃ mo, L[i]? = some mo := ⟨_, List.getElem?_eq_getElem (by rw [HI.out.len, HN.out]; exact hcap2)⟩; have y0 := (HR2.out.at_ i mo hmo).c0; have y1 := (HR2.out.at_ i mo hmo).c1; have y2 := (HR2.out.at_ i mo hmo).c2; clear hb hb2 hmo)
          go_roundw
          case rel => exact ⟨i + 1, j + 1, L.set i m, by go_num, by go_num, by omega, HI.out.keep HM.out (by show (!decide (m.base < base)) = true; rw [← HBB.out]; rfl), HR2.out.set i (by rw [HI.out.len, HN.out]; exact hcap2) m, kept_put (kept_put (kept_put HKP2.out _ _) _ _) _ _⟩
          case measure => simp [intOf]; omega
        · go_wp2_with (go_at_call 31; refine HC.out.mono ?_; rintro e w2 ⟨rfl, hb⟩; have hb2 := HB0.out.trans (hb.mono (by simp)); have HR2 := Lib.hid (HR.out.below hb2); have HKP2 := Lib.hid (kept_below HKP.out hb2); clear hb hb2)
          go_roundw
          case rel => exact ⟨i, j + 1, L, rfl, by go_num, by omega, HI.out.skip HM.out (by show (!decide (m.base < base)) = false; rw [← HBB.out]; rfl), HR2.out, HKP2.out⟩
          case measure => simp [intOf]; omega
      · obtain rfl : j = n := by omega
        have hcl := clear_run wr
        obtain ⟨d, hd⟩ : ∃ d, d = j - i := ⟨_, rfl⟩
        obtain ⟨zs, hzs, hrun⟩ := clear_run wr 0 g (i * 3) (j - i) (cap - i) (by omega) (fun t ht => by
          obtain ⟨x, hx⟩ : ∃ x, L[i + t / 3]? = some x := ⟨_, List.getElem?_eq_getElem (by rw [HI.out.len, HN.out]; omega)⟩
          have hat := HR.out.at_ _ x hx
          have h3 : t % 3 = 0 ∨ t % 3 = 1 ∨ t % 3 = 2 := by omega
          rcases h3 with h | h | h
          · rw [show i * 3 + t = (i + t / 3) * 3 by omega, hat.c0]; rfl
          · rw [show i * 3 + t = (i + t / 3) * 3 + 1 by omega, hat.c1]; rfl
          · rw [show i * 3 + t = (i + t / 3) * 3 + 2 by omega, hat.c2]; rfl) (fun t _ => HR.out.frozen _)
        clear hcl
        go_wp2_with fail
        go_ret
        have hfr : L.take i = ms.filter fun m => !decide (m.base < base) := by
          rw [HI.out.front, ← HN.out, List.take_length]
        have hil : i ≤ L.length := by rw [HI.out.len, HN.out]; omega
        rw [← hfr]
        refine ⟨i, rfl, by rw [List.length_take]; omega, ⟨ty_sets zs _ HR.out.ty, fun t k hk => ?_⟩, kept_puts HKP.out zs _⟩
        rw [List.getElem?_take] at hk
        split at hk
        · rename_i hti
          have hat := HR.out.at_ t k hk
          exact ⟨(World.cell?_setCells_out g zs _ _ _ (fun _ _ => .inl (by show t * 3 < i * 3; omega))).trans hat.c0, (World.cell?_setCells_out g zs _ _ _ (fun _ _ => .inl (by show t * 3 + 1 < i * 3; omega))).trans hat.c1, (World.cell?_setCells_out g zs _ _ _ (fun _ _ => .inl (by show t * 3 + 2 < i * 3; omega))).trans hat.c2⟩
        · cases hk
end Ytnooekflmjebiaa
end Go.Proofs
