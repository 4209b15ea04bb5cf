/- The walk of the reference's Back. -/
import Derived.Test.YtomlhedichdkkaaRef4
import Derived.Test.YtomlhedichdkkaaBackL
namespace Go.Proofs.Ytomlhedichdkkaa
open Go Go.RowKit
set_option linter.unusedVariables false

/-- A new row of entries, answered in an index. -/
def NewRow (base : Int) (L : List Ent) (w : World) (r : Ending) (w' : World) : Prop :=
  ∃ v, r = .returned (.agg #[.int .i64 base, v]) ∧ Owns w' w.heap.size 30 8 v L.length (entVals L) ∧ Below w.heap.size w w'

theorem results_cell1 {fn : Func} {p : Tmp} {ty : TypeId} (h : fn.results = #[.cell p ty]) (tmps : Array Value) (P : Program) (w : World) :
    (results fn tmps).run P w = ((asAddr (tmps.getD p undef)).run P w).andThen fun a w₁ => (loadVar ty a).run P w₁ := by
  simp only [results, h]
  simp [Sem.run_bind, Result.andThen]

set_option maxRecDepth 20000 in
set_option maxHeartbeats 2000000 in
theorem rback_any (w : World) (base : Int) (L : List Ent) (A : Option Addr) (c n : Nat) (hn : L.length = n) (hm : n ≤ 1759218604390) (hr : Row w A L) (q : Int) :
    Calls Try.prog 34 #[.agg #[.int .i64 base, .slice A n c], .int .i64 q] w (NewRow base (L.take q.toNat) w) := by
  have HN := Lib.hid hn
  have hb1 := (Below.refl w.heap.size w).alloc (Nat.le_refl _) (.cells #[.int .i64 base, .slice A n c] 47)
  have hb2 := hb1.alloc hb1.size (.cells #[.int .i64 0, .slice none 0 0] 47)
  have hb3 := hb2.alloc hb2.size (.cells #[] 30)
  have hbx := rbox w base (.slice A n c)
  have hs1 : (w.alloc (.cells #[.int .i64 base, .slice A n c] 47)).heap.size = w.heap.size + 1 := by simp
  have hs2 : ((w.alloc (.cells #[.int .i64 base, .slice A n c] 47)).alloc (.cells #[.int .i64 0, .slice none 0 0] 47)).heap.size = w.heap.size + 1 + 1 := by simp
  have hby := rbox (w.alloc (.cells #[.int .i64 base, .slice A n c] 47)) 0 (.slice none 0 0)
  have hbz := heap_alloc_new ((w.alloc (.cells #[.int .i64 base, .slice A n c] 47)).alloc (.cells #[.int .i64 0, .slice none 0 0] 47)) (.cells #[] 30)
  rw [hs1] at hby
  rw [hs2] at hbz
  have B3 := Lib.hid hb3
  have BY := Lib.hid (hby.below ((Below.refl _ _).alloc (Nat.le_refl _) (.cells #[] 30)) hby.lt)
  have BX := Lib.hid ((hbx.below ((Below.refl _ _).alloc (Nat.le_refl _) (.cells #[.int .i64 0, .slice none 0 0] 47)) hbx.lt).below ((Below.refl _ _).alloc (Nat.le_refl _) (.cells #[] 30)) (by rw [hs2]; omega))
  have R3 := Lib.hid (hr.below' hb3)
  have HRL : Hid (∀ a, A = some a → a.block < w.heap.size ∨ L.length = 0) := fun a ha => by
    rcases Nat.eq_zero_or_pos L.length with h | h
    · exact .inr h
    · obtain ⟨b, o, h1, h2, _⟩ := hr h
      rw [ha] at h1
      injection h1 with h1
      subst h1
      exact .inl h2
  have BZ := Lib.hid hbz
  clear hn hr hb1 hb2 hb3 hbx hby hbz hs1 hs2
  go_enter Try.func34, Try.ntmps34
  go_wp2_with fail
  generalize ((w.alloc (.cells #[.int .i64 base, .slice A n c] 47)).alloc (.cells #[.int .i64 0, .slice none 0 0] 47)).alloc (.cells #[] 30) = W3 at *
  have O3 : Hid (Owns W3 (w.heap.size + 1 + 1) 30 8 (.slice (some ⟨w.heap.size + 1 + 1, 0, none⟩) 0 0) 0 []) := ⟨by simp, .inr ⟨_, 0, #[], rfl, Nat.le_refl _, BZ.out, Nat.le_refl _, by simp [maxLen], by simp, by simp⟩⟩
  go_loopw [5, 6] (fun v i wr => ∃ m : Nat, i = .int .i64 (m : Int) ∧ m ≤ n ∧ m ≤ q.toNat ∧ Owns wr (w.heap.size + 1 + 1) 30 8 v m (entVals (L.take m)) ∧ Below (w.heap.size + 1 + 1) W3 wr) (fun _ i _ => n - (intOf i).toNat)
  case atStart => exact ⟨0, rfl, Nat.zero_le _, Nat.zero_le _, O3.out, Below.refl _ _⟩
  case round =>
    obtain ⟨m, rfl, hmn, hmq, hown, hbr⟩ := hrel
    have OWN := Lib.hid hown
    have BR := Lib.hid hbr
    obtain ⟨q0, q1⟩ := (BX.out.below hbr (by omega)).c
    obtain ⟨y0, y1⟩ := (BY.out.below hbr (by omega)).c
    have yf := (BY.out.below hbr (by omega)).free
    have BT : Hid (Below w.heap.size w wr) := B3.out.trans (hbr.mono (by omega))
    clear hown
    by_cases hlt : m < n
    · by_cases hlq : (m : Int) < q
      · obtain ⟨e, he⟩ : ∃ e, L[m]? = some e := ⟨_, List.getElem?_eq_getElem (by rw [HN.out]; exact hlt)⟩
        obtain ⟨b, o, rfl, hbl, hc⟩ := R3.out (by rw [HN.out]; omega)
        have hbw : b < w.heap.size := by rcases HRL.out _ rfl with h | h; exact h; rw [HN.out] at h; omega
        obtain ⟨d0, d1, d2, d3, d4, d5, d6, d7⟩ := (hc m e he).below hbr (by omega)
        have HT := Lib.hid (show entVals (L.take (m + 1)) = entVals (L.take m) ++ e.vs by rw [take_snoc' he, entVals_snoc])
        have hle : w.heap.size + 1 + 1 ≤ wr.heap.size := by have := (Array.getElem?_eq_some_iff.1 BZ.out).1; have := BR.out.size; omega
        clear hc he hbr
        have hq1 : (0 : Int) ≤ (m : Int) := by omega
        have hq2 : (m : Int) < (n : Int) := by omega
        obtain ⟨A5, c5, rfl⟩ := OWN.out.slice
        go_wp2_with (at_builtin; refine wpList_push_ent rfl _ _ rfl wr (w.heap.size + 1 + 1) hle (.slice A5 m c5) _ m e rfl rfl OWN.out (by omega) ?_; intro v4 w4 hown4 hk4 hs4; have BR4 := Lib.hid (BR.out.trans (hk4.below hle fun k hk => (OWN.out.lt k hk).1)); rw [← HT.out] at hown4; have OWN4 := Lib.hid hown4; clear hown4 hk4 hs4)
        go_roundw
        case rel => exact ⟨m + 1, by go_num, by omega, by omega, OWN4.out, BR4.out⟩
        case measure => simp [intOf]; omega
      · have hK := Lib.hid (show L.take q.toNat = L.take m by rw [show q.toNat = m by omega])
        have hlm := Lib.hid (show (L.take m).length = m by rw [List.length_take, HN.out]; omega)
        obtain ⟨A5, c5, rfl⟩ := OWN.out.slice
        clear hbr
        go_wp2_with fail
        refine bodyPost_ret (v := .agg #[.int .i64 base, .slice A5 m c5]) ?_ rfl ⟨.slice A5 m c5, rfl, ?_, ?_⟩
        · rw [results_cell1 rfl]
          go_simp
        · rw [hK.out, hlm.out]
          have hk := Kept.setCell (S := fun j => j = w.heap.size + 1) (p := ⟨w.heap.size + 1, 1, none⟩) (Kept.setCell (S := fun j => j = w.heap.size + 1) (p := ⟨w.heap.size + 1, 0, none⟩) (Kept.refl _ wr) rfl (.int .i64 base)) rfl (.slice A5 m c5)
          exact (OWN.out.kept hk fun j hj hj2 => by have := (OWN.out.lt j hj).1; omega).mono (by omega)
        · iterate 2 refine Below.setCell ?_ (by show w.heap.size ≤ w.heap.size + 1; omega) _
          exact BT.out
    · have hmn2 : m = n := by omega
      subst hmn2
      have hK := Lib.hid (show L.take q.toNat = L.take m by rw [List.take_of_length_le (by rw [HN.out]; omega), List.take_of_length_le (by rw [HN.out]; omega)])
      have hlm := Lib.hid (show (L.take m).length = m by rw [List.length_take, HN.out]; omega)
      obtain ⟨A5, c5, rfl⟩ := OWN.out.slice
      clear hbr
      go_wp2_with fail
      refine bodyPost_ret (v := .agg #[.int .i64 base, .slice A5 m c5]) ?_ rfl ⟨.slice A5 m c5, rfl, ?_, ?_⟩
      · rw [results_cell1 rfl]
        go_simp
      · rw [hK.out, hlm.out]
        have hk := Kept.setCell (S := fun j => j = w.heap.size + 1) (p := ⟨w.heap.size + 1, 1, none⟩) (Kept.setCell (S := fun j => j = w.heap.size + 1) (p := ⟨w.heap.size + 1, 0, none⟩) (Kept.refl _ wr) rfl (.int .i64 base)) rfl (.slice A5 m c5)
        exact (OWN.out.kept hk fun j hj hj2 => by have := (OWN.out.lt j hj).1; omega).mono (by omega)
      · iterate 2 refine Below.setCell ?_ (by show w.heap.size ≤ w.heap.size + 1; omega) _
        exact BT.out
end Go.Proofs.Ytomlhedichdkkaa
