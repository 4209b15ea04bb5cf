/- The walks of bad, next, New, slices.Clone. -/
import Derived.Test.YtnooekflmjebiaaBase
import Derived.WalkSpells
namespace Go.Proofs.Ytnooekflmjebiaa
open Go Go.RowKit
set_option linter.unusedVariables false

theorem ret_bool {a b : Bool} (h : a = b) : Ending.returned (.bool a) = .returned (.bool b) := by rw [h]

set_option maxHeartbeats 1000000 in
theorem bad_any (p e s c : Int) (w : World) : Calls Try.prog 18 #[.int .i64 p, .int .i16 e, .int .i32 s, .int .i64 c] w fun r w' => r = .returned (.bool (badI p e s c)) ∧ w = w' := by
  go_enter Try.func18, Try.ntmps18
  go_wp2
  all_goals
    go_ret
    exact ⟨ret_bool (by simp only [badI]; split <;> first | omega | (rw [Bool.eq_iff_iff]; simp; try omega)), rfl⟩

theorem next_any (k : Mk) (w : World) (h1 : 0 ≤ k.seq ∧ k.seq ≤ 2147483647) (h2 : 1 ≤ k.count ∧ k.count ≤ 256) : Calls Try.prog 20 #[k.val] w fun r w' => r = .returned (.int .i32 k.next) ∧ Below w.heap.size w w' := by
  have hb0 := (Below.refl w.heap.size w)
  unfold Mk.val
  go_enter Try.func20, Try.ntmps20
  go_wp2_with fail
  go_ret
  exact ⟨rfl, hb0.alloc (Nat.le_refl _) _⟩

/-- The table at block t, its map at block b. -/
structure TB (w : World) (t b n : Nat) (f : Int → Option Value) : Prop where
  c : w.cell? ⟨t, 0, none⟩ = some (.map (some b))
  mp : Mp w b n f
  ne : t ≠ b
  ty : ∃ cs, w.heap[t]? = some (.cells cs 56 (0, 0))
theorem TB.lt {w : World} {t b n : Nat} {f : Int → Option Value} (h : TB w t b n f) : t < w.heap.size ∧ b < w.heap.size := ⟨World.block_lt_of_cell? w _ h.c, h.mp.lt⟩
theorem TB.kept {w w' : World} {t b n : Nat} {f : Int → Option Value} {S : Nat → Prop} (h : TB w t b n f) (hk : Kept S w w') (ht : ¬ S t) (hb : ¬ S b) : TB w' t b n f :=
  ⟨(hk.cell (a := ⟨t, 0, none⟩) h.lt.1 ht).trans h.c, h.mp.kept (hk.block b h.lt.2 hb), h.ne, by obtain ⟨cs, hc⟩ := h.ty; exact ⟨cs, (hk.block t h.lt.1 ht).trans hc⟩⟩

theorem new_any (w : World) : Calls Try.prog 7 #[] w fun r w' => ∃ t b, r = .returned (.pointer (some ⟨t, 0, none⟩)) ∧ TB w' t b 0 (fun _ => none) ∧ w.heap.size ≤ t ∧ w.heap.size ≤ b ∧ Below w.heap.size w w' := by
  have hmm := @run_makeMap Try.prog
  have HM := Lib.hid (Mp.made w)
  go_enter Try.func7, Try.ntmps7
  go_wp2_with fail
  go_ret
  have hc := heap_alloc_new (w.alloc (.map #[] 0)) (.cells #[.map (some w.heap.size)] 56)
  rw [World.size_alloc] at hc
  refine ⟨w.heap.size + 1, w.heap.size, rfl, ⟨?_, HM.out.kept ?_, by omega, _, hc⟩, by omega, Nat.le_refl _, ((Below.refl w.heap.size w).alloc (Nat.le_refl _) _).alloc (by simp) _⟩
  · rw [cell_of_row _ (w.heap.size + 1) 0 _ _ _ hc]
    rfl
  · exact Below.heap_alloc _ _ _ (by simp)

theorem mk_info : (Try.prog.info? 66).map (fun i => (i.zero, i.size, i.bytes)) = some (some (.agg #[.int .i32 0, .int .i64 0, .int .i64 0]), 3, 24) := by kernel_rfl
theorem mk_one (ms : List Mk) : ∀ u ∈ mkVals ms, u.oneCell' = true := by
  intro u hu
  simp only [mkVals, List.mem_flatMap] at hu
  obtain ⟨m, _, h⟩ := hu
  simp [Mk.vs] at h
  rcases h with rfl | rfl | rfl <;> rfl
theorem owns_empty (w : World) (e : TypeId) (sz : Nat) : Owns (w.alloc (.cells #[] e)) w.heap.size e sz (.slice (some ⟨w.heap.size, 0, none⟩) 0 0) 0 [] :=
  ⟨by simp, .inr ⟨w.heap.size, 0, #[], rfl, Nat.le_refl _, heap_alloc_new w _, Nat.le_refl _, by simp [maxLen], by simp, by simp⟩⟩

set_option maxRecDepth 100000 in
/-- slices.Clone: a row of the call's own. -/
theorem clone_any (A : Option Addr) (c : Nat) (ms : List Mk) (w : World) (hr : Rd w 3 A ms.length (mkVals ms)) (hnil : A = none → c = 0) (hm : ms.length * 24 ≤ 140737488355328) :
    Calls Try.prog 21 #[.slice A ms.length c] w fun r w' => ∃ v, r = .returned v ∧ Owns w' w.heap.size 66 3 v ms.length (mkVals ms) ∧ Below w.heap.size w w' := by
  have qS : ∀ (W : World) (a : Option Addr) (n k : Nat), (binOp .eql 58 (.slice a n k) (.slice none 0 0)).run Try.prog W = .ok (.bool a.isNone) W := fun W a n k => Lib.run_eql_slice_nil W _ _ a n k 0 0 Try.underlying58
  cases A with
  | none =>
    have h0 : ms = [] := by
      cases ms with
      | nil => rfl
      | cons m ms =>
        obtain ⟨a, h, _⟩ := hr.2 (by simp)
        cases h
    obtain rfl := hnil rfl
    subst h0
    have HO := Lib.hid (Owns.nil w w.heap.size 66 3)
    clear hr hnil
    go_enter Try.func21, Try.ntmps21
    go_wp2_with fail
    go_ret
    exact ⟨_, rfl, HO.out, Below.refl _ _⟩
  | some a =>
    obtain ⟨i0, hi, hz0, hz1, hz2⟩ := info_parts mk_info
    have HB : Hid (Below w.heap.size w (w.alloc (.cells #[] 66))) := (Below.refl w.heap.size w).alloc (Nat.le_refl _) _
    have HR := Lib.hid (hr.below HB.out)
    have HO := Lib.hid (owns_empty w 66 3)
    have HM := Lib.hid (mk_one ms)
    obtain ⟨n, hn⟩ : ∃ n, n = ms.length := ⟨_, rfl⟩
    have HN := Lib.hid hn
    rw [← hn] at hm ⊢
    clear hr hnil hn
    go_enter Try.func21, Try.ntmps21
    go_wp2_with (at_builtin; refine wpList_app _ rfl _ _ 58 rfl w.heap.size 66 i0 _ 3 24 Try.underlying58 hi hz0 hz1 hz2 rfl (by decide) _ 0 [] rfl HO.out (some a) n c (mkVals ms) rfl (by rw [HN.out]; exact HR.out) HM.out (by unfold maxLen; omega) (by omega) (by simp) ?_; intro v' w' h1 h2 h3; have H1 := Lib.hid h1; have H2 := Lib.hid h2; clear h1 h2 h3)
    go_ret
    refine ⟨_, rfl, ?_, HB.out.trans (H2.out.below (by simp) (fun k hk => Nat.le_of_eq (Option.some.inj hk)))⟩
    have h := H1.out
    simpa using h
end Go.Proofs.Ytnooekflmjebiaa
