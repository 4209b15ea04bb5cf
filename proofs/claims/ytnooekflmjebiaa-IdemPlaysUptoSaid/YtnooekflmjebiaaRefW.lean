/- The walks of the reference remembered and Forget. -/
import Derived.Test.YtnooekflmjebiaaHist
import Derived.BigQuiet
namespace Go.Proofs.Ytnooekflmjebiaa
open Go Go.RowKit Go.Proofs.YtnooekflmjebiaaW.PrintWords Go.Proofs.Ytnooekflmjebiaa.PIdemPlays
set_option linter.unusedVariables false

/-- A row of batches, read. -/
def MSee (w : World) (b o i : Nat) (x : S42) : Prop :=
  w.cell? ⟨b, o + i * 6, none⟩ = some (.int .i64 x.f0) ∧ w.cell? ⟨b, o + i * 6 + 1, none⟩ = some (.int .i16 x.f1) ∧ w.cell? ⟨b, o + i * 6 + 2, none⟩ = some (.int .i32 x.f2) ∧ w.cell? ⟨b, o + i * 6 + 3, none⟩ = some (.int .i64 x.f3) ∧ w.cell? ⟨b, o + i * 6 + 4, none⟩ = some (.int .i64 x.f4) ∧ w.cell? ⟨b, o + i * 6 + 5, none⟩ = some (.bool x.f5)
theorem C_marks {w : World} {A : Option Addr} {n : Nat} {xs : List S42} (h : Kd.C k42 w A n xs) (hn : 0 < n) (hx : n = xs.length) : ∃ b o, A = some ⟨b, o, none⟩ ∧ b < w.heap.size ∧ ∀ (i : Nat) x, xs[i]? = some x → MSee w b o i x := by
  obtain ⟨⟨b, o, sp⟩, rfl, d0, _⟩ := at_T42 h 0 (by omega) (by omega)
  have hs : sp = none := by simpa [Addr.add] using World.cell?_spot d0
  subst hs
  refine ⟨b, o, rfl, by simpa [Addr.add] using World.block_lt_of_cell? w _ d0, fun i x hi => ?_⟩
  have hil := (List.getElem?_eq_some_iff.1 hi).1
  obtain ⟨ad, e, d0, d1, d2, d3, d4, d5⟩ := at_T42 h (i : Int) (by omega) (by omega)
  cases e
  rw [Int.toNat_natCast] at d0 d1 d2 d3 d4 d5
  have hr : rd_T42 xs (i : Int) = x := by
    unfold rd_T42
    rw [Int.toNat_natCast, List.getD_eq_getElem?_getD, hi]
    rfl
  rw [hr] at d0 d1 d2 d3 d4 d5
  simp only [add_off] at d0 d1 d2 d3 d4 d5
  exact ⟨d0, d1, d2, d3, d4, d5⟩

/-- Within the first q behind it: the batches of the producer. -/
def seen (h : List S42) (i q : Nat) (m : S42) : List S42 := live ((h.drop (i + 1)).take q) m.f0
theorem seen_len (h : List S42) (i q : Nat) (m : S42) : (seen h i q m).length ≤ q := by
  unfold seen live
  exact Nat.le_trans (List.length_filter_le _ _) (List.length_take_le _ _)
theorem seen_succ {h : List S42} {i q : Nat} {m x : S42} (hx : h[i + 1 + q]? = some x) : seen h i (q + 1) m = seen h i q m ++ if x.f0 == m.f0 && !x.f5 then [x] else [] := by
  unfold seen
  rw [List.take_add_one, List.getElem?_drop, hx]
  exact live_snoc _ _ _
theorem seen_full {h : List S42} {i : Nat} {m : S42} : seen h i (h.length - (i + 1)) m = live (h.drop (i + 1)) m.f0 := by
  unfold seen
  rw [List.take_of_length_le (by rw [List.length_drop]; exact Nat.le_refl _)]

theorem seen_no {h : List S42} {i q : Nat} {m x : S42} (hx : h[i + 1 + q]? = some x) (hf : x.f0 ≠ m.f0 ∨ x.f5 = true) : seen h i (q + 1) m = seen h i q m := by
  rw [seen_succ hx, if_neg, List.append_nil]
  rcases hf with hf | hf
  · simp [hf]
  · simp [hf]
theorem seen_yes {h : List S42} {i q : Nat} {m x : S42} (hx : h[i + 1 + q]? = some x) (h0 : x.f0 = m.f0) (h5 : x.f5 = false) : seen h i (q + 1) m = seen h i q m ++ [x] := by
  rw [seen_succ hx, if_pos]
  simp [h0, h5]
/-- What remembered's loop knows. -/
def Kn (h : List S42) (i q k : Nat) (m : S42) : Prop := k = (seen h i q m).length ∧ ∀ x ∈ seen h i q m, x.f1 = m.f1
theorem Kn.no {h : List S42} {i q k : Nat} {m x : S42} (hk : Kn h i q k m) (hx : h[i + 1 + q]? = some x) (hf : x.f0 ≠ m.f0 ∨ x.f5 = true) : Kn h i (q + 1) k m := by
  unfold Kn
  rw [seen_no hx hf]
  exact hk
theorem Kn.yes {h : List S42} {i q k : Nat} {m x : S42} (hk : Kn h i q k m) (hx : h[i + 1 + q]? = some x) (h0 : x.f0 = m.f0) (h5 : x.f5 = false) (h1 : x.f1 = m.f1) : Kn h i (q + 1) (k + 1) m := by
  unfold Kn
  rw [seen_yes hx h0 h5, List.length_append, ← hk.1]
  refine ⟨rfl, fun y hy => ?_⟩
  rcases List.mem_append.1 hy with hy | hy
  · exact hk.2 y hy
  · simp at hy; rw [hy, h1]
theorem remd_differ {h : List S42} {i q : Nat} {m x : S42} (hx : h[i + 1 + q]? = some x) (h0 : x.f0 = m.f0) (h5 : x.f5 = false) (h1 : x.f1 ≠ m.f1) : remd m (h.drop (i + 1)) = false := by
  unfold remd
  rw [Bool.and_eq_false_iff]
  refine .inr (decide_eq_false ?_)
  rintro ⟨h2, _⟩
  refine h1 (h2 x (List.mem_filter.2 ⟨?_, by simp [h0, h5]⟩))
  exact List.mem_of_getElem? (i := q) (by rw [List.getElem?_drop]; exact hx)
theorem Kn.remd {h : List S42} {i k : Nat} {m : S42} (hk : Kn h i (h.length - (i + 1)) k m) : remd m (h.drop (i + 1)) = (!m.f5 && decide (k < 5)) := by
  unfold Kn at hk
  rw [seen_full] at hk
  unfold Go.Proofs.Ytnooekflmjebiaa.remd
  congr 1
  rw [decide_eq_decide, hk.1]
  exact ⟨fun h => h.2, fun h => ⟨hk.2, h⟩⟩
set_option maxRecDepth 100000 in
set_option maxHeartbeats 8000000 in
theorem remembered_any (A : Option Addr) (c : Nat) (h : List S42) (i n : Nat) (m : S42) (w : World) (hr : Kd.C k42 w A h.length h) (hm : h[i]? = some m) (hn : n = h.length) (hl : n ≤ 1000000000) :
    Calls Try.prog 32 #[.slice A n c, .int .i64 i] w fun e w' => e = .returned (.bool (remd m (h.drop (i + 1)))) ∧ Below w.heap.size w w' := by
  have hin : i < n := by rw [hn]; exact (List.getElem?_eq_some_iff.1 hm).1
  obtain ⟨b, o, rfl, hb, hat⟩ := C_marks hr (by omega) rfl
  have HN := Lib.hid hn
  have HAT : Hid (∀ (i : Nat) x, h[i]? = some x → MSee w b o i x) := hat
  obtain ⟨m0, m1, m2, m3, m4, m5⟩ := hat i m hm
  have HM := Lib.hid hm
  clear hm hr hat hn
  go_enter Try.func32, Try.ntmps32
  go_wp2_with fail
  go_loopw [5, 6] (fun v jj wr => ∃ j k : Nat, i + 1 ≤ j ∧ j ≤ n ∧ jj = .int .i64 (j : Int) ∧ v = .int .i64 (k : Int) ∧ k ≤ j ∧ Hid (Kn h i (j - (i + 1)) k m) ∧ Hid (Below w.heap.size w wr)) (fun _ jj _ => n - (intOf jj).toNat)
  case atStart => exact ⟨i + 1, 0, Nat.le_refl _, by omega, by go_num, rfl, Nat.zero_le _, by show Kn _ _ _ _ _; rw [Nat.sub_self]; exact ⟨by simp [seen, live], fun x hx => by simp [seen, live] at hx⟩, Below.refl _ _⟩
  case round =>
    obtain ⟨j, k, hij, hjn', rfl, rfl, hkj, HK, HB⟩ := hrel
    rename World => wo
    have mm := fun a v (h : w.cell? a = some v) (hx : a.block = b) => (HB.out.cell (p := a) (by rw [hx]; exact hb)).trans h
    have m0 := mm _ _ m0 rfl
    have m1 := mm _ _ m1 rfl
    have m5 := mm _ _ m5 rfl
    have MM := Lib.hid mm
    clear mm
    by_cases hqn : j < n
    · obtain ⟨x, hx⟩ : ∃ x, h[j]? = some x := ⟨_, List.getElem?_eq_getElem (by have := HN.out; omega)⟩
      obtain ⟨x0, x1, x2, x3, x4, x5⟩ := HAT.out _ x hx
      have x0 := MM.out _ _ x0 rfl
      have x1 := MM.out _ _ x1 rfl
      have x5 := MM.out _ _ x5 rfl
      have HX : Hid (h[i + 1 + (j - (i + 1))]? = some x) := by show _ = _; rw [show i + 1 + (j - (i + 1)) = j by omega]; exact hx
      have HS : Hid (j + 1 - (i + 1) = j - (i + 1) + 1) := by show _ = _; omega
      clear hx x2 x3 x4 m2 m3 m4 MM
      by_cases hp : x.f0 = m.f0
      · have ep : ((x.f0 : Int) == m.f0) = true := by rw [beq_iff_eq]; exact hp
        have HP := Lib.hid hp
        clear hp
        cases h5 : x.f5 with
        | true =>
          rw [h5] at x5
          have HF := Lib.hid h5
          clear h5
          go_wp2_with fail
          repeat (go_quiet (fail); try go_wp2)
          go_roundw
          case rel => exact ⟨j + 1, k, by omega, by omega, by go_num, rfl, by omega, by show Kn _ _ _ _ _; rw [HS.out]; exact HK.out.no HX.out (.inr HF.out), by first | exact HB.out | exact pw_below_drewN HB.out _ | exact pw_below_drewN (pw_below_drewN HB.out _) _⟩
          case measure => simp [intOf]; omega
        | false =>
          rw [h5] at x5
          have HF := Lib.hid h5
          clear h5
          by_cases h1 : x.f1 = m.f1
          · have e1 : ((x.f1 : Int) == m.f1) = true := by rw [beq_iff_eq]; exact h1
            have H1 := Lib.hid h1
            clear h1
            go_wp2_with fail
            repeat (go_quiet (fail); try go_wp2)
            go_roundw
            case rel => exact ⟨j + 1, k + 1, by omega, by omega, by go_num, by go_num, by omega, by show Kn _ _ _ _ _; rw [HS.out]; exact HK.out.yes HX.out HP.out HF.out H1.out, by first | exact HB.out | exact pw_below_drewN HB.out _ | exact pw_below_drewN (pw_below_drewN HB.out _) _⟩
            case measure => simp [intOf]; omega
          · have e1 : ((x.f1 : Int) == m.f1) = false := by rw [beq_eq_false_iff_ne]; exact h1
            have H1 := Lib.hid h1
            clear h1
            go_wp2_with fail
            repeat (go_quiet (fail); try go_wp2)
            go_ret
            exact ⟨by rw [remd_differ HX.out HP.out HF.out H1.out]; rfl, by first | exact HB.out | exact pw_below_drewN HB.out _ | exact pw_below_drewN (pw_below_drewN HB.out _) _⟩
      · have ep : ((x.f0 : Int) == m.f0) = false := by rw [beq_eq_false_iff_ne]; exact hp
        have HP := Lib.hid hp
        clear hp
        go_wp2_with fail
        repeat (go_quiet (fail); try go_wp2)
        go_roundw
        case rel => exact ⟨j + 1, k, by omega, by omega, by go_num, rfl, by omega, by show Kn _ _ _ _ _; rw [HS.out]; exact HK.out.no HX.out (.inl HP.out), by first | exact HB.out | exact pw_below_drewN HB.out _ | exact pw_below_drewN (pw_below_drewN HB.out _) _⟩
        case measure => simp [intOf]; omega
    · obtain rfl : j = n := by omega
      have HR : Hid (remd m (h.drop (i + 1)) = (!m.f5 && decide (k < 5))) := (show Kn h i (h.length - (i + 1)) k m by rw [← HN.out]; exact HK.out).remd
      by_cases h5 : k < 5
      · cases hm5 : m.f5 with
        | true =>
          rw [hm5] at m5
          have HF := Lib.hid hm5
          clear hm5
          go_wp2_with fail
          repeat (go_quiet (fail); try go_wp2)
          go_ret
          exact ⟨by rw [HR.out, HF.out]; rfl, by first | exact HB.out | exact pw_below_drewN HB.out _ | exact pw_below_drewN (pw_below_drewN HB.out _) _⟩
        | false =>
          rw [hm5] at m5
          have HF := Lib.hid hm5
          clear hm5
          go_wp2_with fail
          repeat (go_quiet (fail); try go_wp2)
          go_ret
          exact ⟨by rw [HR.out, HF.out, decide_eq_true h5]; rfl, by first | exact HB.out | exact pw_below_drewN HB.out _ | exact pw_below_drewN (pw_below_drewN HB.out _) _⟩
      · go_wp2_with fail
        repeat (go_quiet (fail); try go_wp2)
        go_ret
        exact ⟨by rw [HR.out, decide_eq_false h5, Bool.and_false]; rfl, by first | exact HB.out | exact pw_below_drewN HB.out _ | exact pw_below_drewN (pw_below_drewN HB.out _) _⟩
end Go.Proofs.Ytnooekflmjebiaa
namespace Go.Proofs.Ytnooekflmjebiaa
open Go Go.RowKit Go.Proofs.YtnooekflmjebiaaW.PrintWords Go.Proofs.Ytnooekflmjebiaa.PIdemPlays
set_option linter.unusedVariables false

theorem fgt_at (base : Int) : ∀ (h : List S42) (i : Nat) (m : S42), h[i]? = some m → (fgt base h)[i]? = some (if m.f4 < base then { m with f5 := true } else if remd m (h.drop (i + 1)) = true then m else { m with f5 := true })
  | [], i, m, hm => by simp at hm
  | x :: T, 0, m, hm => by
    simp at hm
    subst hm
    rfl
  | x :: T, i + 1, m, hm => by
    rw [List.getElem?_cons_succ] at hm
    rw [fgt, List.getElem?_cons_succ, fgt_at base T i m hm]
    rfl
theorem fgt_next {base : Int} {h : List S42} {i : Nat} {m : S42} (hm : h[i]? = some m) : (fgt base h).take (i + 1) = (fgt base h).take i ++ [if m.f4 < base then { m with f5 := true } else if remd m (h.drop (i + 1)) = true then m else { m with f5 := true }] := by
  rw [List.take_add_one, fgt_at base h i m hm]
  rfl
def mbox (m : S42) : Obj := .cells #[.int .i64 m.f0, .int .i16 m.f1, .int .i32 m.f2, .int .i64 m.f3, .int .i64 m.f4, .bool m.f5] 42 (0, 0)
def MBox (g : Nat) (m : S42) (W : World) : Prop :=
  W.cell? ⟨g, 0, none⟩ = some (.int .i64 m.f0) ∧ W.cell? ⟨g, 1, none⟩ = some (.int .i16 m.f1) ∧ W.cell? ⟨g, 2, none⟩ = some (.int .i32 m.f2) ∧ W.cell? ⟨g, 3, none⟩ = some (.int .i64 m.f3) ∧ W.cell? ⟨g, 4, none⟩ = some (.int .i64 m.f4) ∧ W.cell? ⟨g, 5, none⟩ = some (.bool m.f5)
theorem mbox_see {g : Nat} {m : S42} {W : World} (h : W.heap[g]? = some (mbox m)) : MBox g m W :=
  ⟨(blk_cell h 0).trans rfl, (blk_cell h 1).trans rfl, (blk_cell h 2).trans rfl, (blk_cell h 3).trans rfl, (blk_cell h 4).trans rfl, (blk_cell h 5).trans rfl⟩

set_option maxRecDepth 100000 in
set_option maxHeartbeats 8000000 in
theorem forgetR_any (A : Option Addr) (c : Nat) (h : List S42) (n : Nat) (base : Int) (w : World) (hr : Kd.C k42 w A h.length h) (hn : n = h.length) (hl : n ≤ 1000000000) :
    Calls Try.prog 14 #[.slice A n c, .int .i64 base] w fun e w' => ∃ v : Value, e = .returned v ∧ Kd.R k42 42 w' w.heap.size (fun _ => True) v (fgt base h) ∧ Below w.heap.size w w' := by
  have HN := Lib.hid hn
  have HC := Lib.hid hr
  clear hn hr
  go_enter Try.func14, Try.ntmps14
  have HO : Hid (Kd.R k42 42 (w.alloc (.cells #[] 42)) w.heap.size (fun _ => True) (.slice (some ⟨w.heap.size, 0, none⟩) 0 0) ([] : List S42)) :=
    ⟨fun _ _ => trivial, [], ⟨rfl, .inr ⟨w.heap.size, 0, #[], rfl, Nat.le_refl _, heap_alloc_new _ _, Nat.le_refl _, by decide, by decide, rfl⟩⟩, ⟨rfl, fun j p hj => by simp at hj⟩⟩
  go_wp2_with fail
  go_loopw [5, 6] (fun v ii wr => ∃ i : Nat, i ≤ n ∧ ii = .int .i64 (i : Int) ∧ Hid (Kd.R k42 42 wr w.heap.size (fun _ => True) v ((fgt base h).take i)) ∧ Hid (Below w.heap.size w wr)) (fun _ ii _ => n - (intOf ii).toNat)
  case atStart => exact ⟨0, Nat.zero_le _, rfl, HO.out, (Below.refl _ _).alloc (Nat.le_refl _) _⟩
  case round =>
    obtain ⟨i, hi', rfl, HR, HB⟩ := hrel
    rename World => wo
    by_cases hin : i < n
    · obtain ⟨m, hm⟩ : ∃ m, h[i]? = some m := ⟨_, List.getElem?_eq_getElem (by have := HN.out; omega)⟩
      have hC := Kd.C_below HC.out HB.out
      obtain ⟨b, o, rfl, hb, hat⟩ := C_marks hC (by have := HN.out; omega) rfl
      obtain ⟨m0, m1, m2, m3, m4, m5⟩ := hat i m hm
      have HM := Lib.hid hm
      have HNX := Lib.hid (fgt_next (base := base) hm)
      have HCC := Lib.hid hC
      clear hat hC hm
      have hLn : ((fgt base h).take i).length + 1 ≤ 1000000001 := by
        have := List.length_take_le i (fgt base h)
        omega
      have HLn := Lib.hid hLn
      clear hLn
      by_cases h4 : m.f4 < base
      · have e4 : decide (m.f4 < base) = true := decide_eq_true h4
        have H4 := Lib.hid h4
        clear h4
        have HRW := Lib.hid (Kd.R_alloc HR.out (.cells #[.int .i64 m.f0, .int .i16 m.f1, .int .i32 m.f2, .int .i64 m.f3, .int .i64 m.f4, .bool true] 42))
        have HBW : Hid (Below w.heap.size w (wo.alloc (.cells #[.int .i64 m.f0, .int .i16 m.f1, .int .i32 m.f2, .int .i64 m.f3, .int .i64 m.f4, .bool true] 42))) := HB.out.alloc HB.out.size _
        go_wp2_with (at_builtin; refine Kd.R_append k42 (w0 := w) w.heap.size rfl _ _ 34 42 (.agg #[.int .i64 0, .int .i16 0, .int .i32 0, .int .i64 0, .int .i64 0, .bool false]) 40 rfl Try.underlying34 info42 rfl (by decide) (by decide) u5 ((fgt base h).take i) { m with f5 := true } _ (fun _ => True) (fun _ => False) rfl (by rw [World.size_alloc]; rfl) (k42_mkM _ _ _ { m with f5 := true }) (fun _ h => h.elim) (fun _ _ => trivial) HRW.out HBW.out HBW.out.size (by have := HLn.out; omega) ?_; intro v7 w7 hr7 hb7 hg7 hat7; have HR7 := Lib.hid hr7; have HB7 := Lib.hid hb7; clear hr7 hb7 hg7 hat7)
        go_roundw
        case rel => exact ⟨i + 1, by omega, by go_num, by rw [HNX.out, if_pos H4.out]; exact HR7.out, HB7.out⟩
        case measure => simp [intOf]; omega
      · have e4 : decide (m.f4 < base) = false := decide_eq_false h4
        have H4 := Lib.hid h4
        clear h4
        have HBX : Hid ((wo.alloc (.cells #[.int .i64 m.f0, .int .i16 m.f1, .int .i32 m.f2, .int .i64 m.f3, .int .i64 m.f4, .bool m.f5] 42)).heap[wo.heap.size]? = some (mbox m)) := heap_alloc_new _ _
        have HRB := Lib.hid (Kd.R_alloc (Kd.R_bound HR.out) (.cells #[.int .i64 m.f0, .int .i16 m.f1, .int .i32 m.f2, .int .i64 m.f3, .int .i64 m.f4, .bool m.f5] 42))
        have HBB : Hid (Below w.heap.size w (wo.alloc (.cells #[.int .i64 m.f0, .int .i16 m.f1, .int .i32 m.f2, .int .i64 m.f3, .int .i64 m.f4, .bool m.f5] 42))) := HB.out.alloc HB.out.size _
        have HC6 : Hid (Kd.C k42 (wo.alloc (.cells #[.int .i64 m.f0, .int .i16 m.f1, .int .i32 m.f2, .int .i64 m.f3, .int .i64 m.f4, .bool m.f5] 42)) (some ⟨b, o, none⟩) h.length h) := Kd.C_below HCC.out ((Below.refl _ _).alloc (Nat.le_refl _) _)
        cases hrm : remd m (h.drop (i + 1)) with
        | true =>
          have HRM := Lib.hid hrm
          clear hrm
          go_wp2_with (first | (go_at_call 32; refine (remembered_any _ _ h i n m _ HC6.out HM.out HN.out hl).mono ?_; rintro e w6 ⟨he, hb6⟩; rw [HRM.out] at he; subst he; obtain ⟨p0, p1, p2, p3, p4, p5⟩ := mbox_see (blk_below HBX.out hb6); have p6 := blk_frozen (show w6.heap[wo.heap.size]? = some (.cells #[.int .i64 m.f0, .int .i16 m.f1, .int .i32 m.f2, .int .i64 m.f3, .int .i64 m.f4, .bool m.f5] 42 (0, 0)) from blk_below HBX.out hb6) 5; have p7 := blk_lt (show w6.heap[wo.heap.size]? = some (.cells #[.int .i64 m.f0, .int .i16 m.f1, .int .i32 m.f2, .int .i64 m.f3, .int .i64 m.f4, .bool m.f5] 42 (0, 0)) from blk_below HBX.out hb6); have HR6 := Lib.hid (Kd.R_below HRB.out hb6); have HB6 := Lib.hid (HBB.out.trans (hb6.mono HBB.out.size)); clear hb6) | (at_builtin; refine Kd.R_append k42 (w0 := w) w.heap.size rfl _ _ 34 42 (.agg #[.int .i64 0, .int .i16 0, .int .i32 0, .int .i64 0, .int .i64 0, .bool false]) 40 rfl Try.underlying34 info42 rfl (by decide) (by decide) u5 ((fgt base h).take i) m _ (fun _ => True) (fun _ => False) rfl rfl (k42_mkM _ _ _ m) (fun _ h => h.elim) (fun _ _ => trivial) (Kd.R_mono HR6.out (fun _ _ => trivial)) HB6.out HB6.out.size (by have := HLn.out; omega) ?_; intro v7 w7 hr7 hb7 hg7 hat7; have HR7 := Lib.hid hr7; have HB7 := Lib.hid hb7; clear hr7 hb7 hg7 hat7))
          go_roundw
          case rel => exact ⟨i + 1, by omega, by go_num, by rw [HNX.out, if_neg (show ¬ m.f4 < base by have := H4.out; omega), if_pos HRM.out]; exact HR7.out, HB7.out⟩
          case measure => simp [intOf]; omega
        | false =>
          have HRM := Lib.hid hrm
          clear hrm
          go_wp2_with (first | (go_at_call 32; refine (remembered_any _ _ h i n m _ HC6.out HM.out HN.out hl).mono ?_; rintro e w6 ⟨he, hb6⟩; rw [HRM.out] at he; subst he; obtain ⟨p0, p1, p2, p3, p4, p5⟩ := mbox_see (blk_below HBX.out hb6); have p6 := blk_frozen (show w6.heap[wo.heap.size]? = some (.cells #[.int .i64 m.f0, .int .i16 m.f1, .int .i32 m.f2, .int .i64 m.f3, .int .i64 m.f4, .bool m.f5] 42 (0, 0)) from blk_below HBX.out hb6) 5; have p7 := blk_lt (show w6.heap[wo.heap.size]? = some (.cells #[.int .i64 m.f0, .int .i16 m.f1, .int .i32 m.f2, .int .i64 m.f3, .int .i64 m.f4, .bool m.f5] 42 (0, 0)) from blk_below HBX.out hb6); have HR6 := Lib.hid (Kd.R_below HRB.out hb6); have HB6 := Lib.hid (HBB.out.trans (hb6.mono HBB.out.size)); clear hb6) | (at_builtin; refine Kd.R_append k42 (w0 := w) w.heap.size rfl _ _ 34 42 (.agg #[.int .i64 0, .int .i16 0, .int .i32 0, .int .i64 0, .int .i64 0, .bool false]) 40 rfl Try.underlying34 info42 rfl (by decide) (by decide) u5 ((fgt base h).take i) { m with f5 := true } _ (fun _ => True) (fun _ => False) rfl (by rw [World.size_setCell]; rfl) (k42_mkM _ _ _ { m with f5 := true }) (fun _ h => h.elim) (fun _ _ => trivial) (Kd.R_mono (Kd.R_far (p := ⟨wo.heap.size, 5, none⟩) HR6.out (fun k hk => by have := hk.2.2.1; simp only; omega) (.bool true)) (fun _ _ => trivial)) (HB6.out.setCell (p := ⟨wo.heap.size, 5, none⟩) HB.out.size (.bool true)) (HB6.out.setCell (p := ⟨wo.heap.size, 5, none⟩) HB.out.size (.bool true)).size (by have := HLn.out; omega) ?_; intro v7 w7 hr7 hb7 hg7 hat7; have HR7 := Lib.hid hr7; have HB7 := Lib.hid hb7; clear hr7 hb7 hg7 hat7))
          go_roundw
          case rel => exact ⟨i + 1, by omega, by go_num, by rw [HNX.out, if_neg (show ¬ m.f4 < base by have := H4.out; omega), if_neg (by rw [HRM.out]; simp)]; exact HR7.out, HB7.out⟩
          case measure => simp [intOf]; omega
    · obtain rfl : i = n := by omega
      have hfull : (fgt base h).take i = fgt base h := List.take_of_length_le (by rw [fgt_length, ← HN.out]; exact Nat.le_refl _)
      rw [hfull] at HR
      go_wp2_with fail
      go_ret
      exact ⟨_, rfl, HR.out, HB.out⟩
end Go.Proofs.Ytnooekflmjebiaa
