/- The reference's walks: Size, Next, holds, At, Since. -/
import Derived.Test.YtomlhedichdkkaaHolds
namespace Go.Proofs.Ytomlhedichdkkaa
open Go Go.RowKit
set_option linter.unusedVariables false

/-- The reference's index lies at a box. -/
def RBox (w : World) (b : Nat) (base : Int) (v : Value) : Prop := w.heap[b]? = some (.cells #[.int .i64 base, v] 47)
theorem rbox (w : World) (base : Int) (v : Value) : RBox (w.alloc (.cells #[.int .i64 base, v] 47)) w.heap.size base v := heap_alloc_new w _
section
variable {w w' : World} {b : Nat} {base : Int} {v : Value} (h : RBox w b base v)
include h
theorem RBox.c : w.cell? ⟨b, 0, none⟩ = some (.int .i64 base) ∧ w.cell? ⟨b, 1, none⟩ = some v := by
  have k := fun j => cell_of_row w b j _ _ _ h
  exact ⟨k 0, k 1⟩
theorem RBox.free (i : Nat) : w.frozen? ⟨b, i, none⟩ = false := by
  unfold RBox at h
  simp [World.frozen?, h]
theorem RBox.lt : b < w.heap.size := (Array.getElem?_eq_some_iff.1 h).1
theorem RBox.below {B : Nat} (hb : Below B w w') (hl : b < B) : RBox w' b base v := (hb.block b hl).trans h
end

theorem size_step {L : List Ent} {m : Nat} {e : Ent} (h : L[m]? = some e) : sizSum (L.take (m + 1)) = sizSum (L.take m) + e.size := by
  rw [take_snoc' h, sizSum_append, sizSum_one]

set_option maxHeartbeats 1000000 in
theorem rsize_any (w : World) (base : Int) (L : List Ent) (A : Option Addr) (c n : Nat) (hn : L.length = n) (hm : n ≤ 2513175970000) (hv : Valid base L) (hr : Row w A L) :
    Calls Try.prog 23 #[.agg #[.int .i64 base, .slice A n c]] w fun r w' => r = .returned (.int .i64 (sizeOf L)) ∧ Below w.heap.size w w' := by
  have HN := Lib.hid hn
  have HV := Lib.hid hv
  have hb1 := (Below.refl w.heap.size w).alloc (Nat.le_refl _) (.cells #[.int .i64 base, .slice A n c] 47)
  have hbx := rbox w base (.slice A n c)
  have B1 := Lib.hid hb1
  have X1 := Lib.hid hbx
  have R1 := Lib.hid (hr.below' hb1)
  obtain ⟨k0, k1⟩ := hbx.c
  clear hn hr hv hb1 hbx
  go_enter Try.func23, Try.ntmps23
  go_wp2_with fail
  generalize w.alloc (.cells #[.int .i64 base, .slice A n c] 47) = W1 at *
  go_loopw [3, 4] (fun s i wr => ∃ m : Nat, i = .int .i64 (m : Int) ∧ s = .int .i64 (sizSum (L.take m)) ∧ m ≤ n ∧ Below W1.heap.size W1 wr) (fun _ i _ => n - (intOf i).toNat)
  case atStart => exact ⟨0, rfl, rfl, Nat.zero_le _, Below.refl _ _⟩
  case round =>
    obtain ⟨m, rfl, rfl, hmn, hbr⟩ := hrel
    have BR := Lib.hid hbr
    obtain ⟨q0, q1⟩ := (X1.out.below hbr X1.out.lt).c
    by_cases hlt : m < n
    · obtain ⟨e, he⟩ : ∃ e, L[m]? = some e := ⟨_, List.getElem?_eq_getElem (by rw [HN.out]; exact hlt)⟩
      obtain ⟨b, o, rfl, hbl, hc⟩ := R1.out (by rw [HN.out]; omega)
      obtain ⟨d0, d1, d2, d3, d4, d5, d6, d7⟩ := (hc m e he).below hbr hbl
      have HS := Lib.hid (size_step he)
      obtain ⟨_, _, _, _, s1, s2, _⟩ := HV.out.ent m e he
      have hsm := HV.out.sums m (by rw [HN.out]; exact hmn)
      have hs1 : 0 ≤ sizSum (L.take m) := by omega
      have hs2 : sizSum (L.take m) ≤ 36000 * (m : Int) := by omega
      clear hc he hbr hsm
      have hq1 : (0 : Int) ≤ (m : Int) := by omega
      have hq2 : (m : Int) < (n : Int) := by omega
      generalize sizSum (L.take m) = sm at *
      have hw : IntKind.i64.wrap (sm + e.size) = sm + e.size := IntWalk.i64_in _ (by omega)
      go_wp2_with fail
      go_roundw
      case rel => exact ⟨m + 1, by go_num, by rw [HS.out], by omega, BR.out⟩
      case measure => simp [intOf]; omega
    · have : m = n := by omega
      subst this
      clear hbr
      go_wp2_with fail
      go_ret
      refine ⟨?_, B1.out.trans (BR.out.mono B1.out.size)⟩
      rw [← HN.out, List.take_length]; rfl

/-- The reference's Next: base, or the last entry's end. -/
def refNext (base : Int) (L : List Ent) (m : Nat) : Int := base + cntSum (L.take m)

set_option maxHeartbeats 1000000 in
theorem rnext_any (w : World) (base : Int) (L : List Ent) (A : Option Addr) (c n : Nat) (hn : L.length = n) (hm : n ≤ 2513175970000) (hv : Valid base L) (hr : Row w A L) :
    Calls Try.prog 22 #[.agg #[.int .i64 base, .slice A n c]] w fun r w' => r = .returned (.int .i64 (nextOf base L)) ∧ Below w.heap.size w w' := by
  have HN := Lib.hid hn
  have HV := Lib.hid hv
  have hb1 := (Below.refl w.heap.size w).alloc (Nat.le_refl _) (.cells #[.int .i64 base, .slice A n c] 47)
  have hbx := rbox w base (.slice A n c)
  have B1 := Lib.hid hb1
  have X1 := Lib.hid hbx
  have R1 := Lib.hid (hr.below' hb1)
  obtain ⟨k0, k1⟩ := hbx.c
  clear hn hr hv hb1 hbx
  go_enter Try.func22, Try.ntmps22
  go_wp2_with fail
  generalize w.alloc (.cells #[.int .i64 base, .slice A n c] 47) = W1 at *
  go_loopw [3, 4] (fun s i wr => ∃ m : Nat, i = .int .i64 (m : Int) ∧ s = .int .i64 (refNext base L m) ∧ m ≤ n ∧ Below W1.heap.size W1 wr) (fun _ i _ => n - (intOf i).toNat)
  case atStart => exact ⟨0, rfl, by simp [refNext, cntSum], Nat.zero_le _, Below.refl _ _⟩
  case round =>
    obtain ⟨m, rfl, rfl, hmn, hbr⟩ := hrel
    have BR := Lib.hid hbr
    obtain ⟨q0, q1⟩ := (X1.out.below hbr X1.out.lt).c
    by_cases hlt : m < n
    · obtain ⟨e, he⟩ : ∃ e, L[m]? = some e := ⟨_, List.getElem?_eq_getElem (by rw [HN.out]; exact hlt)⟩
      obtain ⟨b, o, rfl, hbl, hc⟩ := R1.out (by rw [HN.out]; omega)
      obtain ⟨d0, d1, d2, d3, d4, d5, d6, d7⟩ := (hc m e he).below hbr hbl
      obtain ⟨e1, _, c1, c2, _, _, e7⟩ := HV.out.ent m e he
      have HS := Lib.hid (show refNext base L (m + 1) = e.base + e.count by unfold refNext; rw [take_snoc' he, cntSum_append, cntSum_one]; omega)
      have hsm := HV.out.sums m (by rw [HN.out]; exact hmn)
      have hlo := HV.out.lo
      have hs1 : -9223372036854775808 ≤ e.base := by omega
      clear hc he hbr hsm e1 hlo
      have hq1 : (0 : Int) ≤ (m : Int) := by omega
      have hq2 : (m : Int) < (n : Int) := by omega
      have hw : IntKind.i64.wrap (e.base + e.count) = e.base + e.count := IntWalk.i64_in _ (by omega)
      generalize refNext base L m = sm at *
      go_wp2_with fail
      go_region
      go_wp2_with fail
      go_roundw
      case rel => exact ⟨m + 1, by go_num, by rw [HS.out], by omega, BR.out.drew⟩
      case measure => simp [intOf]; omega
    · have : m = n := by omega
      subst this
      clear hbr
      go_wp2_with fail
      go_ret
      refine ⟨?_, B1.out.trans (BR.out.mono B1.out.size)⟩
      unfold refNext nextOf
      rw [← HN.out, List.take_length]
      rfl

theorem rholds_any (e : Ent) (k : Int) (w : World) (h0 : -9223372036854775808 ≤ e.base) (h1 : e.base + e.count ≤ 4611686018427387904) (h2 : 1 ≤ e.count) (h3 : e.count ≤ 256) :
    Calls Try.prog 38 #[e.val, .int .i64 k] w fun r w' => r = .returned (.bool (holdsB k e)) ∧ Below w.heap.size w w' := by
  have HB := Lib.hid ((Below.refl w.heap.size w).alloc (Nat.le_refl _) (.cells #[.int .i64 e.base, .int .i64 e.count, .int .i64 e.at_, .int .i64 e.size, .int .i64 e.last, .int .i64 e.pid, .int .i16 e.pep, .int .i32 e.seq] 30))
  have hw : IntKind.i64.wrap (e.base + e.count) = e.base + e.count := IntWalk.i64_in _ (by omega)
  unfold Ent.val
  by_cases hk1 : e.base ≤ k
  · by_cases hk2 : k < e.base + e.count
    · go_enter Try.func38, Try.ntmps38
      go_wp2_with fail
      go_ret
      exact ⟨by simp [holdsB, hk1, hk2], HB.out⟩
    · go_enter Try.func38, Try.ntmps38
      go_wp2_with fail
      go_ret
      exact ⟨by simp [holdsB, hk1, hk2], HB.out⟩
  · go_enter Try.func38, Try.ntmps38
    go_wp2_with fail
    go_ret
    exact ⟨by simp [holdsB]; omega, HB.out⟩

/-- The cells of a struct's result that is made at the head. -/
theorem putRes (w : World) (b : Nat) (x e : Ent) (h : BoxAt w b x) : BoxAt (putEnt w b e) b e := h.put e

section
variable (w : World) (base : Int) (L : List Ent) (A : Option Addr) (c n : Nat) (hn : L.length = n) (hm : n ≤ 2513175970000) (hr : Row w A L)
include hn hm hr

set_option maxRecDepth 20000 in
set_option maxHeartbeats 2000000 in
theorem rsince_any (t : Int) : Calls Try.prog 32 #[.agg #[.int .i64 base, .slice A n c], .int .i64 t] w fun r w' => r = .returned (optAns (L.find? (isLate t))) ∧ Below w.heap.size w w' := by
  have HN := Lib.hid hn
  have hb1 := (Below.refl w.heap.size w).alloc (Nat.le_refl _) (.cells #[.int .i64 base, .slice A n c] 47)
  have hbx := rbox w base (.slice A n c)
  have hbz := boxAt (w.alloc (.cells #[.int .i64 base, .slice A n c] 47)) Ent.zero
  have hb2 := hb1.alloc hb1.size (.cells #[.int .i64 0, .int .i64 0, .int .i64 0, .int .i64 0, .int .i64 0, .int .i64 0, .int .i16 0, .int .i32 0] 30)
  have hs1 : (w.alloc (.cells #[.int .i64 base, .slice A n c] 47)).heap.size = w.heap.size + 1 := by simp
  simp only [Ent.zero] at hbz
  rw [hs1] at hbz
  have B2 := Lib.hid hb2
  have Z2 := Lib.hid hbz
  have X2 := Lib.hid (hbx.below ((Below.refl _ _).alloc (Nat.le_refl _) (.cells #[.int .i64 0, .int .i64 0, .int .i64 0, .int .i64 0, .int .i64 0, .int .i64 0, .int .i16 0, .int .i32 0] 30)) hbx.lt)
  have R2 := Lib.hid (hr.below' hb2)
  clear hn hr hb1 hbx hbz hb2 hs1
  go_enter Try.func32, Try.ntmps32
  go_wp2_with fail
  generalize (w.alloc (.cells #[.int .i64 base, .slice A n c] 47)).alloc (.cells #[.int .i64 0, .int .i64 0, .int .i64 0, .int .i64 0, .int .i64 0, .int .i64 0, .int .i16 0, .int .i32 0] 30) = W2 at *
  go_loopw [6] (fun i wr => ∃ m : Nat, i = .int .i64 (m : Int) ∧ m ≤ n ∧ Below W2.heap.size W2 wr ∧ ∀ (j : Nat) (x : Ent), j < m → L[j]? = some x → isLate t x = false) (fun i _ => n - (intOf i).toNat)
  case atStart => exact ⟨0, rfl, Nat.zero_le _, Below.refl _ _, fun j x hj => absurd hj (by omega)⟩
  case round =>
    obtain ⟨m, rfl, hmn, hbr, hno⟩ := hrel
    have BR := Lib.hid hbr
    have NO := Lib.hid hno
    obtain ⟨q0, q1⟩ := (X2.out.below hbr X2.out.lt).c
    have hz := Z2.out.below hbr (Array.getElem?_eq_some_iff.1 Z2.out).1
    obtain ⟨z0, z1, z2, z3, z4, z5, z6, z7⟩ := hz.ent
    have zf := hz.free
    have BT := Lib.hid (B2.out.trans (hbr.mono B2.out.size))
    clear hno hz
    by_cases hlt : m < n
    · obtain ⟨e, he⟩ : ∃ e, L[m]? = some e := ⟨_, List.getElem?_eq_getElem (by rw [HN.out]; exact hlt)⟩
      have HE := Lib.hid he
      obtain ⟨b, o, rfl, hbl, hc⟩ := R2.out (by rw [HN.out]; omega)
      obtain ⟨d0, d1, d2, d3, d4, d5, d6, d7⟩ := (hc m e he).below hbr hbl
      clear hc he hbr
      have hq1 : (0 : Int) ≤ (m : Int) := by omega
      have hq2 : (m : Int) < (n : Int) := by omega
      by_cases hlate : t ≤ e.last
      · have HF := Lib.hid (find_at (p := isLate t) L m e HE.out (by simp [isLate, hlate]) NO.out)
        go_wp2_with fail
        refine bodyPost_ret (v := .tuple #[e.val, .bool true]) ?_ rfl ⟨?_, ?_⟩
        · rw [results_cell_tmp rfl]
          go_simp
          rfl
        · rw [HF.out]; rfl
        · iterate 8 refine Below.setCell ?_ (by show w.heap.size ≤ w.heap.size + 1; omega) _
          exact BT.out
      · go_wp2_with fail
        go_roundw
        case rel =>
          refine ⟨m + 1, by go_num, by omega, BR.out, fun j x hj hx => ?_⟩
          rcases Nat.lt_or_ge j m with h | h
          · exact NO.out j x h hx
          · obtain rfl : j = m := by omega
            rw [HE.out] at hx
            injection hx with hx
            subst hx
            simp [isLate]; omega
        case measure => simp [intOf]; omega
    · have hmn2 : m = n := by omega
      subst hmn2
      have HF := Lib.hid (find_no (p := isLate t) L fun j x hx => NO.out j x (by have := (List.getElem?_eq_some_iff.1 hx).1; rw [HN.out] at this; exact this) hx)
      clear hbr
      go_wp2_with fail
      refine bodyPost_ret (v := .tuple #[Ent.zero.val, .bool false]) ?_ rfl ⟨?_, ?_⟩
      · rw [results_cell_tmp rfl]
        go_simp
        rfl
      · rw [HF.out]; rfl
      · iterate 8 refine Below.setCell ?_ (by show w.heap.size ≤ w.heap.size + 1; omega) _
        exact BT.out
end
end Go.Proofs.Ytomlhedichdkkaa
