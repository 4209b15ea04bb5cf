/- Vint, Crc, Cursor as one text (a claim holds at most 60 files). -/
import Derived.Test.YtciikcmiiebfpaaGreatDoorBatP
import Derived.Test.YtciikcmiiebfpaaGreatDoorD1
import Derived.Lib.VarintBits
import Derived.OwnWalk

/- Vint -/
section
/- vint: read, Get, Get32. -/
namespace Go.Proofs.YtciikcmiiebfpaaGreatDoor
open Go Go.RowKit Go.Proofs.YtciikcmiiebfpaaGreatDoorW.PrintWords Go.Proofs.YtciikcmiiebfpaaGreatDoor.PTopicsGets Go.Proofs.YtciikcmiiebfpaaGreatDoorW.PrintMore
set_option linter.unusedVariables false
set_option linter.unusedSimpArgs false

/-- Bytes that are read. -/
abbrev CB (w : World) (A : Option Addr) (n : Nat) (l : Bs) : Prop := (Kd.int .u8).C w A n l
theorem cb_at {w : World} {A : Option Addr} {n : Nat} {l : Bs} (h : CB w A n l) {i : Nat} {x : Int} (hx : l[i]? = some x) : ∃ ad, A = some ad ∧ w.cell? (ad.add i) = some (.int .u8 x) := by
  have hl := (List.getElem?_eq_some_iff.1 hx).1
  have hn : n = l.length := (Kd.C_len h).symm
  obtain ⟨ad, e, hc⟩ := (Kd.reads_of_C (d := (0 : Int)) h).2.2 (by omega)
  refine ⟨ad, e, ?_⟩
  have := hc i (by omega)
  rw [List.getD_eq_getElem?_getD, hx] at this
  exact this
theorem xor_zero (x : Int) (h0 : 0 ≤ x) (h1 : x < 9223372036854775808) : Go.bits .xor .i64 x 0 = x := by
  show IntKind.i64.wrap (((BitVec.ofInt 64 x ^^^ BitVec.ofInt 64 0 : BitVec 64).toNat : Nat) : Int) = x
  have e : BitVec.ofInt 64 0 = 0#64 := by decide
  rw [e, BitVec.xor_zero, BitVec.toNat_ofInt]; simp [IntKind.wrap, IntKind.bits, IntKind.signed]; omega
theorem xor_ones (x : Int) (h0 : 0 ≤ x) (h1 : x < 9223372036854775808) : Go.bits .xor .i64 x (-1) = -x - 1 := by
  show IntKind.i64.wrap (((BitVec.ofInt 64 x ^^^ BitVec.ofInt 64 (-1) : BitVec 64).toNat : Nat) : Int) = -x - 1
  have e : BitVec.ofInt 64 (-1) = BitVec.allOnes 64 := by decide
  rw [e, BitVec.xor_allOnes, BitVec.toNat_not, BitVec.toNat_ofInt]; simp [IntKind.wrap, IntKind.bits, IntKind.signed]; omega
theorem and_one (x : Int) (h0 : 0 ≤ x) (h1 : x < 18446744073709551616) : Go.bits .and .u64 x 1 = x % 2 := bits_mask .u64 64 (by decide) wraps_u64 1 (by decide) x h0 h1
/-- Seven bits more. -/
theorem or_step (i : Nat) (hi : i ≤ 9) (u c : Int) (h0 : 0 ≤ u) (hu : u < 2 ^ (7 * i)) (hc0 : 0 ≤ c) (hc : c ≤ 255) (ht : i = 9 → c % 128 ≤ 1) :
    Go.bits .or .u64 u (c % 128 * 2 ^ (7 * i)) = u + c % 128 * 2 ^ (7 * i) ∧ 0 ≤ c % 128 * 2 ^ (7 * i) ∧ c % 128 * 2 ^ (7 * i) < 18446744073709551616 := by
  have hm : 0 ≤ c % 128 ∧ c % 128 ≤ 127 := by omega
  generalize c % 128 = m at *
  have : i = 0 ∨ i = 1 ∨ i = 2 ∨ i = 3 ∨ i = 4 ∨ i = 5 ∨ i = 6 ∨ i = 7 ∨ i = 8 ∨ i = 9 := by omega
  rcases this with h | h | h | h | h | h | h | h | h | h <;> subst h <;> simp only [Nat.reduceMul, Int.reducePow] at hu ⊢
  · exact ⟨u64_orv0 _ _ h0 hu (by omega) (by omega) (by omega), by omega, by omega⟩
  · exact ⟨u64_orv7 _ _ h0 hu (by omega) (by omega) (by omega), by omega, by omega⟩
  · exact ⟨u64_orv14 _ _ h0 hu (by omega) (by omega) (by omega), by omega, by omega⟩
  · exact ⟨u64_orv21 _ _ h0 hu (by omega) (by omega) (by omega), by omega, by omega⟩
  · exact ⟨u64_orv28 _ _ h0 hu (by omega) (by omega) (by omega), by omega, by omega⟩
  · exact ⟨u64_orv35 _ _ h0 hu (by omega) (by omega) (by omega), by omega, by omega⟩
  · exact ⟨u64_orv42 _ _ h0 hu (by omega) (by omega) (by omega), by omega, by omega⟩
  · exact ⟨u64_orv49 _ _ h0 hu (by omega) (by omega) (by omega), by omega, by omega⟩
  · exact ⟨u64_orv56 _ _ h0 hu (by omega) (by omega) (by omega), by omega, by omega⟩
  · have := ht rfl
    exact ⟨u64_orv63 _ _ h0 hu (by omega) (by omega) (by omega), by omega, by omega⟩

theorem trip_eq {k1 k2 k3 : IntKind} {a b c a' b' c' : Int} (h1 : a = a') (h2 : b = b') (h3 : c = c') : Ending.returned (.tuple #[.int k1 a, .int k2 b, .int k3 c]) = .returned (.tuple #[.int k1 a', .int k2 b', .int k3 c']) := by rw [h1, h2, h3]
theorem read_any (A : Option Addr) (n c : Nat) (l : Bs) (hb : Byt l) (at_ : Int) (most : Nat) (top : Int) (hm : (most = 10 ∧ top = 1) ∨ (most = 5 ∧ top = 15)) (hn : n ≤ c) (hl : l.length = n) (hs : n < 4611686018427387904) (w : World) (HB : CB w A n l) :
    Calls Tryz.prog 221 #[.slice A n c, .int .i64 at_, .int .i64 most, .int .u8 top] w fun r w' => w' = w ∧ r = .returned (.tuple #[.int .u64 (vread l at_ most top).1, .int .i64 (vread l at_ most top).2.1, .int .i64 (vread l at_ most top).2.2]) := by
  have HBY := Lib.hid hb
  have HBC := Lib.hid HB
  by_cases h1 : at_ < 0
  · have HV := Lib.hid (show vread l at_ most top = (0, 0, 3) by unfold vread; rw [if_pos (Or.inl h1)])
    clear hb HB hm
    go_enter Tryz.func221, Tryz.ntmps221
    go_wp2_with fail
    go_ret3
    exact ⟨rfl, by rw [HV.out]; rfl⟩
  by_cases h2 : (l.length : Int) < at_
  · have HV := Lib.hid (show vread l at_ most top = (0, 0, 3) by unfold vread; rw [if_pos (Or.inr h2)])
    clear hb HB hm
    rw [hl] at h2
    go_enter Tryz.func221, Tryz.ntmps221
    go_wp2_with fail
    go_ret3
    exact ⟨rfl, by rw [HV.out]; rfl⟩
  obtain ⟨j, rfl⟩ := Int.eq_ofNat_of_zero_le (Int.not_lt.1 h1)
  have hjl : j ≤ l.length := by omega
  have HJ := Lib.hid hjl
  obtain ⟨i0, hi0, _, hsz, _⟩ := info_parts info5
  obtain ⟨A1, hcut, hA, hC⟩ := print_drop_of (P := Tryz.prog) (Value.int .u8) (0 : Int) 51 5 .i64 Tryz.underlying51 hi0 hsz A c l (j : Int) (by omega) (by omega) (by omega)
  rw [hl] at hcut
  clear hi0 hsz
  have HM := Lib.hid (show CB w A1 (l.drop j).length (l.drop j) from Kd.C_of_reads (h1 := fun _ => rfl) (hA _ (by have := Kd.reads_of_C (d := (0 : Int)) HB; rw [← hl] at this; exact this)))
  have HMB := Lib.hid (hb.drop j)
  have hvr : vread l j most top = (match vgo most top 0 0 (l.drop j) with | (u, n, e) => if e = 0 then (u, (j : Int) + n, 0) else (0, 0, e)) := by
    unfold vread; rw [if_neg (by omega)]; rfl
  have hlen : (l.drop j).length ≤ l.length := by rw [List.length_drop]; omega
  have hjm : j + (l.drop j).length = n := by rw [List.length_drop]; omega
  simp only [Int.toNat_natCast] at hcut hC
  generalize l.drop j = m at *
  have HV := Lib.hid hvr
  have hmost : 1 ≤ most ∧ most ≤ 10 := by omega
  have htop : 0 ≤ top ∧ top < 128 ∧ (most = 10 → top = 1) := by omega
  clear hb HB hvr hA HBC HBY hm
  go_enter Tryz.func221, Tryz.ntmps221
  go_wp2_with fail
  go_loopw [11, 26] (fun v11 v26 wr => ∃ (i : Nat) (u : Int), v11 = .int .u64 u ∧ v26 = .int .i64 (i : Int) ∧ i ≤ m.length ∧ 0 ≤ u ∧ u < 2 ^ (7 * i) ∧ i < most ∧ vgo most top i u (m.drop i) = vgo most top 0 0 m ∧ wr = w) (fun _ v26 _ => m.length - (intOf v26).toNat)
  case atStart => exact ⟨0, 0, rfl, rfl, Nat.zero_le _, Int.le_refl _, by decide, by omega, rfl, rfl⟩
  case round =>
    obtain ⟨i, u, rfl, rfl, hi, h0, hu, hmi, hvg, hwr⟩ := hrel
    subst hwr
    by_cases c1 : i < m.length
    · obtain ⟨x, hx⟩ : ∃ x, m[i]? = some x := ⟨_, List.getElem?_eq_getElem c1⟩
      obtain ⟨ad, rfl, hcell⟩ := cb_at HM.out hx
      have hxb := HMB.out.at hx
      have hdrop : m.drop i = x :: m.drop (i + 1) := by
        rw [List.getElem?_eq_getElem c1] at hx
        rw [List.drop_eq_getElem_cons c1, Option.some.inj hx]
      rw [hdrop] at hvg
      simp only [vgo] at hvg
      have HX := Lib.hid hxb
      clear hx hdrop
      by_cases c2 : i + 1 = most
      · by_cases c3 : top < x
        · rw [if_pos ⟨c2, c3⟩] at hvg
          have HR := Lib.hid (show vread l j most top = (0, 0, 21) by rw [HV.out, ← hvg]; rfl)
          clear hvg
          go_wp2_with fail
          go_ret3
          exact ⟨rfl, by rw [HR.out]; rfl⟩
        · rw [if_neg (fun h => c3 h.2)] at hvg
          have hmi1 : most - 1 = i := by omega
          have hor := or_step i (by omega) u x h0 hu HX.out.1 HX.out.2 (by have := HX.out; omega)
          have HAND := Lib.hid (show Go.bits .and .u8 x 127 = x % 128 ∧ IntKind.u64.wrap (x % 128) = x % 128 ∧ IntKind.u64.wrap (x % 128 * 2 ^ (7 * i)) = x % 128 * 2 ^ (7 * i) from ⟨u8_and127 _ HX.out.1 (by have := HX.out; omega), wraps_u64 _ (by omega) (by omega), wraps_u64 _ hor.2.1 (by have := hor.2.2; omega)⟩)
          have HOR := Lib.hid hor
          clear hor
          rw [if_neg (by omega)] at hvg
          by_cases c5 : x = 0
          · by_cases c6 : 0 < i
            · rw [if_pos ⟨c5, c6⟩] at hvg
              have HR := Lib.hid (show vread l j most top = (0, 0, 20) by rw [HV.out, ← hvg]; rfl)
              clear hvg
              go_wp2_with fail
              go_ret3
              exact ⟨rfl, by rw [HR.out]; rfl⟩
            · rw [if_neg (by omega)] at hvg
              have HR := Lib.hid (show vread l j most top = (u + x % 128 * 2 ^ (7 * i), (j : Int) + ((i + 1 : Nat) : Int), 0) by rw [HV.out, ← hvg]; rfl)
              clear hvg
              go_wp2_with fail
              go_ret3
              refine ⟨rfl, ?_⟩
              rw [HR.out]
              show _ = Ending.returned (.tuple #[.int .u64 (u + x % 128 * 2 ^ (7 * i)), .int .i64 ((j : Int) + ((i + 1 : Nat) : Int)), .int .i64 0])
              exact trip_eq (by rw [← c5]; simp only [HAND.out.1, HAND.out.2.1, HAND.out.2.2, hmi1, HOR.out.1]) (by omega) rfl
          · rw [if_neg (by omega)] at hvg
            have HR := Lib.hid (show vread l j most top = (u + x % 128 * 2 ^ (7 * i), (j : Int) + ((i + 1 : Nat) : Int), 0) by rw [HV.out, ← hvg]; rfl)
            clear hvg
            go_wp2_with fail
            go_ret3
            refine ⟨rfl, ?_⟩
            rw [HR.out]
            show _ = Ending.returned (.tuple #[.int .u64 (u + x % 128 * 2 ^ (7 * i)), .int .i64 ((j : Int) + ((i + 1 : Nat) : Int)), .int .i64 0])
            exact trip_eq (by simp only [HAND.out.1, HAND.out.2.1, HAND.out.2.2, hmi1, HOR.out.1]) (by omega) rfl
      · rw [if_neg (fun h => c2 h.1)] at hvg
        have hor := or_step i (by omega) u x h0 hu HX.out.1 HX.out.2 (by have := HX.out; omega)
        have HAND := Lib.hid (show Go.bits .and .u8 x 127 = x % 128 ∧ IntKind.u64.wrap (x % 128) = x % 128 ∧ IntKind.u64.wrap (x % 128 * 2 ^ (7 * i)) = x % 128 * 2 ^ (7 * i) from ⟨u8_and127 _ HX.out.1 (by have := HX.out; omega), wraps_u64 _ (by omega) (by omega), wraps_u64 _ hor.2.1 (by have := hor.2.2; omega)⟩)
        have HOR := Lib.hid hor
        clear hor
        by_cases c4 : 128 ≤ x
        · rw [if_pos c4] at hvg
          have HR := Lib.hid hvg
          clear hvg
          go_wp2_with fail
          go_roundw
          case rel =>
            refine ⟨i + 1, u + x % 128 * 2 ^ (7 * i), congrArg (Value.int .u64) (by simp only [HAND.out.1, HAND.out.2.1, HAND.out.2.2, HOR.out.1]), rfl, by omega, by have := HOR.out.2.1; omega, ?_, by omega, HR.out, trivial⟩
            rw [pow7]
            have := HX.out
            have h7 : x % 128 * 2 ^ (7 * i) ≤ 127 * 2 ^ (7 * i) := Int.mul_le_mul_of_nonneg_right (by omega) (Int.le_of_lt (pow7_pos i))
            omega
          case measure => simp [intOf]; omega
        · rw [if_neg (by omega)] at hvg
          by_cases c5 : x = 0
          · by_cases c6 : 0 < i
            · rw [if_pos ⟨c5, c6⟩] at hvg
              have HR := Lib.hid (show vread l j most top = (0, 0, 20) by rw [HV.out, ← hvg]; rfl)
              clear hvg
              go_wp2_with fail
              go_ret3
              exact ⟨rfl, by rw [HR.out]; rfl⟩
            · rw [if_neg (by omega)] at hvg
              have HR := Lib.hid (show vread l j most top = (u + x % 128 * 2 ^ (7 * i), (j : Int) + ((i + 1 : Nat) : Int), 0) by rw [HV.out, ← hvg]; rfl)
              clear hvg
              go_wp2_with fail
              go_ret3
              refine ⟨rfl, ?_⟩
              rw [HR.out]
              show _ = Ending.returned (.tuple #[.int .u64 (u + x % 128 * 2 ^ (7 * i)), .int .i64 ((j : Int) + ((i + 1 : Nat) : Int)), .int .i64 0])
              exact trip_eq (by rw [← c5]; simp only [HAND.out.1, HAND.out.2.1, HAND.out.2.2, HOR.out.1]) (by omega) rfl
          · rw [if_neg (by omega)] at hvg
            have HR := Lib.hid (show vread l j most top = (u + x % 128 * 2 ^ (7 * i), (j : Int) + ((i + 1 : Nat) : Int), 0) by rw [HV.out, ← hvg]; rfl)
            clear hvg
            go_wp2_with fail
            go_ret3
            refine ⟨rfl, ?_⟩
            rw [HR.out]
            show _ = Ending.returned (.tuple #[.int .u64 (u + x % 128 * 2 ^ (7 * i)), .int .i64 ((j : Int) + ((i + 1 : Nat) : Int)), .int .i64 0])
            exact trip_eq (by simp only [HAND.out.1, HAND.out.2.1, HAND.out.2.2, HOR.out.1]) (by omega) rfl
    · have HR := Lib.hid (show vread l j most top = (0, 0, 1) by rw [HV.out, ← hvg, List.drop_eq_nil_of_le (by omega)]; rfl)
      clear hvg
      go_wp2_with fail
      go_ret3
      exact ⟨rfl, by rw [HR.out]; rfl⟩

theorem zag_any (u : Int) (h0 : 0 ≤ u) (h1 : u < 18446744073709551616) (w : World) :
    Calls Tryz.prog 222 #[.int .u64 u] w fun r w' => w' = w ∧ r = .returned (.int .i64 (zag u)) := by
  have H1 := Lib.hid (and_one u h0 h1)
  have HZ := Lib.hid (show Go.bits .xor .i64 (u / 2) (wrap64 (-wrap64 (u % 2))) = zag u by
    unfold zag
    by_cases hp : u % 2 = 0
    · rw [hp, if_pos rfl]
      rw [show wrap64 (-wrap64 0) = 0 from by simp [wrap64, IntKind.wrap, IntKind.bits, IntKind.signed]]
      exact xor_zero (u / 2) (by omega) (by omega)
    · rw [if_neg hp, show u % 2 = 1 by omega]
      rw [show wrap64 (-wrap64 1) = -1 from by simp [wrap64, IntKind.wrap, IntKind.bits, IntKind.signed], xor_ones (u / 2) (by omega) (by omega)])
  go_enter Tryz.func222, Tryz.ntmps222
  go_wp2_with fail
  go_ret
  exact ⟨rfl, congrArg (fun z => Ending.returned (.int .i64 z)) (by rw [H1.out]; exact HZ.out)⟩
theorem zag_range {u : Int} {m : Int} (h0 : 0 ≤ u) (h1 : u < 2 * m) : -m ≤ zag u ∧ zag u < m := by
  unfold zag
  split <;> omega
theorem get_any (A : Option Addr) (n c : Nat) (l : Bs) (hb : Byt l) (at_ : Int) (hn : n ≤ c) (hl : l.length = n) (hs : n < 4611686018427387904) (w : World) (HB : CB w A n l) :
    Calls Tryz.prog 219 #[.slice A n c, .int .i64 at_] w fun r w' => w' = w ∧ r = .returned (.tuple #[.int .i64 (vget l at_).1, .int .i64 (vget l at_).2.1, .int .i64 (vget l at_).2.2]) := by
  have HR := read_any A n c l hb at_ 10 1 (Or.inl ⟨rfl, rfl⟩) hn hl hs w HB
  have hr := vread_range (b := l) (at_ := at_) (most := 10) (top := 1) hb (by decide) (by decide)
  have HZ := zag_any (vread l at_ 10 1).1 hr.1 (by have := hr.2; omega) w
  have HV := Lib.hid (show vget l at_ = (zag (vread l at_ 10 1).1, (vread l at_ 10 1).2.1, (vread l at_ 10 1).2.2) from rfl)
  rw [HV.out]
  generalize vread l at_ 10 1 = q at *
  obtain ⟨u, m, e⟩ := q
  clear hb HB hr HV
  go_enter Tryz.func219, Tryz.ntmps219
  go_wp2_with fail
  refine HR.mono ?_
  rintro r w1 ⟨rfl, rfl⟩
  clear HR
  go_wp2_with fail
  refine HZ.mono ?_
  rintro r w2 ⟨rfl, rfl⟩
  clear HZ
  go_wp2_with fail
  go_ret3
  exact ⟨rfl, rfl⟩
theorem get32_any (A : Option Addr) (n c : Nat) (l : Bs) (hb : Byt l) (at_ : Int) (hn : n ≤ c) (hl : l.length = n) (hs : n < 4611686018427387904) (w : World) (HB : CB w A n l) :
    Calls Tryz.prog 176 #[.slice A n c, .int .i64 at_] w fun r w' => w' = w ∧ r = .returned (.tuple #[.int .i32 (vget32 l at_).1, .int .i64 (vget32 l at_).2.1, .int .i64 (vget32 l at_).2.2]) := by
  have HR := read_any A n c l hb at_ 5 15 (Or.inr ⟨rfl, rfl⟩) hn hl hs w HB
  have hr := vread_range (b := l) (at_ := at_) (most := 5) (top := 15) hb (by decide) (by decide)
  have HZ := zag_any (vread l at_ 5 15).1 hr.1 (by have := hr.2; omega) w
  have hzr := zag_range (m := 2147483648) hr.1 (by have := hr.2; omega)
  have HV := Lib.hid (show vget32 l at_ = (zag (vread l at_ 5 15).1, (vread l at_ 5 15).2.1, (vread l at_ 5 15).2.2) from rfl)
  rw [HV.out]
  generalize vread l at_ 5 15 = q at *
  obtain ⟨u, m, e⟩ := q
  generalize zag u = z at *
  have HW := Lib.hid (show IntKind.i32.wrap z = z by simp [IntKind.wrap, IntKind.bits, IntKind.signed]; omega)
  clear hb HB hr HV
  go_enter Tryz.func176, Tryz.ntmps176
  go_wp2_with fail
  refine HR.mono ?_
  rintro r w1 ⟨rfl, rfl⟩
  clear HR
  go_wp2_with fail
  refine HZ.mono ?_
  rintro r w2 ⟨rfl, rfl⟩
  clear HZ
  go_wp2_with fail
  go_ret3
  exact ⟨rfl, rfl⟩
end Go.Proofs.YtciikcmiiebfpaaGreatDoor
end

/- Crc -/
section
/- crc.Update, Sum. -/
namespace Go.Proofs.YtciikcmiiebfpaaGreatDoor
open Go Go.RowKit Go.Proofs.YtciikcmiiebfpaaGreatDoorW.PrintWords Go.Proofs.YtciikcmiiebfpaaGreatDoor.PTopicsGets Go.Proofs.YtciikcmiiebfpaaGreatDoorW.PrintMore
set_option linter.unusedVariables false
set_option linter.unusedSimpArgs false

/-- crc.rows. -/
def rowsT : List Int := [0, 274646895, 549293790, 820201905, 1098587580, 1361435347, 1640403810, 1905808397, 2197175160, 2460548119, 2722870694, 2987750089, 3280807620, 3553878443, 3811616794, 4084100981]
def rowAt (i : Nat) : Int := rowsT.getD i 0
/-- The table lies at its place. -/
def Tab (w : World) : Prop := ∀ i : Nat, i < 16 → w.cell? ⟨1, i, none⟩ = some (.int .u32 (rowAt i))
def chalf (s : Int) : Int := Go.bits .xor .u32 (s / 16) (rowAt (Go.bits .and .u32 s 15).toNat)
def cstep (s x : Int) : Int := chalf (chalf (Go.bits .xor .u32 s (x % 4294967296)))
def cnot (s : Int) : Int := Go.bits .xor .u32 IntKind.u32.max s
/-- crc.Update. -/
def cupd (c : Int) (l : Bs) : Int := cnot (l.foldl cstep (cnot c))
theorem bits_u32 (o : BinOp) (x y : Int) (h : ∃ v, Go.bits o .u32 x y = IntKind.u32.wrap v) : 0 ≤ Go.bits o .u32 x y ∧ Go.bits o .u32 x y < 4294967296 := by
  obtain ⟨v, e⟩ := h
  rw [e]
  simp [IntKind.wrap, IntKind.bits, IntKind.signed]
  omega
theorem xor_u32 (x y : Int) : 0 ≤ Go.bits .xor .u32 x y ∧ Go.bits .xor .u32 x y < 4294967296 := bits_u32 .xor x y ⟨_, rfl⟩
theorem and15 (x : Int) (h0 : 0 ≤ x) (h1 : x < 4294967296) : Go.bits .and .u32 x 15 = x % 16 := bits_mask .u32 32 (by decide) wraps_u32 4 (by decide) x h0 h1

theorem and15_b (x : Int) (h0 : 0 ≤ x) (h1 : x < 4294967296) : 0 ≤ Go.bits .and .u32 x 15 ∧ Go.bits .and .u32 x 15 < 16 := by rw [and15 x h0 h1]; omega
theorem update_any (c0 : Int) (A : Option Addr) (n c : Nat) (l : Bs) (hb : Byt l) (hn : n ≤ c) (hl : l.length = n) (hs : n < 1073741824) (w : World) (HB : CB w A n l) (HT : Tab w) :
    Calls Tryz.prog 218 #[.int .u32 c0, .slice A n c] w fun r w' => w' = w ∧ r = .returned (.int .u32 (cupd c0 l)) := by
  have HBY := Lib.hid hb
  have HBC := Lib.hid HB
  have HTT := Lib.hid HT
  clear hb HB HT
  go_enter Tryz.func218, Tryz.ntmps218
  go_wp2_with fail
  go_loopw [5, 12] (fun v5 v12 wr => ∃ (i : Nat) (s : Int), v5 = .int .u32 s ∧ v12 = .int .i64 (i : Int) ∧ i ≤ n ∧ 0 ≤ s ∧ s < 4294967296 ∧ (l.drop i).foldl cstep s = l.foldl cstep (cnot c0) ∧ wr = w) (fun _ v12 _ => n - (intOf v12).toNat)
  case atStart =>
    have a1 := xor_u32 IntKind.u32.max c0
    exact ⟨0, cnot c0, rfl, rfl, Nat.zero_le _, a1.1, a1.2, rfl, rfl⟩
  case round =>
    obtain ⟨i, s, rfl, rfl, hi, h0, h1, hf, hwr⟩ := hrel
    subst hwr
    by_cases c1 : i < n
    · obtain ⟨x, hx⟩ : ∃ x, l[i]? = some x := ⟨_, List.getElem?_eq_getElem (by omega)⟩
      obtain ⟨ad, rfl, hcell⟩ := cb_at HBC.out hx
      have hdrop : l.drop i = x :: l.drop (i + 1) := by
        rw [List.getElem?_eq_getElem (by omega)] at hx
        rw [List.drop_eq_getElem_cons (by omega), Option.some.inj hx]
      rw [hdrop, List.foldl_cons] at hf
      have HF := Lib.hid hf
      have a1 := xor_u32 s (x % 4294967296)
      have m1 := and15_b _ a1.1 a1.2
      have t1 := HTT.out (Go.bits .and .u32 (Go.bits .xor .u32 s (x % 4294967296)) 15).toNat (by omega)
      have a2 := xor_u32 (Go.bits .xor .u32 s (x % 4294967296) / 16) (rowAt (Go.bits .and .u32 (Go.bits .xor .u32 s (x % 4294967296)) 15).toNat)
      have m2 := and15_b _ a2.1 a2.2
      have t2 := HTT.out (Go.bits .and .u32 (Go.bits .xor .u32 (Go.bits .xor .u32 s (x % 4294967296) / 16) (rowAt (Go.bits .and .u32 (Go.bits .xor .u32 s (x % 4294967296)) 15).toNat)) 15).toNat (by omega)
      have a3 := xor_u32 (chalf (Go.bits .xor .u32 s (x % 4294967296)) / 16) (rowAt (Go.bits .and .u32 (chalf (Go.bits .xor .u32 s (x % 4294967296))) 15).toNat)
      have A3 := Lib.hid a3
      clear hf hdrop hx a3
      go_wp2_with fail
      go_roundw
      case rel => exact ⟨i + 1, cstep s x, rfl, rfl, by omega, A3.out.1, A3.out.2, HF.out, trivial⟩
      case measure => simp [intOf]; omega
    · have HV := Lib.hid (show cupd c0 l = cnot s by unfold cupd; rw [← hf, List.drop_eq_nil_of_le (by omega)]; rfl)
      clear hf
      go_wp2_with fail
      go_ret
      exact ⟨rfl, by rw [HV.out]; rfl⟩
/-- crc.Sum of one part. -/
theorem sum_any (ad : Addr) (c1 : Nat) (A : Option Addr) (n c : Nat) (l : Bs) (hb : Byt l) (hn : n ≤ c) (hl : l.length = n) (hs : n < 1073741824) (w : World) (hcell : w.cell? ad = some (.slice A n c)) (HB : CB w A n l) (HT : Tab w) :
    Calls Tryz.prog 172 #[.slice (some ad) 1 c1] w fun r w' => w' = w ∧ r = .returned (.int .u32 (cupd 0 l)) := by
  have HU := update_any 0 A n c l hb hn hl hs w HB HT
  have h0 : w.cell? (ad.add 0) = some (.slice A n c) := hcell
  clear hb HB HT
  go_enter Tryz.func172, Tryz.ntmps172
  go_wp2_with fail
  go_loopw [3, 8] (fun v3 v8 wr => wr = w ∧ ((v3 = .int .u32 0 ∧ v8 = .int .i64 0) ∨ (v3 = .int .u32 (cupd 0 l) ∧ v8 = .int .i64 1))) (fun _ v8 _ => 1 - (intOf v8).toNat)
  case atStart => exact ⟨rfl, .inl ⟨rfl, rfl⟩⟩
  case round =>
    obtain ⟨hwr, hrel⟩ := hrel
    subst hwr
    rcases hrel with ⟨rfl, rfl⟩ | ⟨rfl, rfl⟩
    · go_wp2_with fail
      refine HU.mono ?_
      rintro r w1 ⟨rfl, rfl⟩
      go_wp2_with fail
      go_roundw
      case rel => exact ⟨trivial, .inr ⟨rfl, rfl⟩⟩
      case measure => simp [intOf]
    · go_wp2_with fail
      go_ret
      exact ⟨rfl, rfl⟩
end Go.Proofs.YtciikcmiiebfpaaGreatDoor
end

/- Cursor -/
section
/- cursor.Reader. -/
namespace Go.Proofs.YtciikcmiiebfpaaGreatDoor
open Go Go.RowKit Go.Proofs.YtciikcmiiebfpaaGreatDoorW.PrintWords Go.Proofs.YtciikcmiiebfpaaGreatDoor.PTopicsGets Go.Proofs.YtciikcmiiebfpaaGreatDoorW.PrintMore
set_option linter.unusedVariables false
set_option linter.unusedSimpArgs false

/-- A reader at block g over the bytes l, standing at at_; what lies below block B may be turned without turning l. -/
structure Rd (w : World) (B g : Nat) (A : Option Addr) (n c : Nat) (l : Bs) (at_ : Nat) : Prop where
  box : w.heap[g]? = some (.cells #[.slice A n c, .int .i64 (at_ : Int)] 354 (0, 0))
  C : ∀ W, Tch (fun i => i = g ∨ i < B) w W → CB W A n l
  gB : B ≤ g
  len : l.length = n
  cap : n ≤ c
  lim : n < 1073741824
  le : at_ ≤ n
abbrev rptr (g : Nat) : Value := .pointer (some ⟨g, 0, none⟩)

theorem left_any {w : World} {B g : Nat} {A : Option Addr} {n c : Nat} {l : Bs} {at_ : Nat} (h : Rd w B g A n c l at_) :
    Calls Tryz.prog 217 #[rptr g] w fun r w' => Below w.heap.size w w' ∧ r = .returned (.int .i64 ((n - at_ : Nat) : Int)) := by
  have p0 : w.cell? ⟨g, 0, none⟩ = some (.slice A n c) := blk_cell h.box 0
  have p1 : w.cell? ⟨g, 1, none⟩ = some (.int .i64 (at_ : Int)) := blk_cell h.box 1
  have hle := h.le
  have hlim := h.lim
  clear h
  unfold rptr
  go_enter Tryz.func217, Tryz.ntmps217
  go_wp2_with fail
  go_region
  go_wp2_with fail
  go_ret
  exact ⟨below_drew (Below.refl _ _), congrArg (fun z => Ending.returned (.int .i64 z)) (by omega)⟩

/-- The number of bytes, the highest first. -/
def ube (l : Bs) : Int := l.foldl (fun v c => v * 256 + c) 0
theorem Rd.below {w w1 : World} {B g : Nat} {A : Option Addr} {n c : Nat} {l : Bs} {at_ : Nat} (h : Rd w B g A n c l at_) (hb : Below w.heap.size w w1) : Rd w1 B g A n c l at_ :=
  ⟨blk_below h.box hb, fun W hT => h.C W ((Tch.of_below hb).trans hT), h.gB, h.len, h.cap, h.lim, h.le⟩
/-- An older block is written. -/
theorem Rd.old {w w1 : World} {B g b : Nat} {A : Option Addr} {n c : Nat} {l : Bs} {at_ : Nat} (h : Rd w B g A n c l at_) (ht : Tch (fun i => i = b) w w1) (hb : b < B) : Rd w1 B g A n c l at_ :=
  ⟨(ht.block _ (blk_lt h.box) (fun e => by have := h.gB; omega)).trans h.box, fun W hT => h.C W ((ht.mono (fun k hk => .inr (by omega))).trans hT), h.gB, h.len, h.cap, h.lim, h.le⟩
theorem number_short {w : World} {B g : Nat} {A : Option Addr} {n c : Nat} {l : Bs} {at_ : Nat} (h : Rd w B g A n c l at_) (k : Nat) (hk : k ≤ 8) (hs : n - at_ < k) :
    Calls Tryz.prog 216 #[rptr g, .int .i64 (k : Int)] w fun r w' => Below w.heap.size w w' ∧ r = .returned (.tuple #[.int .u64 0, .int .i64 1]) := by
  have HL := left_any h
  clear h
  unfold rptr at HL ⊢
  go_enter Tryz.func216, Tryz.ntmps216
  go_wp2_with fail
  refine HL.mono ?_
  rintro r w1 ⟨hb, rfl⟩
  have HB := Lib.hid hb
  clear HL hb
  have hs2 : ((n - at_ : Nat) : Int) < k := by omega
  generalize ((n - at_ : Nat) : Int) = m at hs2 ⊢
  go_wp2_with fail
  go_ret2
  exact ⟨HB.out, rfl⟩
theorem number_ok {w : World} {B g : Nat} {A : Option Addr} {n c : Nat} {l : Bs} {at_ : Nat} (h : Rd w B g A n c l at_) (hb : Byt l) (k : Nat) (h1 : 1 ≤ k) (hk : k ≤ 8) (hs : at_ + k ≤ n) :
    Calls Tryz.prog 216 #[rptr g, .int .i64 (k : Int)] w fun r w' => Tch (fun i => i = g) w w' ∧ Rd w' B g A n c l (at_ + k) ∧ r = .returned (.tuple #[.int .u64 (ube ((l.drop at_).take k)), .int .i64 0]) := by
  have HL := left_any h
  obtain ⟨i0, hi0, _, hsz, _⟩ := info_parts info5
  obtain ⟨A5, hcut, hA5, hC5⟩ := print_mid_of (P := Tryz.prog) (Value.int .u8) (0 : Int) 51 5 .i64 .i64 Tryz.underlying51 hi0 hsz A c l (at_ : Int) ((at_ : Int) + (k : Int)) (by omega) (by omega) (by have := h.len; omega) (by have := h.len; have := h.cap; omega)
  have hm : ((l.take ((at_ : Int) + (k : Int)).toNat).drop (at_ : Int).toNat) = (l.drop at_).take k := by
    rw [show ((at_ : Int) + (k : Int)).toNat = at_ + k by omega, Int.toNat_natCast, List.drop_take, Nat.add_sub_cancel_left]
  rw [hm, h.len] at hcut
  rw [hm] at hA5 hC5
  have hlen : ((l.drop at_).take k).length = k := by rw [List.length_take, List.length_drop, h.len]; omega
  rw [hlen] at hcut
  have hM : ∀ W, CB W A n l → CB W A5 k ((l.drop at_).take k) := fun W H => by
    have := Kd.C_of_reads (h1 := fun _ => rfl) (hA5 W (by have := Kd.reads_of_C (d := (0 : Int)) H; rw [← h.len] at this; exact this))
    rw [hlen] at this
    exact this
  have HM := Lib.hid hM
  have HRD := Lib.hid h
  have HBY := Lib.hid ((hb.drop at_).take k)
  have hlim := h.lim
  clear h hb hA5 hi0 hsz hM hm
  generalize (l.drop at_).take k = m at *
  unfold rptr at HL ⊢
  go_enter Tryz.func216, Tryz.ntmps216
  go_wp2_with fail
  refine HL.mono ?_
  rintro r w1 ⟨hb, rfl⟩
  have HB := Lib.hid hb
  clear HL hb
  have hs2 : ¬ ((n - at_ : Nat) : Int) < k := by omega
  generalize ((n - at_ : Nat) : Int) = q at hs2 ⊢
  have HR1 := Lib.hid (HRD.out.below HB.out)
  have p0 : w1.cell? ⟨g, 0, none⟩ = some (.slice A n c) := blk_cell HR1.out.box 0
  have p1 : w1.cell? ⟨g, 1, none⟩ = some (.int .i64 (at_ : Int)) := blk_cell HR1.out.box 1
  go_wp2_with fail
  go_region
  go_wp2_with fail
  have HW := Lib.hid (below_drew (Below.refl w1.heap.size w1))
  generalize w1.drew = W1 at HW ⊢
  have HR2 := Lib.hid (HR1.out.below HW.out)
  have HM1 := Lib.hid (HM.out W1 ((HR1.out.below HW.out).C W1 (Tch.refl _ _)))
  go_loopw [6, 29] (fun v6 v29 wr => ∃ (i : Nat) (v : Int), v6 = .int .u64 v ∧ v29 = .int .i64 (i : Int) ∧ i ≤ k ∧ 0 ≤ v ∧ v < 256 ^ i ∧ (m.drop i).foldl (fun v c => v * 256 + c) v = ube m ∧ wr = W1) (fun _ v29 _ => k - (intOf v29).toNat)
  case atStart => exact ⟨0, 0, rfl, rfl, Nat.zero_le _, Int.le_refl _, by decide, rfl, rfl⟩
  case round =>
    obtain ⟨i, v, rfl, rfl, hi, h0, hv, hf, hwr⟩ := hrel
    subst hwr
    by_cases c1 : i < k
    · obtain ⟨x, hx⟩ : ∃ x, m[i]? = some x := ⟨_, List.getElem?_eq_getElem (by omega)⟩
      obtain ⟨ad, rfl, hcell⟩ := cb_at HM1.out hx
      have hxb := HBY.out.at hx
      have hdrop : m.drop i = x :: m.drop (i + 1) := by
        rw [List.getElem?_eq_getElem (by omega)] at hx
        rw [List.drop_eq_getElem_cons (by omega), Option.some.inj hx]
      rw [hdrop, List.foldl_cons] at hf
      have HF := Lib.hid hf
      have HP := Lib.hid (show v * 256 + x < 256 ^ (i + 1) by rw [Int.pow_succ]; omega)
      have hv7 : v < 72057594037927936 := by
        have : i = 0 ∨ i = 1 ∨ i = 2 ∨ i = 3 ∨ i = 4 ∨ i = 5 ∨ i = 6 ∨ i = 7 := by omega
        rcases this with h | h | h | h | h | h | h | h <;> subst h <;> simp only [Int.reducePow] at hv <;> omega
      have hor : Go.bits .or .u64 (v * 256) x = v * 256 + x := bits_join .u64 64 (by decide) wraps_u64 8 (v * 256) x (by omega) (by omega) (by omega) (by omega) (by omega) (by omega)
      clear hf hdrop hx hv
      go_wp2_with fail
      go_roundw
      case rel => exact ⟨i + 1, v * 256 + x, rfl, rfl, by omega, by omega, HP.out, HF.out, trivial⟩
      case measure => simp [intOf]; omega
    · have HV := Lib.hid (show ube m = v by rw [← hf, List.drop_eq_nil_of_le (by omega)]; rfl)
      clear hf
      have q1 : wr.cell? ⟨g, 1, none⟩ = some (.int .i64 (at_ : Int)) := blk_cell HR2.out.box 1
      have z1 : wr.frozen? ⟨g, 1, none⟩ = false := blk_frozen HR2.out.box 1
      go_wp2_with fail
      go_ret2
      have hT : Tch (fun i => i = g) wr (wr.setCell ⟨g, 1, none⟩ (.int .i64 ((at_ : Int) + (k : Int)))) := Tch.set _ ⟨g, 1, none⟩ _ rfl
      refine ⟨((Tch.of_below (HB.out.trans (HW.out.mono HB.out.size))).trans hT), ⟨blk_put HR2.out.box 1 _ rfl, fun W h => HR2.out.C W ((hT.mono (fun _ h => .inl h)).trans h), HR2.out.gB, HR2.out.len, HR2.out.cap, HR2.out.lim, hs⟩, by rw [HV.out]; rfl⟩
theorem skip_ok {w : World} {B g : Nat} {A : Option Addr} {n c : Nat} {l : Bs} {at_ : Nat} (h : Rd w B g A n c l at_) (k : Nat) (hs : at_ + k ≤ n) :
    Calls Tryz.prog 169 #[rptr g, .int .i64 (k : Int)] w fun r w' => Tch (fun i => i = g) w w' ∧ Rd w' B g A n c l (at_ + k) ∧ r = .returned (.int .i64 0) := by
  have HL := left_any h
  have HRD := Lib.hid h
  have hlim := h.lim
  clear h
  unfold rptr at HL ⊢
  have hs2 : ¬ ((n - at_ : Nat) : Int) < k := by omega
  generalize ((n - at_ : Nat) : Int) = m at hs2 HL
  go_enter Tryz.func169, Tryz.ntmps169
  go_wp2_with fail
  refine HL.mono ?_
  rintro r wr ⟨hb, rfl⟩
  have HB := Lib.hid hb
  have HR2 := Lib.hid (HRD.out.below hb)
  clear HL hb
  have q1 : wr.cell? ⟨g, 1, none⟩ = some (.int .i64 (at_ : Int)) := blk_cell HR2.out.box 1
  have z1 : wr.frozen? ⟨g, 1, none⟩ = false := blk_frozen HR2.out.box 1
  go_wp2_with fail
  go_ret
  have hT : Tch (fun i => i = g) wr (wr.setCell ⟨g, 1, none⟩ (.int .i64 ((at_ : Int) + (k : Int)))) := Tch.set _ ⟨g, 1, none⟩ _ rfl
  exact ⟨(Tch.of_below HB.out).trans hT, ⟨blk_put HR2.out.box 1 _ rfl, fun W h => HR2.out.C W ((hT.mono (fun _ h => .inl h)).trans h), HR2.out.gB, HR2.out.len, HR2.out.cap, HR2.out.lim, hs⟩, rfl⟩
theorem newReader_any (A : Option Addr) (n c : Nat) (l : Bs) (hl : l.length = n) (hn : n < 1073741824) (w : World) (HB : CB w A n l) :
    Calls Tryz.prog 166 #[.slice A n c] w fun r w' => Below w.heap.size w w' ∧ ∃ g A' c', w.heap.size ≤ g ∧ r = .returned (rptr g) ∧ Rd w' w.heap.size g A' n c' l 0 := by
  have HC := clone_bytes A n c l w HB (by omega)
  clear HB
  go_enter Tryz.func166, Tryz.ntmps166
  go_wp2_with fail
  refine HC.mono ?_
  rintro r w1 ⟨v, rfl, hr, hb⟩
  obtain ⟨A1, c1, rfl, hc1, hC1⟩ := Kd.R_reads hr
  have HR := Lib.hid hr
  have HB := Lib.hid hb
  rw [hl] at hC1
  have HC1 := Lib.hid hC1
  clear HC hr hb hC1
  go_wp2_with fail
  go_ret
  have hA : Below w1.heap.size w1 (w1.alloc (.cells #[.slice A1 n c1, .int .i64 0] 354)) := (Below.refl _ _).alloc (Nat.le_refl _) _
  refine ⟨HB.out.trans (hA.mono HB.out.size), w1.heap.size, A1, c1, HB.out.size, rfl, ⟨blk_new _ _, fun W hT => ?_, HB.out.size, hl, by omega, hn, Nat.zero_le _⟩⟩
  have hr2 := Kd.R_step HR.out (w1 := W) (fun b hb hlt => by
    rw [hT.block b (by rw [World.size_alloc]; omega) (by omega)]
    exact hA.block b hlt)
  obtain ⟨A2, c2, e, _, hC2⟩ := Kd.R_reads hr2
  injection e with e1 e2 e3
  subst e1
  rw [hl] at hC2
  exact hC2
/- I8 .. I64: printed by gen_cursor.py. -/
theorem i8_ok {w : World} {B g : Nat} {A : Option Addr} {n c : Nat} {l : Bs} {at_ : Nat} (h : Rd w B g A n c l at_) (hb : Byt l) (hs : at_ + 1 ≤ n) :
    Calls Tryz.prog 170 #[rptr g] w fun r w' => Tch (fun i => i = g) w w' ∧ Rd w' B g A n c l (at_ + 1) ∧ r = .returned (.tuple #[.int .i8 (IntKind.i8.wrap (ube ((l.drop at_).take 1))), .int .i64 0]) := by
  have HN := number_ok h hb 1 (by decide) (by decide) hs
  clear h
  unfold rptr at HN ⊢
  generalize ube ((l.drop at_).take 1) = v at HN ⊢
  go_enter Tryz.func170, Tryz.ntmps170
  go_wp2_with fail
  refine HN.mono ?_
  rintro r w1 ⟨ht, hr, rfl⟩
  have HT := Lib.hid ht
  have HR := Lib.hid hr
  clear HN ht hr
  go_wp2_with fail
  go_ret2
  exact ⟨HT.out, HR.out, by first | rfl | (simp only [IntWalk.i64_left, IntWalk.i32_left]; rfl)⟩
theorem i16_ok {w : World} {B g : Nat} {A : Option Addr} {n c : Nat} {l : Bs} {at_ : Nat} (h : Rd w B g A n c l at_) (hb : Byt l) (hs : at_ + 2 ≤ n) :
    Calls Tryz.prog 171 #[rptr g] w fun r w' => Tch (fun i => i = g) w w' ∧ Rd w' B g A n c l (at_ + 2) ∧ r = .returned (.tuple #[.int .i16 (IntKind.i16.wrap (ube ((l.drop at_).take 2))), .int .i64 0]) := by
  have HN := number_ok h hb 2 (by decide) (by decide) hs
  clear h
  unfold rptr at HN ⊢
  generalize ube ((l.drop at_).take 2) = v at HN ⊢
  go_enter Tryz.func171, Tryz.ntmps171
  go_wp2_with fail
  refine HN.mono ?_
  rintro r w1 ⟨ht, hr, rfl⟩
  have HT := Lib.hid ht
  have HR := Lib.hid hr
  clear HN ht hr
  go_wp2_with fail
  go_ret2
  exact ⟨HT.out, HR.out, by first | rfl | (simp only [IntWalk.i64_left, IntWalk.i32_left]; rfl)⟩
theorem i32_ok {w : World} {B g : Nat} {A : Option Addr} {n c : Nat} {l : Bs} {at_ : Nat} (h : Rd w B g A n c l at_) (hb : Byt l) (hs : at_ + 4 ≤ n) :
    Calls Tryz.prog 167 #[rptr g] w fun r w' => Tch (fun i => i = g) w w' ∧ Rd w' B g A n c l (at_ + 4) ∧ r = .returned (.tuple #[.int .i32 (IntKind.i32.wrap (ube ((l.drop at_).take 4))), .int .i64 0]) := by
  have HN := number_ok h hb 4 (by decide) (by decide) hs
  clear h
  unfold rptr at HN ⊢
  generalize ube ((l.drop at_).take 4) = v at HN ⊢
  go_enter Tryz.func167, Tryz.ntmps167
  go_wp2_with fail
  refine HN.mono ?_
  rintro r w1 ⟨ht, hr, rfl⟩
  have HT := Lib.hid ht
  have HR := Lib.hid hr
  clear HN ht hr
  go_wp2_with fail
  go_ret2
  exact ⟨HT.out, HR.out, by first | rfl | (simp only [IntWalk.i64_left, IntWalk.i32_left]; rfl)⟩
theorem i64_ok {w : World} {B g : Nat} {A : Option Addr} {n c : Nat} {l : Bs} {at_ : Nat} (h : Rd w B g A n c l at_) (hb : Byt l) (hs : at_ + 8 ≤ n) :
    Calls Tryz.prog 168 #[rptr g] w fun r w' => Tch (fun i => i = g) w w' ∧ Rd w' B g A n c l (at_ + 8) ∧ r = .returned (.tuple #[.int .i64 (IntKind.i64.wrap (ube ((l.drop at_).take 8))), .int .i64 0]) := by
  have HN := number_ok h hb 8 (by decide) (by decide) hs
  clear h
  unfold rptr at HN ⊢
  generalize ube ((l.drop at_).take 8) = v at HN ⊢
  go_enter Tryz.func168, Tryz.ntmps168
  go_wp2_with fail
  refine HN.mono ?_
  rintro r w1 ⟨ht, hr, rfl⟩
  have HT := Lib.hid ht
  have HR := Lib.hid hr
  clear HN ht hr
  go_wp2_with fail
  go_ret2
  exact ⟨HT.out, HR.out, by first | rfl | (simp only [IntWalk.i64_left, IntWalk.i32_left]; rfl)⟩
end Go.Proofs.YtciikcmiiebfpaaGreatDoor
end
