/- The walk of Alike at two rows that read the same. -/
import Derived.Test.YtnooekflmjebiaaCols
import Derived.Test.YtnooekflmjebiaaForget
namespace Go.Proofs.Ytnooekflmjebiaa
open Go Go.RowKit Go.Proofs.YtnooekflmjebiaaW.PrintWords Go.Proofs.Ytnooekflmjebiaa.PIdemPlays
set_option linter.unusedVariables false

/-- A Known whose three lists are of one length. -/
def Even (x : S52) : Prop := x.f2.length = x.f3.length ∧ x.f2.length = x.f4.length ∧ x.f2.length ≤ 1000000000

theorem C_spot {w : World} {A : Option Addr} {n : Nat} {xs : List S52} (h : Kd.C k52 w A n xs) (hn : 0 < n) : ∃ b o, A = some ⟨b, o, none⟩ := by
  obtain ⟨⟨b, o, sp⟩, _, _, _, _, _, _, rfl, d0, _⟩ := at_T52 h 0 (by omega) (by omega)
  have hs : sp = none := by simpa [Addr.add] using World.cell?_spot d0
  subst hs
  exact ⟨b, o, rfl⟩

theorem C_ints {k : IntKind} {w : World} {A : Option Addr} {n : Nat} {xs : List Int} (h : (Kd.int k).C w A n xs) (hn : 0 < n) : ∃ b o, A = some ⟨b, o, none⟩ ∧ b < w.heap.size ∧ ∀ i, i < n → w.cell? ⟨b, o + i, none⟩ = some (.int k (xs.getD i 0)) := by
  have key : ∀ i : Nat, i < n → ∃ ad, A = some ad ∧ w.cell? (ad.add i) = some (.int k (xs.getD i 0)) := fun i hi => by
    obtain ⟨ad, c, e, _, hK, hc⟩ := Kd.C_get h 0 (i : Int) (by omega) (by omega)
    rw [Int.toNat_natCast] at hK hc
    have hK' : c = [.int k (xs.getD i 0)] := hK
    subst hK'
    have h0 := hc 0 _ rfl
    rw [show i * (Kd.int k).sz + 0 = i by show i * 1 + 0 = i; omega] at h0
    exact ⟨ad, e, h0⟩
  obtain ⟨⟨b, o, sp⟩, rfl, h0⟩ := key 0 hn
  have hs : sp = none := by simpa [Addr.add] using World.cell?_spot h0
  subst hs
  refine ⟨b, o, rfl, by simpa [Addr.add] using World.block_lt_of_cell? w _ h0, fun i hi => ?_⟩
  obtain ⟨ad, e, h1⟩ := key i hi
  cases e
  rwa [add_off] at h1

set_option maxRecDepth 100000 in
set_option maxHeartbeats 8000000 in
theorem alike_same (A1 A2 : Option Addr) (c1 c2 : Nat) (xs : List S52) (w : World) (h1 : Kd.C k52 w A1 xs.length xs) (h2 : Kd.C k52 w A2 xs.length xs) (hx : ∀ x ∈ xs, Even x) (hm : xs.length ≤ 9000000000000000000) :
    Calls Try.prog 15 #[.slice A1 xs.length c1, .slice A2 xs.length c2] w fun e w' => e = .returned (.bool true) ∧ Below w.heap.size w w' := by
  obtain ⟨n, hn⟩ : ∃ n, n = xs.length := ⟨_, rfl⟩
  have HN := Lib.hid hn
  rw [← hn] at h1 h2 hm ⊢
  have H1 := Lib.hid h1
  have H2 := Lib.hid h2
  have HX := Lib.hid hx
  clear h1 h2 hx hn
  go_enter Try.func15, Try.ntmps15
  go_wp2_with fail
  go_loopw [5] (fun i wr => ∃ k : Nat, k ≤ n ∧ i = .int .i64 k ∧ Hid (Below w.heap.size w wr)) (fun i _ => n - (intOf i).toNat)
  case atStart => exact ⟨0, Nat.zero_le _, rfl, Below.refl _ _⟩
  case round =>
    obtain ⟨k, hk, rfl, HB⟩ := hrel
    rename World => wo
    by_cases hkn : k < n
    · have g1 := at_T52 (Kd.C_below H1.out HB.out) (k : Int) (by omega) (by omega)
      have g2 := at_T52 (Kd.C_below H2.out HB.out) (k : Int) (by omega) (by omega)
      obtain ⟨x, hxx⟩ : ∃ x, x = rd_T52 xs (k : Int) := ⟨_, rfl⟩
      rw [← hxx] at g1 g2
      have hev : Even x := HX.out x (by rw [hxx]; unfold rd_T52; rw [List.getD_eq_getElem?_getD, List.getElem?_eq_getElem (by have := HN.out; omega)]; exact List.getElem_mem _)
      obtain ⟨x0, x1, l2, l3, l4⟩ := x
      simp only at g1 g2
      obtain ⟨hev1, hev2, hev3⟩ := hev
      simp only at hev1 hev2 hev3
      rw [Int.toNat_natCast] at g1 g2
      obtain ⟨a1, P2, p2, P3, p3, P4, p4, rfl, d0, d1, d2, d3, d4, _, C2, _, C3, _, C4⟩ := g1
      obtain ⟨a2, Q2, q2, Q3, q3, Q4, q4, rfl, e0, e1, e2, e3, e4, _, D2, _, D3, _, D4⟩ := g2
      obtain ⟨b1, o1, ha1⟩ := C_spot H1.out (by omega)
      obtain ⟨b2, o2, ha2⟩ := C_spot H2.out (by omega)
      obtain rfl := Option.some.inj ha1
      obtain rfl := Option.some.inj ha2
      simp only [add_off] at d0 d1 d2 d3 d4 e0 e1 e2 e3 e4
      have hb1 : b1 < wo.heap.size := World.block_lt_of_cell? wo _ d0
      have hb2 : b2 < wo.heap.size := World.block_lt_of_cell? wo _ e0
      obtain ⟨L, hL⟩ : ∃ L, L = l2.length := ⟨_, rfl⟩
      have HC2 := Lib.hid C2
      have HC3 := Lib.hid C3
      have HC4 := Lib.hid C4
      have HD2 := Lib.hid D2
      have HD3 := Lib.hid D3
      have HD4 := Lib.hid D4
      have HL := Lib.hid hL
      have HE1 := Lib.hid hev1
      have HE2 := Lib.hid hev2
      rw [← hev1, ← hL] at d3 e3
      rw [← hev2, ← hL] at d4 e4
      rw [← hL] at d2 e2 hev3
      clear C2 C3 C4 D2 D3 D4 hL hev1 hev2 hxx
      go_wp2_with fail
      go_region
      · have HB6 : Hid (Below wo.heap.size wo (((wo.alloc (.cells #[.int .i64 x0, .int .i16 x1, .slice P2 L p2, .slice P3 L p3, .slice P4 L p4] 52)).alloc (.cells #[.int .i64 x0, .int .i16 x1, .slice Q2 L q2, .slice Q3 L q3, .slice Q4 L q4] 52)).drew)) := (((Below.refl _ _).alloc (Nat.le_refl _) _).alloc (by simp) _).drew
        have KA : Hid ((((wo.alloc (.cells #[.int .i64 x0, .int .i16 x1, .slice P2 L p2, .slice P3 L p3, .slice P4 L p4] 52)).alloc (.cells #[.int .i64 x0, .int .i16 x1, .slice Q2 L q2, .slice Q3 L q3, .slice Q4 L q4] 52)).drew).heap[wo.heap.size]? = some (.cells #[.int .i64 x0, .int .i16 x1, .slice P2 L p2, .slice P3 L p3, .slice P4 L p4] 52 (0, 0))) := by
          show ((wo.alloc (.cells #[.int .i64 x0, .int .i16 x1, .slice P2 L p2, .slice P3 L p3, .slice P4 L p4] 52)).alloc (.cells #[.int .i64 x0, .int .i16 x1, .slice Q2 L q2, .slice Q3 L q3, .slice Q4 L q4] 52)).heap[wo.heap.size]? = _
          exact (Below.heap_alloc _ _ _ (by simp)).trans (heap_alloc_new _ _)
        have KB : Hid ((((wo.alloc (.cells #[.int .i64 x0, .int .i16 x1, .slice P2 L p2, .slice P3 L p3, .slice P4 L p4] 52)).alloc (.cells #[.int .i64 x0, .int .i16 x1, .slice Q2 L q2, .slice Q3 L q3, .slice Q4 L q4] 52)).drew).heap[wo.heap.size + 1]? = some (.cells #[.int .i64 x0, .int .i16 x1, .slice Q2 L q2, .slice Q3 L q3, .slice Q4 L q4] 52 (0, 0))) := by
          show ((wo.alloc (.cells #[.int .i64 x0, .int .i16 x1, .slice P2 L p2, .slice P3 L p3, .slice P4 L p4] 52)).alloc (.cells #[.int .i64 x0, .int .i16 x1, .slice Q2 L q2, .slice Q3 L q3, .slice Q4 L q4] 52)).heap[wo.heap.size + 1]? = _
          have := heap_alloc_new (wo.alloc (.cells #[.int .i64 x0, .int .i16 x1, .slice P2 L p2, .slice P3 L p3, .slice P4 L p4] 52)) (.cells #[.int .i64 x0, .int .i16 x1, .slice Q2 L q2, .slice Q3 L q3, .slice Q4 L q4] 52)
          rwa [World.size_alloc] at this
        generalize ((wo.alloc (.cells #[.int .i64 x0, .int .i16 x1, .slice P2 L p2, .slice P3 L p3, .slice P4 L p4] 52)).alloc (.cells #[.int .i64 x0, .int .i16 x1, .slice Q2 L q2, .slice Q3 L q3, .slice Q4 L q4] 52)).drew = W6 at HB6 KA KB ⊢
        obtain ⟨ga, hga⟩ : ∃ ga, ga = wo.heap.size := ⟨_, rfl⟩
        obtain ⟨gb, hgb⟩ : ∃ gb, gb = wo.heap.size + 1 := ⟨_, rfl⟩
        rw [← hga] at KA
        rw [← hgb] at KB
        rw [← hgb, ← hga]
        clear hga hgb
        have K6 := KA
        have K7 := KB
        clear KA KB
        have a0 : W6.cell? ⟨ga, 0, none⟩ = some (.int .i64 x0) := (blk_cell K6.out 0).trans rfl
        have a1 : W6.cell? ⟨ga, 1, none⟩ = some (.int .i16 x1) := (blk_cell K6.out 1).trans rfl
        have a2 : W6.cell? ⟨ga, 2, none⟩ = some (.slice P2 L p2) := (blk_cell K6.out 2).trans rfl
        have a3 : W6.cell? ⟨ga, 3, none⟩ = some (.slice P3 L p3) := (blk_cell K6.out 3).trans rfl
        have a4 : W6.cell? ⟨ga, 4, none⟩ = some (.slice P4 L p4) := (blk_cell K6.out 4).trans rfl
        have b0 : W6.cell? ⟨gb, 0, none⟩ = some (.int .i64 x0) := (blk_cell K7.out 0).trans rfl
        have b1 : W6.cell? ⟨gb, 1, none⟩ = some (.int .i16 x1) := (blk_cell K7.out 1).trans rfl
        have b2 : W6.cell? ⟨gb, 2, none⟩ = some (.slice Q2 L q2) := (blk_cell K7.out 2).trans rfl
        have b3 : W6.cell? ⟨gb, 3, none⟩ = some (.slice Q3 L q3) := (blk_cell K7.out 3).trans rfl
        have b4 : W6.cell? ⟨gb, 4, none⟩ = some (.slice Q4 L q4) := (blk_cell K7.out 4).trans rfl
        go_wp2_with fail
        go_loopw [8] (fun j wq => ∃ i : Nat, i ≤ L ∧ j = .int .i64 i ∧ Hid (Below W6.heap.size W6 wq)) (fun j _ => L - (intOf j).toNat)
        case atStart => exact ⟨0, Nat.zero_le _, rfl, Below.refl _ _⟩
        case round =>
          obtain ⟨i, hi, rfl, HQ⟩ := hrel
          rename World => wq
          have K6q := blk_below K6.out HQ.out
          have K7q := blk_below K7.out HQ.out
          have a2' : wq.cell? ⟨ga, 2, none⟩ = some (.slice P2 L p2) := (blk_cell K6q 2).trans rfl
          have a3' : wq.cell? ⟨ga, 3, none⟩ = some (.slice P3 L p3) := (blk_cell K6q 3).trans rfl
          have a4' : wq.cell? ⟨ga, 4, none⟩ = some (.slice P4 L p4) := (blk_cell K6q 4).trans rfl
          have b2' : wq.cell? ⟨gb, 2, none⟩ = some (.slice Q2 L q2) := (blk_cell K7q 2).trans rfl
          have b3' : wq.cell? ⟨gb, 3, none⟩ = some (.slice Q3 L q3) := (blk_cell K7q 3).trans rfl
          have b4' : wq.cell? ⟨gb, 4, none⟩ = some (.slice Q4 L q4) := (blk_cell K7q 4).trans rfl
          clear K6q K7q
          by_cases hil : i < L
          · have hBq : Below wo.heap.size wo wq := HB6.out.trans (HQ.out.mono HB6.out.size)
            obtain ⟨u2, v2, e2_, l2_, s2⟩ := C_ints HC2.out (by have := HL.out; omega)
            obtain ⟨u3, v3, e3_, l3_, s3⟩ := C_ints HC3.out (by have := HL.out; have := HE1.out; omega)
            obtain ⟨u4, v4, e4_, l4_, s4⟩ := C_ints HC4.out (by have := HL.out; have := HE2.out; omega)
            obtain ⟨u5, v5, e5_, l5_, s5⟩ := C_ints HD2.out (by have := HL.out; omega)
            obtain ⟨u6, v6, e6_, l6_, s6⟩ := C_ints HD3.out (by have := HL.out; have := HE1.out; omega)
            obtain ⟨u7, v7, e7_, l7_, s7⟩ := C_ints HD4.out (by have := HL.out; have := HE2.out; omega)
            subst e2_ e3_ e4_ e5_ e6_ e7_
            have t2 := (hBq.cell (p := ⟨u2, v2 + i, none⟩) l2_).trans (s2 i (by have := HL.out; omega))
            have t3 := (hBq.cell (p := ⟨u3, v3 + i, none⟩) l3_).trans (s3 i (by have := HL.out; have := HE1.out; omega))
            have t4 := (hBq.cell (p := ⟨u4, v4 + i, none⟩) l4_).trans (s4 i (by have := HL.out; have := HE2.out; omega))
            have t5 := (hBq.cell (p := ⟨u5, v5 + i, none⟩) l5_).trans (s5 i (by have := HL.out; omega))
            have t6 := (hBq.cell (p := ⟨u6, v6 + i, none⟩) l6_).trans (s6 i (by have := HL.out; have := HE1.out; omega))
            have t7 := (hBq.cell (p := ⟨u7, v7 + i, none⟩) l7_).trans (s7 i (by have := HL.out; have := HE2.out; omega))
            clear s2 s3 s4 s5 s6 s7 hBq
            generalize l2.getD i 0 = y2 at t2 t5
            generalize l3.getD i 0 = y3 at t3 t6
            generalize l4.getD i 0 = y4 at t4 t7
            have z1 : (0 : Int) ≤ (i : Int) := by omega
            have z2 : (i : Int) < (L : Int) := by omega
            go_wp2_with fail
            go_quiet (fail)
            go_wp2_with fail
            go_roundw
            case rel => exact ⟨i + 1, by omega, by go_num, pw_below_drewN HQ.out _⟩
            case measure => simp [intOf]; omega
          · obtain rfl : i = L := by omega
            go_wp2_with fail
            go_roundw
            case rel => exact ⟨k + 1, by omega, by go_num, HB.out.trans ((HB6.out.trans (HQ.out.mono HB6.out.size)).mono HB.out.size)⟩
            case measure => simp [intOf]; omega
      · have HB6 : Hid (Below wo.heap.size wo (((wo.alloc (.cells #[.int .i64 x0, .int .i16 x1, .slice Q2 L q2, .slice Q3 L q3, .slice Q4 L q4] 52)).alloc (.cells #[.int .i64 x0, .int .i16 x1, .slice P2 L p2, .slice P3 L p3, .slice P4 L p4] 52)).drew)) := (((Below.refl _ _).alloc (Nat.le_refl _) _).alloc (by simp) _).drew
        have KA : Hid ((((wo.alloc (.cells #[.int .i64 x0, .int .i16 x1, .slice Q2 L q2, .slice Q3 L q3, .slice Q4 L q4] 52)).alloc (.cells #[.int .i64 x0, .int .i16 x1, .slice P2 L p2, .slice P3 L p3, .slice P4 L p4] 52)).drew).heap[wo.heap.size]? = some (.cells #[.int .i64 x0, .int .i16 x1, .slice Q2 L q2, .slice Q3 L q3, .slice Q4 L q4] 52 (0, 0))) := by
          show ((wo.alloc (.cells #[.int .i64 x0, .int .i16 x1, .slice Q2 L q2, .slice Q3 L q3, .slice Q4 L q4] 52)).alloc (.cells #[.int .i64 x0, .int .i16 x1, .slice P2 L p2, .slice P3 L p3, .slice P4 L p4] 52)).heap[wo.heap.size]? = _
          exact (Below.heap_alloc _ _ _ (by simp)).trans (heap_alloc_new _ _)
        have KB : Hid ((((wo.alloc (.cells #[.int .i64 x0, .int .i16 x1, .slice Q2 L q2, .slice Q3 L q3, .slice Q4 L q4] 52)).alloc (.cells #[.int .i64 x0, .int .i16 x1, .slice P2 L p2, .slice P3 L p3, .slice P4 L p4] 52)).drew).heap[wo.heap.size + 1]? = some (.cells #[.int .i64 x0, .int .i16 x1, .slice P2 L p2, .slice P3 L p3, .slice P4 L p4] 52 (0, 0))) := by
          show ((wo.alloc (.cells #[.int .i64 x0, .int .i16 x1, .slice Q2 L q2, .slice Q3 L q3, .slice Q4 L q4] 52)).alloc (.cells #[.int .i64 x0, .int .i16 x1, .slice P2 L p2, .slice P3 L p3, .slice P4 L p4] 52)).heap[wo.heap.size + 1]? = _
          have := heap_alloc_new (wo.alloc (.cells #[.int .i64 x0, .int .i16 x1, .slice Q2 L q2, .slice Q3 L q3, .slice Q4 L q4] 52)) (.cells #[.int .i64 x0, .int .i16 x1, .slice P2 L p2, .slice P3 L p3, .slice P4 L p4] 52)
          rwa [World.size_alloc] at this
        generalize ((wo.alloc (.cells #[.int .i64 x0, .int .i16 x1, .slice Q2 L q2, .slice Q3 L q3, .slice Q4 L q4] 52)).alloc (.cells #[.int .i64 x0, .int .i16 x1, .slice P2 L p2, .slice P3 L p3, .slice P4 L p4] 52)).drew = W6 at HB6 KA KB ⊢
        obtain ⟨ga, hga⟩ : ∃ ga, ga = wo.heap.size := ⟨_, rfl⟩
        obtain ⟨gb, hgb⟩ : ∃ gb, gb = wo.heap.size + 1 := ⟨_, rfl⟩
        rw [← hga] at KA
        rw [← hgb] at KB
        rw [← hgb, ← hga]
        clear hga hgb
        have K6 := KB
        have K7 := KA
        clear KA KB
        have a0 : W6.cell? ⟨gb, 0, none⟩ = some (.int .i64 x0) := (blk_cell K6.out 0).trans rfl
        have a1 : W6.cell? ⟨gb, 1, none⟩ = some (.int .i16 x1) := (blk_cell K6.out 1).trans rfl
        have a2 : W6.cell? ⟨gb, 2, none⟩ = some (.slice P2 L p2) := (blk_cell K6.out 2).trans rfl
        have a3 : W6.cell? ⟨gb, 3, none⟩ = some (.slice P3 L p3) := (blk_cell K6.out 3).trans rfl
        have a4 : W6.cell? ⟨gb, 4, none⟩ = some (.slice P4 L p4) := (blk_cell K6.out 4).trans rfl
        have b0 : W6.cell? ⟨ga, 0, none⟩ = some (.int .i64 x0) := (blk_cell K7.out 0).trans rfl
        have b1 : W6.cell? ⟨ga, 1, none⟩ = some (.int .i16 x1) := (blk_cell K7.out 1).trans rfl
        have b2 : W6.cell? ⟨ga, 2, none⟩ = some (.slice Q2 L q2) := (blk_cell K7.out 2).trans rfl
        have b3 : W6.cell? ⟨ga, 3, none⟩ = some (.slice Q3 L q3) := (blk_cell K7.out 3).trans rfl
        have b4 : W6.cell? ⟨ga, 4, none⟩ = some (.slice Q4 L q4) := (blk_cell K7.out 4).trans rfl
        go_wp2_with fail
        go_loopw [8] (fun j wq => ∃ i : Nat, i ≤ L ∧ j = .int .i64 i ∧ Hid (Below W6.heap.size W6 wq)) (fun j _ => L - (intOf j).toNat)
        case atStart => exact ⟨0, Nat.zero_le _, rfl, Below.refl _ _⟩
        case round =>
          obtain ⟨i, hi, rfl, HQ⟩ := hrel
          rename World => wq
          have K6q := blk_below K6.out HQ.out
          have K7q := blk_below K7.out HQ.out
          have a2' : wq.cell? ⟨gb, 2, none⟩ = some (.slice P2 L p2) := (blk_cell K6q 2).trans rfl
          have a3' : wq.cell? ⟨gb, 3, none⟩ = some (.slice P3 L p3) := (blk_cell K6q 3).trans rfl
          have a4' : wq.cell? ⟨gb, 4, none⟩ = some (.slice P4 L p4) := (blk_cell K6q 4).trans rfl
          have b2' : wq.cell? ⟨ga, 2, none⟩ = some (.slice Q2 L q2) := (blk_cell K7q 2).trans rfl
          have b3' : wq.cell? ⟨ga, 3, none⟩ = some (.slice Q3 L q3) := (blk_cell K7q 3).trans rfl
          have b4' : wq.cell? ⟨ga, 4, none⟩ = some (.slice Q4 L q4) := (blk_cell K7q 4).trans rfl
          clear K6q K7q
          by_cases hil : i < L
          · have hBq : Below wo.heap.size wo wq := HB6.out.trans (HQ.out.mono HB6.out.size)
            obtain ⟨u2, v2, e2_, l2_, s2⟩ := C_ints HC2.out (by have := HL.out; omega)
            obtain ⟨u3, v3, e3_, l3_, s3⟩ := C_ints HC3.out (by have := HL.out; have := HE1.out; omega)
            obtain ⟨u4, v4, e4_, l4_, s4⟩ := C_ints HC4.out (by have := HL.out; have := HE2.out; omega)
            obtain ⟨u5, v5, e5_, l5_, s5⟩ := C_ints HD2.out (by have := HL.out; omega)
            obtain ⟨u6, v6, e6_, l6_, s6⟩ := C_ints HD3.out (by have := HL.out; have := HE1.out; omega)
            obtain ⟨u7, v7, e7_, l7_, s7⟩ := C_ints HD4.out (by have := HL.out; have := HE2.out; omega)
            subst e2_ e3_ e4_ e5_ e6_ e7_
            have t2 := (hBq.cell (p := ⟨u2, v2 + i, none⟩) l2_).trans (s2 i (by have := HL.out; omega))
            have t3 := (hBq.cell (p := ⟨u3, v3 + i, none⟩) l3_).trans (s3 i (by have := HL.out; have := HE1.out; omega))
            have t4 := (hBq.cell (p := ⟨u4, v4 + i, none⟩) l4_).trans (s4 i (by have := HL.out; have := HE2.out; omega))
            have t5 := (hBq.cell (p := ⟨u5, v5 + i, none⟩) l5_).trans (s5 i (by have := HL.out; omega))
            have t6 := (hBq.cell (p := ⟨u6, v6 + i, none⟩) l6_).trans (s6 i (by have := HL.out; have := HE1.out; omega))
            have t7 := (hBq.cell (p := ⟨u7, v7 + i, none⟩) l7_).trans (s7 i (by have := HL.out; have := HE2.out; omega))
            clear s2 s3 s4 s5 s6 s7 hBq
            generalize l2.getD i 0 = y2 at t2 t5
            generalize l3.getD i 0 = y3 at t3 t6
            generalize l4.getD i 0 = y4 at t4 t7
            have z1 : (0 : Int) ≤ (i : Int) := by omega
            have z2 : (i : Int) < (L : Int) := by omega
            go_wp2_with fail
            go_quiet (fail)
            go_wp2_with fail
            go_roundw
            case rel => exact ⟨i + 1, by omega, by go_num, pw_below_drewN HQ.out _⟩
            case measure => simp [intOf]; omega
          · obtain rfl : i = L := by omega
            go_wp2_with fail
            go_roundw
            case rel => exact ⟨k + 1, by omega, by go_num, HB.out.trans ((HB6.out.trans (HQ.out.mono HB6.out.size)).mono HB.out.size)⟩
            case measure => simp [intOf]; omega
    · go_wp2_with fail
      go_ret
      exact ⟨rfl, HB.out⟩
end Go.Proofs.Ytnooekflmjebiaa
