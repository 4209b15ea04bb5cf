/- The walk of IndexHolds. -/
import Derived.Test.YtomlhedichdkkaaHoldsP
namespace Go.Proofs.Ytomlhedichdkkaa
open Go Go.RowKit
set_option linter.unusedVariables false

theorem EntAt.kept {S : Nat → Prop} {w w' : World} {b o : Nat} {e : Ent} (h : EntAt w b o e) (hk : Kept S w w') (hl : b < w.heap.size) (hn : ¬ S b) : EntAt w' b o e :=
  have k := fun j => hk.cell (a := ⟨b, j, none⟩) hl hn
  ⟨(k _).trans h.c0, (k _).trans h.c1, (k _).trans h.c2, (k _).trans h.c3, (k _).trans h.c4, (k _).trans h.c5, (k _).trans h.c6, (k _).trans h.c7⟩

/-- A whole entry written into a box. -/
def putEnt (w : World) (b : Nat) (e : Ent) : World :=
  (((((((w.setCell ⟨b, 0, none⟩ (.int .i64 e.base)).setCell ⟨b, 1, none⟩ (.int .i64 e.count)).setCell ⟨b, 2, none⟩ (.int .i64 e.at_)).setCell ⟨b, 3, none⟩ (.int .i64 e.size)).setCell ⟨b, 4, none⟩ (.int .i64 e.last)).setCell ⟨b, 5, none⟩ (.int .i64 e.pid)).setCell ⟨b, 6, none⟩ (.int .i16 e.pep)).setCell ⟨b, 7, none⟩ (.int .i32 e.seq)
theorem BoxAt.w0 {w : World} {b : Nat} {e : Ent} (h : BoxAt w b e) (x : Int) : BoxAt (w.setCell ⟨b, 0, none⟩ (.int .i64 x)) b { e with base := x } := heap_setCell_at (i := 0) h _
theorem BoxAt.w1 {w : World} {b : Nat} {e : Ent} (h : BoxAt w b e) (x : Int) : BoxAt (w.setCell ⟨b, 1, none⟩ (.int .i64 x)) b { e with count := x } := heap_setCell_at (i := 1) h _
theorem BoxAt.w2 {w : World} {b : Nat} {e : Ent} (h : BoxAt w b e) (x : Int) : BoxAt (w.setCell ⟨b, 2, none⟩ (.int .i64 x)) b { e with at_ := x } := heap_setCell_at (i := 2) h _
theorem BoxAt.w3 {w : World} {b : Nat} {e : Ent} (h : BoxAt w b e) (x : Int) : BoxAt (w.setCell ⟨b, 3, none⟩ (.int .i64 x)) b { e with size := x } := heap_setCell_at (i := 3) h _
theorem BoxAt.w4 {w : World} {b : Nat} {e : Ent} (h : BoxAt w b e) (x : Int) : BoxAt (w.setCell ⟨b, 4, none⟩ (.int .i64 x)) b { e with last := x } := heap_setCell_at (i := 4) h _
theorem BoxAt.w5 {w : World} {b : Nat} {e : Ent} (h : BoxAt w b e) (x : Int) : BoxAt (w.setCell ⟨b, 5, none⟩ (.int .i64 x)) b { e with pid := x } := heap_setCell_at (i := 5) h _
theorem BoxAt.w6 {w : World} {b : Nat} {e : Ent} (h : BoxAt w b e) (x : Int) : BoxAt (w.setCell ⟨b, 6, none⟩ (.int .i16 x)) b { e with pep := x } := heap_setCell_at (i := 6) h _
theorem BoxAt.w7 {w : World} {b : Nat} {e : Ent} (h : BoxAt w b e) (x : Int) : BoxAt (w.setCell ⟨b, 7, none⟩ (.int .i32 x)) b { e with seq := x } := heap_setCell_at (i := 7) h _
theorem BoxAt.put {w : World} {b : Nat} {x : Ent} (h : BoxAt w b x) (e : Ent) : BoxAt (putEnt w b e) b e := by
  have h1 := (((((((h.w0 e.base).w1 e.count).w2 e.at_).w3 e.size).w4 e.last).w5 e.pid).w6 e.pep).w7 e.seq
  exact h1
theorem Kept.put {S : Nat → Prop} {a w : World} (h : Kept S a w) {b : Nat} (hb : S b) (e : Ent) : Kept S a (putEnt w b e) :=
  ((((((((h.setCell (p := ⟨b, 0, none⟩) hb _).setCell (p := ⟨b, 1, none⟩) hb _).setCell (p := ⟨b, 2, none⟩) hb _).setCell (p := ⟨b, 3, none⟩) hb _).setCell (p := ⟨b, 4, none⟩) hb _).setCell (p := ⟨b, 5, none⟩) hb _).setCell (p := ⟨b, 6, none⟩) hb _).setCell (p := ⟨b, 7, none⟩) hb _)
theorem BoxAt.alloc {w : World} {b : Nat} {x : Ent} (h : BoxAt w b x) (o : Obj) : BoxAt (w.alloc o) b x :=
  h.below ((Below.refl w.heap.size w).alloc (Nat.le_refl _) o) (Array.getElem?_eq_some_iff.1 h).1

/-- What the loop has seen: none that holds, or the one. -/
def Seen (L : List Ent) (k : Int) (m : Nat) (c : Int) (x : Ent) : Prop :=
  (c = 0 ∧ x = Ent.zero ∧ ∀ (j : Nat) (y : Ent), j < m → L[j]? = some y → holdsB k y = false) ∨ (c = 1 ∧ ∃ i, i < m ∧ L[i]? = some x ∧ holdsB k x = true)

theorem Seen.skip {L : List Ent} {k : Int} {m : Nat} {c : Int} {x e : Ent} (h : Seen L k m c x) (he : L[m]? = some e) (hb : holdsB k e = false) : Seen L k (m + 1) c x := by
  rcases h with ⟨h1, h2, h3⟩ | ⟨h1, i, hi, h2, h3⟩
  · refine .inl ⟨h1, h2, fun j y hj hy => ?_⟩
    rcases Nat.lt_or_ge j m with h | h
    · exact h3 j y h hy
    · obtain rfl : j = m := by omega
      rw [he] at hy
      injection hy with hy
      subst hy
      exact hb
  · exact .inr ⟨h1, i, by omega, h2, h3⟩

set_option maxHeartbeats 1000000 in
set_option maxRecDepth 20000 in
theorem holds_any (w : World) (base : Int) (es : List Ent) (A : Option Addr) (c n : Nat) (k most : Int) (hn : es.length = n) (hm : n ≤ 140737488355328) (hr : Row w A es) (lo : -9223372036854775808 ≤ base) (hi : base ≤ 9223372036854775807) (hmost : -9223372036854775808 ≤ most ∧ most ≤ 9223372036854775807) :
    Calls Try.prog 3 #[.int .i64 base, .slice A n c, .int .i64 k, .int .i64 most] w fun r w' => r = .returned (.bool true) ∧ Below w.heap.size w w' := by
  have HAL := Lib.hid (alive_any w)
  have HBU := Lib.hid (fun (w' : World) (hb : Below w.heap.size w w') => built_any w' base es A c n hn hm (hr.below' hb) lo hi)
  have HL := Lib.hid (built_len base es)
  have HM := Lib.hid hmost
  clear hn hr hmost
  generalize hL : builtOf base es = L at *
  have hLl := HL.out
  go_enter Try.func3, Try.ntmps3
  go_wp2_with fail
  refine HAL.out.mono ?_
  rintro r w1 ⟨rfl, h1⟩
  have B1 := Lib.hid h1
  clear h1
  go_wp2_with fail
  refine (HBU.out w1 B1.out).mono ?_
  rintro r w2 ⟨g, rfl, h2⟩
  have F2 := Lib.hid h2
  clear h2
  go_wp2_with fail
  refine (fr_len F2.out).mono ?_
  rintro r w3 ⟨rfl, rfl⟩
  have B4 := Lib.hid ((Below.refl w2.heap.size w2).alloc (Nat.le_refl _) (.cells #[.int .i64 0, .int .i64 0, .int .i64 0, .int .i64 0, .int .i64 0, .int .i64 0, .int .i16 0, .int .i32 0] 30))
  have X4 := Lib.hid (boxAt w2 Ent.zero)
  have L4 := Lib.hid (show w2.heap.size < (w2.alloc (.cells #[.int .i64 0, .int .i64 0, .int .i64 0, .int .i64 0, .int .i64 0, .int .i64 0, .int .i16 0, .int .i32 0] 30)).heap.size by simp)
  simp only [Ent.zero] at X4
  go_wp2_with fail
  generalize w2.alloc (.cells #[.int .i64 0, .int .i64 0, .int .i64 0, .int .i64 0, .int .i64 0, .int .i64 0, .int .i16 0, .int .i32 0] 30) = w4 at *
  refine (fr_all (F2.out.below B4.out) (by omega)).mono ?_
  rintro r w5 ⟨v, rfl, ho5, hb5⟩
  have B5 := Lib.hid (B4.out.trans (hb5.mono B4.out.size))
  have X5 := Lib.hid (X4.out.below hb5 L4.out)
  have L5 := Lib.hid (Nat.lt_of_lt_of_le L4.out hb5.size)
  have HLT := Lib.hid ho5.lt
  have R5 := Lib.hid ho5
  obtain ⟨A', c', rfl⟩ := ho5.slice
  have HNE : Hid (∀ a, A' = some a → a.block ≠ w2.heap.size) := fun a ha hh => by
    subst ha
    have := (HLT.out a.block rfl).1
    have := L4.out
    omega
  clear ho5 hb5 L4 X4
  go_wp2_with fail
  go_loopw [11, 39] (fun q i wr => ∃ (m : Nat) (cnt : Int) (x : Ent), i = .int .i64 (m : Int) ∧ q = .int .i64 cnt ∧ m ≤ L.length ∧ Seen L k m cnt x ∧ BoxAt wr w2.heap.size x ∧ Kept (fun j => j = w2.heap.size) w5 wr) (fun _ i _ => L.length - (intOf i).toNat)
  case atStart => exact ⟨0, 0, Ent.zero, rfl, rfl, Nat.zero_le _, .inl ⟨rfl, rfl, fun j x hj => absurd hj (by omega)⟩, X5.out, Kept.refl _ _⟩
  case round =>
    obtain ⟨m, cnt, x, rfl, rfl, hmn, hseen, hbox, hkept⟩ := hrel
    have SEEN := Lib.hid hseen
    have BOX := Lib.hid hbox
    have KEPT := Lib.hid hkept
    have FRR : Hid (Fr w1 wr g base L) := (F2.out.below (B5.out.trans (hkept.below B5.out.size fun k hk => by omega)))
    obtain ⟨x0, x1, x2, x3, x4, x5, x6, x7⟩ := hbox.ent
    have hbx := hbox.free
    have hlb : w2.heap.size < wr.heap.size := Nat.lt_of_lt_of_le L5.out hkept.size
    clear hseen hbox hkept
    by_cases hlt : m < L.length
    · obtain ⟨e, he⟩ : ∃ e, L[m]? = some e := ⟨_, List.getElem?_eq_getElem hlt⟩
      have HE := Lib.hid he
      obtain ⟨v1, v2, v3, v4, v5, v6, v7⟩ := FRR.out.val.ent m e he
      have hsm := FRR.out.val.sums m hmn
      have hvlo := FRR.out.val.lo
      have hebase : -9223372036854775808 ≤ e.base := by omega
      obtain ⟨b, o, rfl, hbl, hc⟩ := R5.out.row (by omega)
      obtain ⟨d0, d1, d2, d3, d4, d5, d6, d7⟩ := (hc m e he).kept KEPT.out hbl (HNE.out _ rfl)
      clear hc he v1 v2 hsm
      have hq1 : (0 : Int) ≤ (m : Int) := by omega
      have hq2 : (m : Int) < (L.length : Int) := by omega
      have HPB : Hid (BoxAt ((putEnt wr w2.heap.size e).alloc (.cells #[.int .i64 e.base, .int .i64 e.count, .int .i64 e.at_, .int .i64 e.size, .int .i64 e.last, .int .i64 e.pid, .int .i16 e.pep, .int .i32 e.seq] 30)) w2.heap.size e) := (BOX.out.put e).alloc _
      have HPK : Hid (Kept (fun j => j = w2.heap.size) w5 ((putEnt wr w2.heap.size e).alloc (.cells #[.int .i64 e.base, .int .i64 e.count, .int .i64 e.at_, .int .i64 e.size, .int .i64 e.last, .int .i64 e.pid, .int .i16 e.pep, .int .i32 e.seq] 30))) := (KEPT.out.put rfl e).alloc _
      have HNB : Hid (BoxAt (wr.alloc (.cells #[.int .i64 e.base, .int .i64 e.count, .int .i64 e.at_, .int .i64 e.size, .int .i64 e.last, .int .i64 e.pid, .int .i16 e.pep, .int .i32 e.seq] 30)) w2.heap.size x) := BOX.out.alloc _
      have HNK : Hid (Kept (fun j => j = w2.heap.size) w5 (wr.alloc (.cells #[.int .i64 e.base, .int .i64 e.count, .int .i64 e.at_, .int .i64 e.size, .int .i64 e.last, .int .i64 e.pid, .int .i16 e.pep, .int .i32 e.seq] 30))) := KEPT.out.alloc _
      have SKIP : Hid (holdsB k e = false → Seen L k (m + 1) cnt x) := SEEN.out.skip HE.out
      by_cases hk1 : e.base ≤ k
      · by_cases hk2 : k < e.base + e.count
        · have hh : holdsB k e = true := by unfold holdsB; simp [hk1, hk2]
          have hcnt : cnt = 0 := by
            rcases SEEN.out with ⟨h1, _⟩ | ⟨h1, i, hi, h2, h3⟩
            · exact h1
            · rw [holds_lt FRR.out.val hi h2 HE.out h3] at hh; cases hh
          subst hcnt
          have HH := Lib.hid hh
          clear hh
          go_wp2_with fail
          go_roundw
          case rel => exact ⟨m + 1, 1, e, by go_num, rfl, by omega, .inr ⟨rfl, m, by omega, HE.out, HH.out⟩, HPB.out, HPK.out⟩
          case measure => simp [intOf]; omega
        · go_wp2_with fail
          go_roundw
          case rel => exact ⟨m + 1, cnt, x, by go_num, rfl, by omega, SKIP.out (by unfold holdsB; simp [hk2]), HNB.out, HNK.out⟩
          case measure => simp [intOf]; omega
      · go_wp2_with fail
        go_roundw
        case rel => exact ⟨m + 1, cnt, x, by go_num, rfl, by omega, SKIP.out (by unfold holdsB; simp [hk1]), HNB.out, HNK.out⟩
        case measure => simp [intOf]; omega
    · have hmn2 : m = L.length := by omega
      subst hmn2
      rcases SEEN.out with ⟨rfl, rfl, hno⟩ | ⟨rfl, i, hil, hix, hhx⟩
      · have hat : atOf base L k = none := by
          rw [at_find FRR.out.val]
          exact find_no L fun j y hy => hno j y (List.getElem?_eq_some_iff.1 hy).1 hy
        have hrange : k < base ∨ (¬ k < base ∧ nextOf base L ≤ k) := by
          rcases Int.lt_or_le k base with h | h
          · exact .inl h
          · refine .inr ⟨by omega, Int.not_lt.1 fun h2 => ?_⟩
            have := (atOf_some FRR.out.val k).2 ⟨h, h2⟩
            rw [hat] at this
            cases this
        have HAT := Lib.hid hat
        have HSP := Lib.hid (span_none (base := base) (L := L) k most hat)
        clear hno hat
        simp only [Ent.zero] at x0 x1 x2 x3 x4 x5 x6 x7
        go_wp2_with fail
        refine (fr_at FRR.out (by omega) k).mono ?_
        rintro r w6 ⟨rfl, h6⟩
        rw [HAT.out, optAns_none]
        have F7 := Lib.hid ((FRR.out.below h6).below ((Below.refl w6.heap.size w6).alloc (Nat.le_refl _) (.cells #[.int .i64 0, .int .i64 0, .int .i64 0, .int .i64 0, .int .i64 0, .int .i64 0, .int .i16 0, .int .i32 0] 30)))
        have X7 := Lib.hid (boxAt w6 Ent.zero)
        have L7 := Lib.hid (show w6.heap.size < (w6.alloc (.cells #[.int .i64 0, .int .i64 0, .int .i64 0, .int .i64 0, .int .i64 0, .int .i64 0, .int .i16 0, .int .i32 0] 30)).heap.size by simp)
        simp only [Ent.zero] at X7
        clear h6 x0 x1 x2 x3 x4 x5 x6 x7 hbx
        go_wp2_with fail
        generalize w6.alloc (.cells #[.int .i64 0, .int .i64 0, .int .i64 0, .int .i64 0, .int .i64 0, .int .i64 0, .int .i16 0, .int .i32 0] 30) = w7 at *
        refine (fr_span F7.out (by omega) k most HM.out).mono ?_
        rintro r w8 ⟨rfl, h8⟩
        rw [HSP.out]
        simp only [spanAns]
        have F8 := Lib.hid (F7.out.below h8)
        have X8 := Lib.hid (X7.out.below h8 L7.out)
        have L8 := Lib.hid (Nat.lt_of_lt_of_le L7.out h8.size)
        clear h8
        go_wp2_with fail
        refine (fr_base F8.out).mono ?_
        rintro r w9 ⟨rfl, rfl⟩
        rcases hrange with hr1 | ⟨hr1, hr2⟩
        · obtain ⟨y0, y1, y2, y3, y4, y5, y6, y7⟩ := X8.out.ent
          go_wp2_with fail
          go_ret
          exact ⟨rfl, B1.out.trans (F8.out.bel.mono B1.out.size)⟩
        · go_wp2_with fail
          refine (fr_next F8.out (by omega)).mono ?_
          rintro r w10 ⟨rfl, h10⟩
          obtain ⟨y0, y1, y2, y3, y4, y5, y6, y7⟩ := (X8.out.below h10 L8.out).ent
          have F10 := Lib.hid (F8.out.below h10)
          clear h10
          go_wp2_with fail
          go_ret
          exact ⟨rfl, B1.out.trans (F10.out.bel.mono B1.out.size)⟩
      · have hat := at_of_holds FRR.out.val hix hhx
        obtain ⟨hr1, hr2⟩ := (atOf_some FRR.out.val k).1 (by rw [hat]; rfl)
        obtain ⟨T, hsp, t1, t2, t3, t4, t5, t6, t7⟩ := span_facts FRR.out.val k most hat
        have HAT := Lib.hid hat
        have HSP := Lib.hid hsp
        clear hat hsp hix hhx
        go_wp2_with fail
        refine (fr_at FRR.out (by omega) k).mono ?_
        rintro r w6 ⟨rfl, h6⟩
        rw [HAT.out, optAns_some]
        have F7 := Lib.hid ((FRR.out.below h6).below ((Below.refl w6.heap.size w6).alloc (Nat.le_refl _) (.cells #[.int .i64 x.base, .int .i64 x.count, .int .i64 x.at_, .int .i64 x.size, .int .i64 x.last, .int .i64 x.pid, .int .i16 x.pep, .int .i32 x.seq] 30)))
        have X7 := Lib.hid (boxAt w6 x)
        have L7 := Lib.hid (show w6.heap.size < (w6.alloc (.cells #[.int .i64 x.base, .int .i64 x.count, .int .i64 x.at_, .int .i64 x.size, .int .i64 x.last, .int .i64 x.pid, .int .i16 x.pep, .int .i32 x.seq] 30)).heap.size by simp)
        have O7 : Hid (BoxAt (w6.alloc (.cells #[.int .i64 x.base, .int .i64 x.count, .int .i64 x.at_, .int .i64 x.size, .int .i64 x.last, .int .i64 x.pid, .int .i16 x.pep, .int .i32 x.seq] 30)) w2.heap.size x) := (BOX.out.below h6 hlb).alloc _
        have LO7 : Hid (w2.heap.size < (w6.alloc (.cells #[.int .i64 x.base, .int .i64 x.count, .int .i64 x.at_, .int .i64 x.size, .int .i64 x.last, .int .i64 x.pid, .int .i16 x.pep, .int .i32 x.seq] 30)).heap.size) := (Array.getElem?_eq_some_iff.1 O7.out).1
        clear h6 x0 x1 x2 x3 x4 x5 x6 x7 hbx
        go_wp2_with fail
        generalize w6.alloc (.cells #[.int .i64 x.base, .int .i64 x.count, .int .i64 x.at_, .int .i64 x.size, .int .i64 x.last, .int .i64 x.pid, .int .i16 x.pep, .int .i32 x.seq] 30) = w7 at *
        refine (fr_span F7.out (by omega) k most HM.out).mono ?_
        rintro r w8 ⟨rfl, h8⟩
        rw [HSP.out]
        simp only [spanAns]
        have F8 := Lib.hid (F7.out.below h8)
        have X8 := Lib.hid (X7.out.below h8 L7.out)
        have L8 := Lib.hid (Nat.lt_of_lt_of_le L7.out h8.size)
        have O8 := Lib.hid (O7.out.below h8 LO7.out)
        have LO8 := Lib.hid (Nat.lt_of_lt_of_le LO7.out h8.size)
        clear h8
        go_wp2_with fail
        refine (fr_base F8.out).mono ?_
        rintro r w9 ⟨rfl, rfl⟩
        go_wp2_with fail
        refine (fr_next F8.out (by omega)).mono ?_
        rintro r w10 ⟨rfl, h10⟩
        obtain ⟨y0, y1, y2, y3, y4, y5, y6, y7⟩ := (X8.out.below h10 L8.out).ent
        obtain ⟨z0, z1, z2, z3, z4, z5, z6, z7⟩ := (O8.out.below h10 LO8.out).ent
        have F10 := Lib.hid (F8.out.below h10)
        have hlx : w6.heap.size < w10.heap.size := Nat.lt_of_lt_of_le L8.out h10.size
        have Y10 := Lib.hid y3
        clear h10
        go_wp2_with fail
        refine (fr_size F10.out (by omega)).mono ?_
        rintro r w11 ⟨rfl, h11⟩
        have u3 := keep_cell h11 hlx Y10.out
        have F11 := Lib.hid (F10.out.below h11)
        clear h11
        by_cases hT : T = x.at_ + x.size
        · subst hT
          go_wp2_with fail
          go_ret
          exact ⟨rfl, B1.out.trans (F11.out.bel.mono B1.out.size)⟩
        · have hT2 : T - x.at_ ≤ most := by omega
          have hT3 : (T == x.at_ + x.size) = false := by simpa using hT
          have hw : IntKind.i64.wrap (T - x.at_) = T - x.at_ := IntWalk.i64_in _ (by omega)
          go_wp2_with fail
          go_ret
          exact ⟨rfl, B1.out.trans (F11.out.bel.mono B1.out.size)⟩
end Go.Proofs.Ytomlhedichdkkaa
