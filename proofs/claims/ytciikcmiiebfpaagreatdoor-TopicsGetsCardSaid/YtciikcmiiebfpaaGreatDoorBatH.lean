/- batch.head of one whole batch that is not packed and in which nothing is amiss (printed by gen_head.py). -/
import Derived.Test.YtciikcmiiebfpaaGreatDoorPuts
namespace Go.Proofs.YtciikcmiiebfpaaGreatDoor
open Go Go.RowKit Go.Proofs.YtciikcmiiebfpaaGreatDoorW.PrintWords Go.Proofs.YtciikcmiiebfpaaGreatDoor.PTopicsGets Go.Proofs.YtciikcmiiebfpaaGreatDoorW.PrintMore
set_option linter.unusedVariables false
set_option linter.unusedSimpArgs false

/-- A piece b[:k]. -/
theorem piece_take {A : Option Addr} {n c : Nat} {l : Bs} (hl : l.length = n) (hn : n ≤ c) (x : Int) (k : Nat) (hx : x = k) (h : k ≤ n) :
    (∀ W, (Instr.slice 51 (.slice A n c) none (some (.int .i64 x)) none).run Tryz.prog W = .ok (.slice A k c) W) ∧ (∀ W, CB W A n l → CB W A k (l.take k)) := by
  obtain ⟨i0, hi0, _, hsz, _⟩ := info_parts info5
  obtain ⟨hcut, hA, hC⟩ := print_take_of (P := Tryz.prog) (Value.int .u8) (0 : Int) 51 5 .i64 Tryz.underlying51 hi0 hsz A c l x (by omega) (by omega) (by omega)
  have hlen : (l.take x.toNat).length = k := by rw [List.length_take]; omega
  have hxk : x.toNat = k := by omega
  rw [hlen, hl] at hcut
  refine ⟨hcut, fun W H => ?_⟩
  have := Kd.C_of_reads (h1 := fun _ => rfl) (hA W (by have := Kd.reads_of_C (d := (0 : Int)) H; rw [← hl] at this; exact this))
  rw [hlen, hxk] at this
  exact this
/-- A piece b[k:]. -/
theorem piece_drop {A : Option Addr} {n c : Nat} {l : Bs} (hl : l.length = n) (hn : n ≤ c) (x : Int) (k : Nat) (hx : x = k) (h : k ≤ n) :
    ∃ A5, (∀ W, (Instr.slice 51 (.slice A n c) (some (.int .i64 x)) none none).run Tryz.prog W = .ok (.slice A5 (n - k) (c - k)) W) ∧ (∀ W, CB W A n l → CB W A5 (n - k) (l.drop k)) := by
  obtain ⟨i0, hi0, _, hsz, _⟩ := info_parts info5
  obtain ⟨A5, hcut, hA, hC⟩ := print_drop_of (P := Tryz.prog) (Value.int .u8) (0 : Int) 51 5 .i64 Tryz.underlying51 hi0 hsz A c l x (by omega) (by omega) (by omega)
  have hxk : x.toNat = k := by omega
  rw [hxk] at hcut hA
  have hlen : (l.drop k).length = n - k := by rw [List.length_drop, hl]
  rw [hlen, hl] at hcut
  refine ⟨A5, hcut, fun W H => ?_⟩
  have := Kd.C_of_reads (h1 := fun _ => rfl) (hA W (by have := Kd.reads_of_C (d := (0 : Int)) H; rw [← hl] at this; exact this))
  rw [hlen] at this
  exact this

/-- A head in which nothing is amiss; the body is not packed. -/
structure HeadOk (l : Bs) (v0 v12 v17 v27 v35 v43 v51 v53 v57 : Int) : Prop where
  byt : Byt l
  len : 61 ≤ l.length
  ms : measure_ l 0 = ((l.length : Int), 0)
  e0 : bes l 0 8 = v0
  e12 : bes l 12 4 = v12
  e16 : bes l 16 1 = 2
  e17 : bes l 17 4 = v17
  sum : IntKind.u32.wrap v17 = cupd 0 (l.drop 21)
  e21 : bes l 21 2 = 0
  e23 : bes l 23 4 = v57 - 1
  e27 : bes l 27 8 = v27
  e35 : bes l 35 8 = v35
  e43 : bes l 43 8 = v43
  e51 : bes l 51 2 = v51
  e53 : bes l 53 4 = v53
  e57 : bes l 57 4 = v57
  base : badBase v0 = false
  prod : badProd v43 v51 v53 = false
  cnt : 1 ≤ v57 ∧ v57 ≤ 256
theorem take_piece (l : Bs) {a k n : Nat} (h : a + k ≤ n) : ((l.take n).drop a).take k = (l.drop a).take k := by
  rw [List.drop_take, List.take_take, Nat.min_eq_left (by omega)]

/-- Two boxes of the call's own (the result's at b2, the head's at b3), older than the reader at g. -/
structure HdSt (w W : World) (B g b2 b3 : Nat) (z cs : Array Value) : Prop where
  b : Below w.heap.size w W
  x2 : W.heap[b2]? = some (.cells z 231 (0, 0))
  x3 : W.heap[b3]? = some (.cells cs 231 (0, 0))
  l2 : w.heap.size ≤ b2
  l3 : w.heap.size ≤ b3
  u2 : b2 < B
  u3 : b3 < B
  n23 : b2 ≠ b3
  gB : B ≤ g
theorem HdSt.call {w W W' : World} {B g b2 b3 : Nat} {z cs : Array Value} (h : HdSt w W B g b2 b3 z cs) (ht : Tch (fun i => i = g) W W') : HdSt w W' B g b2 b3 z cs :=
  have hu2 := h.u2
  have hu3 := h.u3
  have hl2 := h.l2
  have hg := h.gB
  ⟨h.b.trans (ht.below h.b.size (fun i hi => by omega)), (ht.block b2 (blk_lt h.x2) (by omega)).trans h.x2, (ht.block b3 (blk_lt h.x3) (by omega)).trans h.x3, h.l2, h.l3, h.u2, h.u3, h.n23, h.gB⟩
theorem HdSt.new {w W W' : World} {B g b2 b3 : Nat} {z cs : Array Value} (h : HdSt w W B g b2 b3 z cs) (hb : Below W.heap.size W W') : HdSt w W' B g b2 b3 z cs :=
  ⟨h.b.trans (hb.mono h.b.size), blk_below h.x2 hb, blk_below h.x3 hb, h.l2, h.l3, h.u2, h.u3, h.n23, h.gB⟩
theorem HdSt.put {w W : World} {B g b2 b3 : Nat} {z cs : Array Value} (h : HdSt w W B g b2 b3 z cs) (i : Nat) (v : Value) (cs' : Array Value) (e : cs.setIfInBounds i v = cs') : HdSt w (W.setCell ⟨b3, i, none⟩ v) B g b2 b3 z cs' :=
  have t := Tch.set (S := fun i => i = b3) W ⟨b3, i, none⟩ v rfl
  ⟨h.b.trans (t.below h.b.size (fun k hk => by rw [hk]; exact h.l3)), (t.block b2 (blk_lt h.x2) h.n23).trans h.x2, blk_put h.x3 i v e, h.l2, h.l3, h.u2, h.u3, h.n23, h.gB⟩
theorem Rd.put {w W : World} {B g b2 b3 : Nat} {z cs : Array Value} {A : Option Addr} {n c : Nat} {l : Bs} {at_ : Nat} (hr : Rd W B g A n c l at_) (h : HdSt w W B g b2 b3 z cs) (i : Nat) (v : Value) : Rd (W.setCell ⟨b3, i, none⟩ v) B g A n c l at_ :=
  hr.old (Tch.set (S := fun i => i = b3) W ⟨b3, i, none⟩ v rfl) h.u3
abbrev infZ : Array Value := #[.int .i64 0, .int .i64 0, .int .i32 0, .bool false, .int .i64 0, .int .i64 0, .int .i64 0, .int .i64 0, .int .i16 0, .int .i32 0]
theorem CB.below {w W : World} {A : Option Addr} {n : Nat} {l : Bs} (h : CB w A n l) (hb : Below w.heap.size w W) : CB W A n l := Kd.C_below h hb
theorem Tab.below {w W : World} (h : Tab w) (hb : Below w.heap.size w W) : Tab W := fun i hi => by
  have := h i hi
  exact (hb.cell (p := ⟨1, i, none⟩) (World.block_lt_of_cell? w _ this)).trans this

set_option maxHeartbeats 8000000 in
set_option maxRecDepth 100000 in
theorem head_ok {w : World} {A : Option Addr} {n c : Nat} {l : Bs} {v0 v12 v17 v27 v35 v43 v51 v53 v57 : Int} (hl : l.length = n) (hn : n ≤ c) (hs : n < 1073741824) (HB : CB w A n l) (HT : Tab w) (h : HeadOk l v0 v12 v17 v27 v35 v43 v51 v53 v57) :
    Calls Tryz.prog 115 #[.slice A n c, .bool true] w fun r w' => Below w.heap.size w w' ∧ r = .returned (.tuple #[.agg #[.int .i64 v0, .int .i64 (n : Int), .int .i32 v12, .bool false, .int .i64 v57, .int .i64 v27, .int .i64 v35, .int .i64 v43, .int .i16 v51, .int .i32 v53], .int .i64 0]) := by
  have h61 : ¬ (n : Int) < 61 := by have := h.len; omega
  obtain ⟨hcut, hM⟩ := piece_take (A := A) hl hn 61 61 rfl (by omega)
  obtain ⟨A21, hcut2, hM2⟩ := piece_drop (A := A) hl hn 21 21 rfl (by omega)
  have hpl : (l.take 61).length = 61 := by rw [List.length_take]; omega
  have hp21 : (l.drop 21).length = n - 21 := by rw [List.length_drop, hl]
  obtain ⟨W0, hW0⟩ : ∃ W0, W0 = (w.alloc (.cells infZ 231)).alloc (.cells infZ 231) := ⟨_, rfl⟩
  have b1 : Below w.heap.size w W0 := by rw [hW0]; exact ((Below.refl _ _).alloc (Nat.le_refl _) _).alloc (by rw [World.size_alloc]; omega) _
  have hsz : W0.heap.size = w.heap.size + 2 := by rw [hW0, World.size_alloc, World.size_alloc]
  have x4 : W0.heap[w.heap.size]? = some (.cells infZ 231 (0, 0)) := by
    rw [hW0]
    exact blk_below (blk_new _ _) ((Below.refl _ _).alloc (Nat.le_refl _) _)
  have x5 : W0.heap[w.heap.size + 1]? = some (.cells infZ 231 (0, 0)) := by
    rw [hW0]
    have := blk_new (w.alloc (.cells infZ 231)) (.cells infZ 231)
    rw [World.size_alloc] at this
    exact this
  have hms := measure_any A n c l h.byt hn hl hs 0 W0 (HB.below b1)
  rw [h.ms, hl] at hms
  have HMS := Lib.hid hms
  have HC := Lib.hid (fun (W : World) (hb : Below w.heap.size w W) => hM W (HB.below hb))
  have HC2 := Lib.hid (fun (W : World) (hb : Below w.heap.size w W) => hM2 W (HB.below hb))
  have HTB := Lib.hid (fun (W : World) (hb : Below w.heap.size w W) => HT.below hb)
  have HBY := Lib.hid (h.byt.take 61)
  have HBY2 := Lib.hid (h.byt.drop 21)
  have HPL := Lib.hid hpl
  have HPL2 := Lib.hid hp21
  have HSUM := Lib.hid h.sum
  have HBB := Lib.hid h.base
  have HPR := Lib.hid h.prod
  have HCNT := Lib.hid h.cnt
  have E0 := Lib.hid (show IntKind.i64.wrap (ube (((l.take 61).drop 0).take 8)) = v0 by rw [take_piece l (by omega), ← bes8 h.byt (by omega)]; exact h.e0)
  have E12 := Lib.hid (show IntKind.i32.wrap (ube (((l.take 61).drop 12).take 4)) = v12 by rw [take_piece l (by omega), ← bes4 h.byt (by omega)]; exact h.e12)
  have E16 := Lib.hid (show IntKind.i8.wrap (ube (((l.take 61).drop 16).take 1)) = 2 by rw [take_piece l (by omega), ← bes1 h.byt (by omega)]; exact h.e16)
  have E17 := Lib.hid (show IntKind.i32.wrap (ube (((l.take 61).drop 17).take 4)) = v17 by rw [take_piece l (by omega), ← bes4 h.byt (by omega)]; exact h.e17)
  have E21 := Lib.hid (show IntKind.i16.wrap (ube (((l.take 61).drop 21).take 2)) = 0 by rw [take_piece l (by omega), ← bes2 h.byt (by omega)]; exact h.e21)
  have E23 := Lib.hid (show IntKind.i32.wrap (ube (((l.take 61).drop 23).take 4)) = (v57 - 1) by rw [take_piece l (by omega), ← bes4 h.byt (by omega)]; exact h.e23)
  have E27 := Lib.hid (show IntKind.i64.wrap (ube (((l.take 61).drop 27).take 8)) = v27 by rw [take_piece l (by omega), ← bes8 h.byt (by omega)]; exact h.e27)
  have E35 := Lib.hid (show IntKind.i64.wrap (ube (((l.take 61).drop 35).take 8)) = v35 by rw [take_piece l (by omega), ← bes8 h.byt (by omega)]; exact h.e35)
  have E43 := Lib.hid (show IntKind.i64.wrap (ube (((l.take 61).drop 43).take 8)) = v43 by rw [take_piece l (by omega), ← bes8 h.byt (by omega)]; exact h.e43)
  have E51 := Lib.hid (show IntKind.i16.wrap (ube (((l.take 61).drop 51).take 2)) = v51 by rw [take_piece l (by omega), ← bes2 h.byt (by omega)]; exact h.e51)
  have E53 := Lib.hid (show IntKind.i32.wrap (ube (((l.take 61).drop 53).take 4)) = v53 by rw [take_piece l (by omega), ← bes4 h.byt (by omega)]; exact h.e53)
  have E57 := Lib.hid (show IntKind.i32.wrap (ube (((l.take 61).drop 57).take 4)) = v57 by rw [take_piece l (by omega), ← bes4 h.byt (by omega)]; exact h.e57)
  have HHS := Lib.hid (show HdSt w W0 (w.heap.size + 2) (w.heap.size + 2) w.heap.size (w.heap.size + 1) infZ infZ from ⟨b1, x4, x5, Nat.le_refl _, by omega, by omega, by omega, by omega, Nat.le_refl _⟩)
  have HSZ := Lib.hid hsz
  clear h HB HT hM hM2 hpl hp21 b1 hsz x4 x5 hms
  generalize l.take 61 = p at *
  unfold infZ at hW0
  go_enter Tryz.func115, Tryz.ntmps115
  go_wp2_with fail
  rw [← hW0]
  clear hW0
  refine HMS.out.mono ?_
  rintro r w1 ⟨hb1, rfl⟩
  have HS1 := Lib.hid (HHS.out.new hb1)
  have HSZ1 : Hid (w.heap.size + 2 ≤ w1.heap.size) := by have h1 := HSZ.out; have h2 := hb1.size; show _ ≤ _; omega
  clear HMS hb1 HHS
  go_wp2_with fail
  refine (newReader_any A 61 c p HPL.out (by omega) w1 (HC.out w1 HS1.out.b)).mono ?_
  rintro r w2 ⟨hb2, g, A', c', hg, rfl, hr⟩
  have HG : Hid (w1.heap.size ≤ g) := hg
  have HSa0 : HdSt w w2 w1.heap.size g w.heap.size (w.heap.size + 1) infZ infZ := by
    have q := HS1.out.new hb2
    have e := HSZ1.out
    exact ⟨q.b, q.x2, q.x3, q.l2, q.l3, by omega, by omega, q.n23, hg⟩
  have HSa := Lib.hid HSa0
  have HRa := Lib.hid hr
  clear hb2 hg hr HSa0 HS1 HG
  have z1 : w2.frozen? ⟨w.heap.size + 1, 1, none⟩ = false := blk_frozen HSa.out.x3 1
  have y1 : w2.cell? ⟨w.heap.size + 1, 1, none⟩ = some (.int .i64 0) := blk_cell HSa.out.x3 1
  go_wp2_with fail
  clear z1 y1
  have HSb := Lib.hid (HSa.out.put 1 (.int .i64 (n : Int)) #[.int .i64 0, .int .i64 (n : Int), .int .i32 0, .bool false, .int .i64 0, .int .i64 0, .int .i64 0, .int .i64 0, .int .i16 0, .int .i32 0] rfl)
  have HRb := Lib.hid (HRa.out.put HSa.out 1 (.int .i64 (n : Int)))
  clear HSa HRa
  generalize w2.setCell ⟨w.heap.size + 1, 1, none⟩ (.int .i64 (n : Int)) = Wb at *
  have hI := i64_ok HRb.out HBY.out (by omega)
  simp only [Nat.reduceAdd] at hI
  rw [E0.out] at hI
  refine hI.mono ?_
  clear hI
  rintro r wc ⟨ht, hr, rfl⟩
  have HSc := Lib.hid (HSb.out.call ht)
  have HRc := Lib.hid hr
  clear ht hr HSb HRb
  have z1 : wc.frozen? ⟨w.heap.size + 1, 0, none⟩ = false := blk_frozen HSc.out.x3 0
  have y1 : wc.cell? ⟨w.heap.size + 1, 0, none⟩ = some (.int .i64 0) := blk_cell HSc.out.x3 0
  go_wp2_with fail
  clear z1 y1
  have HSd := Lib.hid (HSc.out.put 0 (.int .i64 v0) #[.int .i64 v0, .int .i64 (n : Int), .int .i32 0, .bool false, .int .i64 0, .int .i64 0, .int .i64 0, .int .i64 0, .int .i16 0, .int .i32 0] rfl)
  have HRd := Lib.hid (HRc.out.put HSc.out 0 (.int .i64 v0))
  clear HSc HRc
  generalize wc.setCell ⟨w.heap.size + 1, 0, none⟩ (.int .i64 v0) = Wd at *
  refine (skip_ok HRd.out 4 (by omega)).mono ?_
  rintro r we ⟨ht, hr, rfl⟩
  have HSe := Lib.hid (HSd.out.call ht)
  have HRe := Lib.hid hr
  clear ht hr HSd HRd
  go_wp2_with fail
  have hI := i32_ok HRe.out HBY.out (by omega)
  simp only [Nat.reduceAdd] at hI
  rw [E12.out] at hI
  refine hI.mono ?_
  clear hI
  rintro r wf ⟨ht, hr, rfl⟩
  have HSf := Lib.hid (HSe.out.call ht)
  have HRf := Lib.hid hr
  clear ht hr HSe HRe
  have z1 : wf.frozen? ⟨w.heap.size + 1, 2, none⟩ = false := blk_frozen HSf.out.x3 2
  have y1 : wf.cell? ⟨w.heap.size + 1, 2, none⟩ = some (.int .i32 0) := blk_cell HSf.out.x3 2
  go_wp2_with fail
  clear z1 y1
  have HSg := Lib.hid (HSf.out.put 2 (.int .i32 v12) #[.int .i64 v0, .int .i64 (n : Int), .int .i32 v12, .bool false, .int .i64 0, .int .i64 0, .int .i64 0, .int .i64 0, .int .i16 0, .int .i32 0] rfl)
  have HRg := Lib.hid (HRf.out.put HSf.out 2 (.int .i32 v12))
  clear HSf HRf
  generalize wf.setCell ⟨w.heap.size + 1, 2, none⟩ (.int .i32 v12) = Wg at *
  have hI := i8_ok HRg.out HBY.out (by omega)
  simp only [Nat.reduceAdd] at hI
  rw [E16.out] at hI
  refine hI.mono ?_
  clear hI
  rintro r wh ⟨ht, hr, rfl⟩
  have HSh := Lib.hid (HSg.out.call ht)
  have HRh := Lib.hid hr
  clear ht hr HSg HRg
  go_wp2_with fail
  have hI := i32_ok HRh.out HBY.out (by omega)
  simp only [Nat.reduceAdd] at hI
  rw [E17.out] at hI
  refine hI.mono ?_
  clear hI
  rintro r wi ⟨ht, hr, rfl⟩
  have HSi := Lib.hid (HSh.out.call ht)
  have HRi := Lib.hid hr
  clear ht hr HSh HRh
  go_wp2_with fail
  have hI := i16_ok HRi.out HBY.out (by omega)
  simp only [Nat.reduceAdd] at hI
  rw [E21.out] at hI
  refine hI.mono ?_
  clear hI
  rintro r wj ⟨ht, hr, rfl⟩
  have HSj := Lib.hid (HSi.out.call ht)
  have HRj := Lib.hid hr
  clear ht hr HSi HRi
  go_wp2_with fail
  have hI := i32_ok HRj.out HBY.out (by omega)
  simp only [Nat.reduceAdd] at hI
  rw [E23.out] at hI
  refine hI.mono ?_
  clear hI
  rintro r wk ⟨ht, hr, rfl⟩
  have HSk := Lib.hid (HSj.out.call ht)
  have HRk := Lib.hid hr
  clear ht hr HSj HRj
  go_wp2_with fail
  have hI := i64_ok HRk.out HBY.out (by omega)
  simp only [Nat.reduceAdd] at hI
  rw [E27.out] at hI
  refine hI.mono ?_
  clear hI
  rintro r wl ⟨ht, hr, rfl⟩
  have HSl := Lib.hid (HSk.out.call ht)
  have HRl := Lib.hid hr
  clear ht hr HSk HRk
  have z1 : wl.frozen? ⟨w.heap.size + 1, 5, none⟩ = false := blk_frozen HSl.out.x3 5
  have y1 : wl.cell? ⟨w.heap.size + 1, 5, none⟩ = some (.int .i64 0) := blk_cell HSl.out.x3 5
  go_wp2_with fail
  clear z1 y1
  have HSm := Lib.hid (HSl.out.put 5 (.int .i64 v27) #[.int .i64 v0, .int .i64 (n : Int), .int .i32 v12, .bool false, .int .i64 0, .int .i64 v27, .int .i64 0, .int .i64 0, .int .i16 0, .int .i32 0] rfl)
  have HRm := Lib.hid (HRl.out.put HSl.out 5 (.int .i64 v27))
  clear HSl HRl
  generalize wl.setCell ⟨w.heap.size + 1, 5, none⟩ (.int .i64 v27) = Wm at *
  have hI := i64_ok HRm.out HBY.out (by omega)
  simp only [Nat.reduceAdd] at hI
  rw [E35.out] at hI
  refine hI.mono ?_
  clear hI
  rintro r wn ⟨ht, hr, rfl⟩
  have HSn := Lib.hid (HSm.out.call ht)
  have HRn := Lib.hid hr
  clear ht hr HSm HRm
  have z1 : wn.frozen? ⟨w.heap.size + 1, 6, none⟩ = false := blk_frozen HSn.out.x3 6
  have y1 : wn.cell? ⟨w.heap.size + 1, 6, none⟩ = some (.int .i64 0) := blk_cell HSn.out.x3 6
  go_wp2_with fail
  clear z1 y1
  have HSo := Lib.hid (HSn.out.put 6 (.int .i64 v35) #[.int .i64 v0, .int .i64 (n : Int), .int .i32 v12, .bool false, .int .i64 0, .int .i64 v27, .int .i64 v35, .int .i64 0, .int .i16 0, .int .i32 0] rfl)
  have HRo := Lib.hid (HRn.out.put HSn.out 6 (.int .i64 v35))
  clear HSn HRn
  generalize wn.setCell ⟨w.heap.size + 1, 6, none⟩ (.int .i64 v35) = Wo at *
  have hI := i64_ok HRo.out HBY.out (by omega)
  simp only [Nat.reduceAdd] at hI
  rw [E43.out] at hI
  refine hI.mono ?_
  clear hI
  rintro r wp ⟨ht, hr, rfl⟩
  have HSp := Lib.hid (HSo.out.call ht)
  have HRp := Lib.hid hr
  clear ht hr HSo HRo
  have z1 : wp.frozen? ⟨w.heap.size + 1, 7, none⟩ = false := blk_frozen HSp.out.x3 7
  have y1 : wp.cell? ⟨w.heap.size + 1, 7, none⟩ = some (.int .i64 0) := blk_cell HSp.out.x3 7
  go_wp2_with fail
  clear z1 y1
  have HSq := Lib.hid (HSp.out.put 7 (.int .i64 v43) #[.int .i64 v0, .int .i64 (n : Int), .int .i32 v12, .bool false, .int .i64 0, .int .i64 v27, .int .i64 v35, .int .i64 v43, .int .i16 0, .int .i32 0] rfl)
  have HRq := Lib.hid (HRp.out.put HSp.out 7 (.int .i64 v43))
  clear HSp HRp
  generalize wp.setCell ⟨w.heap.size + 1, 7, none⟩ (.int .i64 v43) = Wq at *
  have hI := i16_ok HRq.out HBY.out (by omega)
  simp only [Nat.reduceAdd] at hI
  rw [E51.out] at hI
  refine hI.mono ?_
  clear hI
  rintro r wr ⟨ht, hr, rfl⟩
  have HSr := Lib.hid (HSq.out.call ht)
  have HRr := Lib.hid hr
  clear ht hr HSq HRq
  have z1 : wr.frozen? ⟨w.heap.size + 1, 8, none⟩ = false := blk_frozen HSr.out.x3 8
  have y1 : wr.cell? ⟨w.heap.size + 1, 8, none⟩ = some (.int .i16 0) := blk_cell HSr.out.x3 8
  go_wp2_with fail
  clear z1 y1
  have HSs := Lib.hid (HSr.out.put 8 (.int .i16 v51) #[.int .i64 v0, .int .i64 (n : Int), .int .i32 v12, .bool false, .int .i64 0, .int .i64 v27, .int .i64 v35, .int .i64 v43, .int .i16 v51, .int .i32 0] rfl)
  have HRs := Lib.hid (HRr.out.put HSr.out 8 (.int .i16 v51))
  clear HSr HRr
  generalize wr.setCell ⟨w.heap.size + 1, 8, none⟩ (.int .i16 v51) = Ws at *
  have hI := i32_ok HRs.out HBY.out (by omega)
  simp only [Nat.reduceAdd] at hI
  rw [E53.out] at hI
  refine hI.mono ?_
  clear hI
  rintro r wt ⟨ht, hr, rfl⟩
  have HSt := Lib.hid (HSs.out.call ht)
  have HRt := Lib.hid hr
  clear ht hr HSs HRs
  have z1 : wt.frozen? ⟨w.heap.size + 1, 9, none⟩ = false := blk_frozen HSt.out.x3 9
  have y1 : wt.cell? ⟨w.heap.size + 1, 9, none⟩ = some (.int .i32 0) := blk_cell HSt.out.x3 9
  go_wp2_with fail
  clear z1 y1
  have HSu := Lib.hid (HSt.out.put 9 (.int .i32 v53) #[.int .i64 v0, .int .i64 (n : Int), .int .i32 v12, .bool false, .int .i64 0, .int .i64 v27, .int .i64 v35, .int .i64 v43, .int .i16 v51, .int .i32 v53] rfl)
  have HRu := Lib.hid (HRt.out.put HSt.out 9 (.int .i32 v53))
  clear HSt HRt
  generalize wt.setCell ⟨w.heap.size + 1, 9, none⟩ (.int .i32 v53) = Wu at *
  have hI := i32_ok HRu.out HBY.out (by omega)
  simp only [Nat.reduceAdd] at hI
  rw [E57.out] at hI
  refine hI.mono ?_
  clear hI
  rintro r wv ⟨ht, hr, rfl⟩
  have HSv := Lib.hid (HSu.out.call ht)
  have HRv := Lib.hid hr
  clear ht hr HSu HRu
  have z3 : wv.frozen? ⟨w.heap.size + 1, 3, none⟩ = false := blk_frozen HSv.out.x3 3
  have y3 : wv.cell? ⟨w.heap.size + 1, 3, none⟩ = some (.bool false) := blk_cell HSv.out.x3 3
  have z4 : wv.frozen? ⟨w.heap.size + 1, 4, none⟩ = false := blk_frozen HSv.out.x3 4
  have y4 : wv.cell? ⟨w.heap.size + 1, 4, none⟩ = some (.int .i64 0) := blk_cell HSv.out.x3 4
  obtain ⟨hc1, hc2⟩ := HCNT.out
  have hw57 : IntKind.i64.wrap v57 = v57 := by simp [IntKind.wrap, IntKind.bits, IntKind.signed]; omega
  have hw57b : IntKind.i32.wrap (v57 - 1) = v57 - 1 := by simp [IntKind.wrap, IntKind.bits, IntKind.signed]; omega
  have HWB := Lib.hid hw57b
  clear hc1 hc2 hw57b
  go_wp2_with fail
  clear z3 y3 z4 y4
  have HSx := Lib.hid ((HSv.out.put 3 (.bool false) #[.int .i64 v0, .int .i64 (n : Int), .int .i32 v12, .bool false, .int .i64 0, .int .i64 v27, .int .i64 v35, .int .i64 v43, .int .i16 v51, .int .i32 v53] rfl).put 4 (.int .i64 v57) #[.int .i64 v0, .int .i64 (n : Int), .int .i32 v12, .bool false, .int .i64 v57, .int .i64 v27, .int .i64 v35, .int .i64 v43, .int .i16 v51, .int .i32 v53] rfl)
  clear HSv HRv
  have hsz : ((wv.setCell ⟨w.heap.size + 1, 3, none⟩ (.bool false)).setCell ⟨w.heap.size + 1, 4, none⟩ (.int .i64 v57)).heap.size = wv.heap.size := by simp [World.setCell]
  rw [← hsz]
  clear hsz
  generalize (wv.setCell ⟨w.heap.size + 1, 3, none⟩ (.bool false)).setCell ⟨w.heap.size + 1, 4, none⟩ (.int .i64 v57) = Wx at *
  have hA : Below Wx.heap.size Wx (Wx.alloc (.cells #[.slice A21 (n - 21) (c - 21)] 51)) := (Below.refl _ _).alloc (Nat.le_refl _) _
  have HSy := Lib.hid (HSx.out.new hA)
  have hcell : (Wx.alloc (.cells #[.slice A21 (n - 21) (c - 21)] 51)).cell? ⟨Wx.heap.size, 0, none⟩ = some (.slice A21 (n - 21) (c - 21)) := blk_cell (blk_new _ _) 0
  refine (sum_any ⟨Wx.heap.size, 0, none⟩ 1 A21 (n - 21) (c - 21) (l.drop 21) HBY2.out (by omega) HPL2.out (by omega) _ hcell (HC2.out _ HSy.out.b) (HTB.out _ HSy.out.b)).mono ?_
  rintro r wz ⟨rfl, rfl⟩
  have hsum := HSUM.out
  have hsum2 : v17 % 4294967296 = cupd 0 (l.drop 21) := by rw [← hsum]; rfl
  generalize cupd 0 (l.drop 21) = sm at hsum hsum2 ⊢
  clear hcell hA HSx
  generalize Wx.alloc (.cells #[.slice A21 (n - 21) (c - 21)] 51) = wz at *
  have y0 : wz.cell? ⟨w.heap.size + 1, 0, none⟩ = some (.int .i64 v0) := blk_cell HSy.out.x3 0
  go_wp2_with fail
  refine (badBase_any v0 wz).mono ?_
  rintro r wk ⟨rfl, rfl⟩
  rw [HBB.out]

  have y7 : wk.cell? ⟨w.heap.size + 1, 7, none⟩ = some (.int .i64 v43) := blk_cell HSy.out.x3 7
  have y8 : wk.cell? ⟨w.heap.size + 1, 8, none⟩ = some (.int .i16 v51) := blk_cell HSy.out.x3 8
  have y9 : wk.cell? ⟨w.heap.size + 1, 9, none⟩ = some (.int .i32 v53) := blk_cell HSy.out.x3 9
  go_wp2_with fail
  refine (badProd_any v43 v51 v53 wk).mono ?_
  rintro r wm ⟨rfl, rfl⟩
  rw [HPR.out]
  obtain ⟨hc1, hc2⟩ := HCNT.out
  have hwb := HWB.out
  have k0 : wm.cell? ⟨w.heap.size, 0, none⟩ = some (.int .i64 0) := blk_cell HSy.out.x2 0
  have f0 : wm.frozen? ⟨w.heap.size, 0, none⟩ = false := blk_frozen HSy.out.x2 0
  have y1 : wm.cell? ⟨w.heap.size + 1, 1, none⟩ = some (.int .i64 (n : Int)) := blk_cell HSy.out.x3 1
  have k1 : wm.cell? ⟨w.heap.size, 1, none⟩ = some (.int .i64 0) := blk_cell HSy.out.x2 1
  have f1 : wm.frozen? ⟨w.heap.size, 1, none⟩ = false := blk_frozen HSy.out.x2 1
  have y2 : wm.cell? ⟨w.heap.size + 1, 2, none⟩ = some (.int .i32 v12) := blk_cell HSy.out.x3 2
  have k2 : wm.cell? ⟨w.heap.size, 2, none⟩ = some (.int .i32 0) := blk_cell HSy.out.x2 2
  have f2 : wm.frozen? ⟨w.heap.size, 2, none⟩ = false := blk_frozen HSy.out.x2 2
  have y3 : wm.cell? ⟨w.heap.size + 1, 3, none⟩ = some (.bool false) := blk_cell HSy.out.x3 3
  have k3 : wm.cell? ⟨w.heap.size, 3, none⟩ = some (.bool false) := blk_cell HSy.out.x2 3
  have f3 : wm.frozen? ⟨w.heap.size, 3, none⟩ = false := blk_frozen HSy.out.x2 3
  have y4 : wm.cell? ⟨w.heap.size + 1, 4, none⟩ = some (.int .i64 v57) := blk_cell HSy.out.x3 4
  have k4 : wm.cell? ⟨w.heap.size, 4, none⟩ = some (.int .i64 0) := blk_cell HSy.out.x2 4
  have f4 : wm.frozen? ⟨w.heap.size, 4, none⟩ = false := blk_frozen HSy.out.x2 4
  have y5 : wm.cell? ⟨w.heap.size + 1, 5, none⟩ = some (.int .i64 v27) := blk_cell HSy.out.x3 5
  have k5 : wm.cell? ⟨w.heap.size, 5, none⟩ = some (.int .i64 0) := blk_cell HSy.out.x2 5
  have f5 : wm.frozen? ⟨w.heap.size, 5, none⟩ = false := blk_frozen HSy.out.x2 5
  have y6 : wm.cell? ⟨w.heap.size + 1, 6, none⟩ = some (.int .i64 v35) := blk_cell HSy.out.x3 6
  have k6 : wm.cell? ⟨w.heap.size, 6, none⟩ = some (.int .i64 0) := blk_cell HSy.out.x2 6
  have f6 : wm.frozen? ⟨w.heap.size, 6, none⟩ = false := blk_frozen HSy.out.x2 6
  have k7 : wm.cell? ⟨w.heap.size, 7, none⟩ = some (.int .i64 0) := blk_cell HSy.out.x2 7
  have f7 : wm.frozen? ⟨w.heap.size, 7, none⟩ = false := blk_frozen HSy.out.x2 7
  have k8 : wm.cell? ⟨w.heap.size, 8, none⟩ = some (.int .i16 0) := blk_cell HSy.out.x2 8
  have f8 : wm.frozen? ⟨w.heap.size, 8, none⟩ = false := blk_frozen HSy.out.x2 8
  have k9 : wm.cell? ⟨w.heap.size, 9, none⟩ = some (.int .i32 0) := blk_cell HSy.out.x2 9
  have f9 : wm.frozen? ⟨w.heap.size, 9, none⟩ = false := blk_frozen HSy.out.x2 9
  go_wp2_with fail
  have h0 : wm.heap[w.heap.size]? = some (.cells [.int .i64 0, .int .i64 0, .int .i32 0, .bool false, .int .i64 0, .int .i64 0, .int .i64 0, .int .i64 0, .int .i16 0, .int .i32 0].toArray 231 (0, 0)) := HSy.out.x2
  have h7 := puts_all h0 [.int .i64 v0, .int .i64 (n : Int), .int .i32 v12, .bool false, .int .i64 v57, .int .i64 v27, .int .i64 v35, .int .i64 v43, .int .i16 v51, .int .i32 v53] rfl
  have t7 : Below w.heap.size w (puts wm w.heap.size 0 [.int .i64 v0, .int .i64 (n : Int), .int .i32 v12, .bool false, .int .i64 v57, .int .i64 v27, .int .i64 v35, .int .i64 v43, .int .i16 v51, .int .i32 v53]) := HSy.out.b.trans ((puts_tch w.heap.size _ 0 wm).below HSy.out.b.size (fun i hi => Nat.le_of_eq hi.symm))
  have hres := run_loadVar_row _ w.heap.size 231 231 _ _ _ h7 Tryz.underlying231 rfl (by kernel_rfl)
  simp only [puts, Nat.reduceAdd, Nat.zero_add] at hres t7
  refine bodyPost_ret (results_ct (p := 4) (u := 5) (ty := 231) rfl _ _ w.heap.size _ rfl hres) rfl ?_
  exact ⟨t7, rfl⟩
end Go.Proofs.YtciikcmiiebfpaaGreatDoor
