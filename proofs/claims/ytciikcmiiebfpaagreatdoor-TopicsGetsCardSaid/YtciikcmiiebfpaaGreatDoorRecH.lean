/- RecG, RecH as one text (a claim holds at most 60 files). -/
import Derived.Test.YtciikcmiiebfpaaGreatDoorPuts
import Derived.Defers
import Derived.Recover

/- RecG -/
section
/- rec.reader.row and rec.Get, where nothing is amiss and there are no headers. -/
namespace Go.Proofs.YtciikcmiiebfpaaGreatDoor
open Go Go.RowKit Go.Proofs.YtciikcmiiebfpaaGreatDoorW.PrintWords Go.Proofs.YtciikcmiiebfpaaGreatDoor.PTopicsGets Go.Proofs.YtciikcmiiebfpaaGreatDoorW.PrintMore
set_option linter.unusedVariables false
set_option linter.unusedSimpArgs false

theorem add0 (a : Addr) : a.add 0 = a := by unfold Addr.add; split <;> simp_all
/-- A block that a call does not turn. -/
theorem Tch.keep {S : Nat → Prop} {w w' : World} {b : Nat} {o : Obj} (h : Tch S w w') (hb : w.heap[b]? = some o) (hn : ¬ S b) : w'.heap[b]? = some o := (h.block b (Array.getElem?_eq_some_iff.1 hb).1 hn).trans hb
theorem vget32_range {l : Bs} (hb : Byt l) (a : Int) : -2147483648 ≤ (vget32 l a).1 ∧ (vget32 l a).1 < 2147483648 := by
  have hr := vread_range (b := l) (at_ := a) (most := 5) (top := 15) hb (by decide) (by decide)
  exact zag_range (u := (vread l a 5 15).1) (m := 2147483648) hr.1 (by have := hr.2; omega)

/-- A body that is a row without headers, key and value not null. -/
structure PlainRow (l : Bs) (dt : Int) (off kn vn q1 q2 q3 q4 : Nat) : Prop where
  byt : Byt l
  h0 : l[0]? = some 0
  h1 : vget l 1 = (dt, (q1 : Int), 0)
  l1 : q1 ≤ l.length
  h2 : vget32 l q1 = ((off : Int), (q2 : Int), 0)
  l2 : q2 ≤ l.length
  h3 : vget32 l q2 = ((kn : Int), (q3 : Int), 0)
  l3 : q3 + kn ≤ l.length
  h4 : vget32 l (q3 + kn : Nat) = ((vn : Int), (q4 : Int), 0)
  l4 : q4 + vn ≤ l.length
  h5 : vget32 l (q4 + vn : Nat) = (0, (l.length : Int), 0)

/-- Two boxes of the call's own (the result's at b2, the row's at b3), and what the call has turned so far. -/
structure RowSt (w W : World) (B g b2 b3 : Nat) (z cs : Array Value) : Prop where
  t : Tch (fun i => i = g) w W
  x2 : W.heap[b2]? = some (.cells z 236 (0, 0))
  x3 : W.heap[b3]? = some (.cells cs 236 (0, 0))
  l2 : w.heap.size ≤ b2
  l3 : w.heap.size ≤ b3
  n2 : b2 ≠ g
  n3 : b3 ≠ g
  n23 : b2 ≠ b3
  hB : B ≤ w.heap.size
theorem RowSt.call {w W W' : World} {B g b2 b3 : Nat} {z cs : Array Value} (h : RowSt w W B g b2 b3 z cs) (ht : Tch (fun i => i = g) W W') : RowSt w W' B g b2 b3 z cs :=
  ⟨h.t.trans ht, ht.keep h.x2 h.n2, ht.keep h.x3 h.n3, h.l2, h.l3, h.n2, h.n3, h.n23, h.hB⟩
theorem RowSt.put {w W : World} {B g b2 b3 : Nat} {z cs : Array Value} (h : RowSt w W B g b2 b3 z cs) (i : Nat) (v : Value) (hv : v.oneCell' = true) : RowSt w (W.setCell ⟨b3, i, none⟩ v) B g b2 b3 z (cs.setIfInBounds i v) :=
  have t := Tch.set (S := fun i => i = b3) W ⟨b3, i, none⟩ v rfl
  ⟨h.t.then_ t (fun i hi => .inr (by rw [hi]; exact h.l3)), t.keep h.x2 h.n23, blk_put h.x3 i v rfl, h.l2, h.l3, h.n2, h.n3, h.n23, h.hB⟩
theorem Rr.put {w W : World} {B g b2 b3 : Nat} {z cs : Array Value} {A : Option Addr} {n c : Nat} {l : Bs} {at_ : Nat} (hr : Rr W B g A n c l at_) (h : RowSt w W B g b2 b3 z cs) (i : Nat) (v : Value) : Rr (W.setCell ⟨b3, i, none⟩ v) B g A n c l at_ :=
  hr.tch (Tch.set (S := fun i => i = b3) W ⟨b3, i, none⟩ v rfl) (fun k hk => by subst hk; exact ⟨Nat.le_trans h.hB h.l3, h.n3⟩)

set_option maxHeartbeats 8000000 in
set_option maxRecDepth 100000 in
theorem rrow_ok {w : World} {B g : Nat} {A : Option Addr} {n c : Nat} {l : Bs} {dt : Int} {off kn vn q1 q2 q3 q4 : Nat} (h : Rr w B g A n c l 0) (hB : B ≤ w.heap.size) (hp : PlainRow l dt off kn vn q1 q2 q3 q4) :
    Calls Tryz.prog 177 #[rptr g] w fun r w' => Tch (fun i => i = g) w w' ∧ ∃ A1 c1 A2 c2, r = .returned (.agg #[.int .i64 dt, .int .i32 (off : Int), .bool false, .slice A1 kn c1, .bool false, .slice A2 vn c2, .slice none 0 0]) := by
  have hln := h.len
  have hgl : g < w.heap.size := (Array.getElem?_eq_some_iff.1 h.box).1
  have hA : Below w.heap.size w (w.alloc (.cells #[.int .i64 0, .int .i32 0, .bool false, .slice none 0 0, .bool false, .slice none 0 0, .slice none 0 0] 236)) := (Below.refl _ _).alloc (Nat.le_refl _) _
  have hsz : (w.alloc (.cells #[.int .i64 0, .int .i32 0, .bool false, .slice none 0 0, .bool false, .slice none 0 0, .slice none 0 0] 236)).heap.size = w.heap.size + 1 := World.size_alloc _ _
  have HX := Lib.hid (heap_alloc_new w (.cells #[.int .i64 0, .int .i32 0, .bool false, .slice none 0 0, .bool false, .slice none 0 0, .slice none 0 0] 236))
  have HK := rtake_ok (h.below hA) 1 (by rw [← hln]; obtain ⟨h1, _⟩ := List.getElem?_eq_some_iff.1 hp.h0; omega)
  have HP := Lib.hid hp
  have HT0 := Lib.hid (Tch.of_below (S := fun i => i = g) hA)
  have HGL := Lib.hid hgl
  have HSZ := Lib.hid hsz
  have HLN := Lib.hid hln
  obtain ⟨b2, hb2⟩ : ∃ b2, b2 = w.heap.size := ⟨_, rfl⟩
  have HB2 := Lib.hid hb2
  clear h hp hA hgl hsz hln
  have HBL := Lib.hid hB
  clear hB
  unfold rptr at HK ⊢
  go_enter Tryz.func177, Tryz.ntmps177
  go_wp2_with fail
  rw [← hb2]
  rw [← hb2] at HX HSZ
  generalize w.alloc (.cells #[.int .i64 0, .int .i32 0, .bool false, .slice none 0 0, .bool false, .slice none 0 0, .slice none 0 0] 236) = W0 at *
  clear hb2
  refine HK.mono ?_
  rintro r w1 ⟨ht, hr, A1, c1, hc1, rfl, hn⟩
  obtain ⟨A1', c1', e1, _, hC1⟩ := Kd.R_reads hn
  injection e1 with e1 e2 e3
  subst e1
  subst e3
  clear e2
  have hm0 : ((l.drop 0).take 1)[0]? = some 0 := by rw [List.drop_zero, List.getElem?_take, if_pos (by decide)]; exact HP.out.h0
  obtain ⟨ad, rfl, hcell⟩ := cb_at hC1 hm0
  rw [add0] at hcell
  have HT1 := Lib.hid (HT0.out.trans ht)
  have HR := Lib.hid hr
  have HW1 : Hid (w.heap.size + 1 ≤ w1.heap.size) := by have h1 := ht.size; have h2 := HSZ.out; have h3 := HB2.out; show _ ≤ _; omega
  have hx2 := Lib.hid (ht.keep HX.out (by have := HGL.out; have := HB2.out; omega))
  clear HK ht hr hn hC1 hm0 HT0 HX
  go_wp2_with fail
  have hAl : Below w1.heap.size w1 (w1.alloc (.cells #[.int .i64 0, .int .i32 0, .bool false, .slice none 0 0, .bool false, .slice none 0 0, .slice none 0 0] 236)) := (Below.refl _ _).alloc (Nat.le_refl _) _
  have HR2 := Lib.hid (HR.out.below hAl)
  have hx3 := Lib.hid (heap_alloc_new w1 (.cells #[.int .i64 0, .int .i32 0, .bool false, .slice none 0 0, .bool false, .slice none 0 0, .slice none 0 0] 236))
  have hx2' := Lib.hid (blk_below hx2.out hAl)
  have HT2 := Lib.hid (HT1.out.trans (Tch.of_below hAl))
  obtain ⟨b3, hb3⟩ : ∃ b3, b3 = w1.heap.size := ⟨_, rfl⟩
  have HB3 := Lib.hid hb3
  rw [← hb3]
  rw [← hb3] at hx3
  clear hb3 hcell hx2 HR HT1
  generalize w1.alloc (.cells #[.int .i64 0, .int .i32 0, .bool false, .slice none 0 0, .bool false, .slice none 0 0, .slice none 0 0] 236) = W2 at *
  have p0 : W2.cell? ⟨g, 0, none⟩ = some (.slice A n c) := blk_cell HR2.out.box 0
  have p1 : W2.cell? ⟨g, 1, none⟩ = some (.int .i64 ((1 : Nat) : Int)) := blk_cell HR2.out.box 1
  have HG : Hid (∀ W : World, Below W2.heap.size W2 W → Calls Tryz.prog 219 #[.slice A n c, .int .i64 1] W fun r w' => r = .returned (.tuple #[.int .i64 dt, .int .i64 (q1 : Int), .int .i64 0]) ∧ w' = W) := fun W hW => by
    have h2 := HR2.out.below hW
    have := get_any A n c l HP.out.byt 1 h2.cap h2.len (by have := h2.lim; omega) W (h2.C W (Tch.refl _ _))
    rw [HP.out.h1] at this
    exact this.mono fun r w' h => ⟨h.2, h.1⟩
  go_quiet ((go_at_call 219; exact Calls.quiet_of_same (HG.out _ (pw_below_drewN (Below.refl _ _) _))))
  clear HG p0 p1
  have hD : Below W2.heap.size W2 (W2.drewN nq) := pw_below_drewN (Below.refl _ _) _
  have HS := Lib.hid (show RowSt w W2 B g b2 b3 _ _ from ⟨HT2.out, hx2'.out, hx3.out, by have := HB2.out; have := HB3.out; have := HGL.out; have := HW1.out; omega, by have := HB2.out; have := HB3.out; have := HGL.out; have := HW1.out; omega, by have := HB2.out; have := HB3.out; have := HGL.out; have := HW1.out; omega, by have := HB2.out; have := HB3.out; have := HGL.out; have := HW1.out; omega, by have := HB2.out; have := HB3.out; have := HGL.out; have := HW1.out; omega, HBL.out⟩)
  have HS3 := Lib.hid (HS.out.call (Tch.of_below hD))
  have HR3 := Lib.hid (HR2.out.below hD)
  clear hD HS HR2 hx2' hx3 HT2 hAl
  generalize W2.drewN nq = W3 at *
  have z1 : W3.frozen? ⟨g, 1, none⟩ = false := blk_frozen HR3.out.box 1
  have y1 : W3.cell? ⟨g, 1, none⟩ = some (.int .i64 ((0 + 1 : Nat) : Int)) := blk_cell HR3.out.box 1
  have z3 : W3.frozen? ⟨b3, 0, none⟩ = false := blk_frozen HS3.out.x3 0
  have y3 : W3.cell? ⟨b3, 0, none⟩ = some (.int .i64 0) := blk_cell HS3.out.x3 0
  go_wp2_with fail
  clear z1 y1 z3 y3
  have HS4 := Lib.hid ((HS3.out.put 0 (.int .i64 dt) rfl).call ((HR3.out.put HS3.out 0 (.int .i64 dt)).set q1 (by have := HP.out.l1; have := HLN.out; omega)).1)
  have HR4 := Lib.hid ((HR3.out.put HS3.out 0 (.int .i64 dt)).set q1 (by have := HP.out.l1; have := HLN.out; omega)).2
  clear HS3 HR3
  generalize (W3.setCell ⟨b3, 0, none⟩ (.int .i64 dt)).setCell ⟨g, 1, none⟩ (.int .i64 (q1 : Int)) = W4 at *
  refine (rnumber_ok HR4.out HP.out.byt (off : Int) q2 HP.out.h2 (by have := HP.out.l2; have := HLN.out; omega)).mono ?_
  rintro r w5 ⟨ht, hr, rfl⟩
  have HS5 := Lib.hid (HS4.out.call ht)
  have HR5 := Lib.hid hr
  clear ht hr HS4 HR4
  have hor := vget32_range HP.out.byt q1
  rw [HP.out.h2] at hor
  have ho2 : ((off : Int)) < 2147483648 := hor.2
  have z3 : w5.frozen? ⟨b3, 1, none⟩ = false := blk_frozen HS5.out.x3 1
  have y3 : w5.cell? ⟨b3, 1, none⟩ = some (.int .i32 0) := blk_cell HS5.out.x3 1
  have hw : IntKind.i32.wrap (off : Int) = (off : Int) := by simp [IntKind.wrap, IntKind.bits, IntKind.signed]; omega
  have hw2 : wrap32 (off : Int) = (off : Int) := by simp [wrap32, IntKind.wrap, IntKind.bits, IntKind.signed]; omega
  clear hor ho2
  go_wp2_with fail
  clear hw hw2
  clear z3 y3
  have HS6 := Lib.hid (HS5.out.put 1 (.int .i32 (off : Int)) rfl)
  have HR6 := Lib.hid (HR5.out.put HS5.out 1 (.int .i32 (off : Int)))
  clear HS5 HR5
  generalize w5.setCell ⟨b3, 1, none⟩ (.int .i32 (off : Int)) = W6 at *
  refine (rblob_ok HR6.out HP.out.byt kn q3 HP.out.h3 (by have := HP.out.l3; have := HLN.out; omega)).mono ?_
  rintro r w7 ⟨ht, hr, A7, c7, hc7, rfl, hn⟩
  have HS7 := Lib.hid (HS6.out.call ht)
  have HR7 := Lib.hid hr
  clear ht hr hn HS6 HR6
  have z2 : w7.frozen? ⟨b3, 2, none⟩ = false := blk_frozen HS7.out.x3 2
  have y2 : w7.cell? ⟨b3, 2, none⟩ = some (.bool false) := blk_cell HS7.out.x3 2
  have z3 : w7.frozen? ⟨b3, 3, none⟩ = false := blk_frozen HS7.out.x3 3
  have y3 : w7.cell? ⟨b3, 3, none⟩ = some (.slice none 0 0) := blk_cell HS7.out.x3 3
  go_wp2_with fail
  clear z2 y2 z3 y3
  have HS8 := Lib.hid ((HS7.out.put 2 (.bool false) rfl).put 3 (.slice A7 kn c7) rfl)
  have HR8 := Lib.hid ((HR7.out.put HS7.out 2 (.bool false)).put (HS7.out.put 2 (.bool false) rfl) 3 (.slice A7 kn c7))
  clear HS7 HR7
  generalize (w7.setCell ⟨b3, 2, none⟩ (.bool false)).setCell ⟨b3, 3, none⟩ (.slice A7 kn c7) = W8 at *
  refine (rblob_ok HR8.out HP.out.byt vn q4 HP.out.h4 (by have := HP.out.l4; have := HLN.out; omega)).mono ?_
  rintro r w9 ⟨ht, hr, A9, c9, hc9, rfl, hn⟩
  have HS9 := Lib.hid (HS8.out.call ht)
  have HR9 := Lib.hid hr
  clear ht hr hn HS8 HR8
  have z2 : w9.frozen? ⟨b3, 4, none⟩ = false := blk_frozen HS9.out.x3 4
  have y2 : w9.cell? ⟨b3, 4, none⟩ = some (.bool false) := blk_cell HS9.out.x3 4
  have z3 : w9.frozen? ⟨b3, 5, none⟩ = false := blk_frozen HS9.out.x3 5
  have y3 : w9.cell? ⟨b3, 5, none⟩ = some (.slice none 0 0) := blk_cell HS9.out.x3 5
  go_wp2_with fail
  clear z2 y2 z3 y3
  have HSa := Lib.hid ((HS9.out.put 4 (.bool false) rfl).put 5 (.slice A9 vn c9) rfl)
  have HRa := Lib.hid ((HR9.out.put HS9.out 4 (.bool false)).put (HS9.out.put 4 (.bool false) rfl) 5 (.slice A9 vn c9))
  clear HS9 HR9
  generalize (w9.setCell ⟨b3, 4, none⟩ (.bool false)).setCell ⟨b3, 5, none⟩ (.slice A9 vn c9) = Wa at *
  refine (rcount_ok HRa.out HP.out.byt 0 0 n (by have := HP.out.h5; rw [HLN.out] at this; exact this) (Nat.le_refl _) (Int.le_refl _) ⟨by decide, by decide⟩).mono ?_
  rintro r wb ⟨ht, hr, rfl⟩
  have HSb := Lib.hid (HSa.out.call ht)
  have HRb := Lib.hid hr
  clear ht hr HSa HRa
  go_wp2_with fail
  go_loopw [62] (fun v62 wr => v62 = .int .i64 0 ∧ wr = wb) (fun _ _ => 0)
  case atStart => exact ⟨rfl, rfl⟩
  case round =>
    obtain ⟨rfl, hwr⟩ := hrel
    subst hwr
    have p0 : wr.cell? ⟨g, 0, none⟩ = some (.slice A n c) := blk_cell HRb.out.box 0
    have p1 : wr.cell? ⟨g, 1, none⟩ = some (.int .i64 (n : Int)) := blk_cell HRb.out.box 1
    have y0 : wr.cell? ⟨b3, 0, none⟩ = some (.int .i64 dt) := blk_cell HSb.out.x3 0
    have y1 : wr.cell? ⟨b3, 1, none⟩ = some (.int .i32 (off : Int)) := blk_cell HSb.out.x3 1
    have y2 : wr.cell? ⟨b3, 2, none⟩ = some (.bool false) := blk_cell HSb.out.x3 2
    have y3 : wr.cell? ⟨b3, 3, none⟩ = some (.slice A7 kn c7) := blk_cell HSb.out.x3 3
    have y4 : wr.cell? ⟨b3, 4, none⟩ = some (.bool false) := blk_cell HSb.out.x3 4
    have y5 : wr.cell? ⟨b3, 5, none⟩ = some (.slice A9 vn c9) := blk_cell HSb.out.x3 5
    have y6 : wr.cell? ⟨b3, 6, none⟩ = some (.slice none 0 0) := blk_cell HSb.out.x3 6
    have k0 : wr.cell? ⟨b2, 0, none⟩ = some (.int .i64 0) := blk_cell HSb.out.x2 0
    have f0 : wr.frozen? ⟨b2, 0, none⟩ = false := blk_frozen HSb.out.x2 0
    have k1 : wr.cell? ⟨b2, 1, none⟩ = some (.int .i32 0) := blk_cell HSb.out.x2 1
    have f1 : wr.frozen? ⟨b2, 1, none⟩ = false := blk_frozen HSb.out.x2 1
    have k2 : wr.cell? ⟨b2, 2, none⟩ = some (.bool false) := blk_cell HSb.out.x2 2
    have f2 : wr.frozen? ⟨b2, 2, none⟩ = false := blk_frozen HSb.out.x2 2
    have k3 : wr.cell? ⟨b2, 3, none⟩ = some (.slice none 0 0) := blk_cell HSb.out.x2 3
    have f3 : wr.frozen? ⟨b2, 3, none⟩ = false := blk_frozen HSb.out.x2 3
    have k4 : wr.cell? ⟨b2, 4, none⟩ = some (.bool false) := blk_cell HSb.out.x2 4
    have f4 : wr.frozen? ⟨b2, 4, none⟩ = false := blk_frozen HSb.out.x2 4
    have k5 : wr.cell? ⟨b2, 5, none⟩ = some (.slice none 0 0) := blk_cell HSb.out.x2 5
    have f5 : wr.frozen? ⟨b2, 5, none⟩ = false := blk_frozen HSb.out.x2 5
    have k6 : wr.cell? ⟨b2, 6, none⟩ = some (.slice none 0 0) := blk_cell HSb.out.x2 6
    have f6 : wr.frozen? ⟨b2, 6, none⟩ = false := blk_frozen HSb.out.x2 6
    go_wp2_with fail
    go_region
    go_wp2_with fail
    have h0 : wr.heap[b2]? = some (.cells [.int .i64 0, .int .i32 0, .bool false, .slice none 0 0, .bool false, .slice none 0 0, .slice none 0 0].toArray 236 (0, 0)) := HSb.out.x2
    have h7 := blk_below (puts_all h0 [.int .i64 dt, .int .i32 (off : Int), .bool false, .slice A7 kn c7, .bool false, .slice A9 vn c9, .slice none 0 0] rfl) (below_drew (Below.refl _ _))
    have t7 : Tch (fun i => i = g) w (puts wr b2 0 [.int .i64 dt, .int .i32 (off : Int), .bool false, .slice A7 kn c7, .bool false, .slice A9 vn c9, .slice none 0 0]).drew := (HSb.out.t.then_ (puts_tch b2 _ 0 wr) (fun i hi => .inr (by rw [hi]; exact HSb.out.l2))).drew
    have hres := run_loadVar_row _ b2 236 236 _ _ _ h7 Tryz.underlying236 rfl (by kernel_rfl)
    simp only [puts, Nat.reduceAdd, Nat.zero_add] at hres t7
    refine bodyPost_ret (results_c (p := 2) (ty := 236) rfl _ _ b2 _ rfl hres) rfl ?_
    exact ⟨t7, A7, c7, A9, c9, rfl⟩
end Go.Proofs.YtciikcmiiebfpaaGreatDoor
end

/- RecH -/
section
/- rec.Get, where nothing is amiss and there are no headers. -/
namespace Go.Proofs.YtciikcmiiebfpaaGreatDoor
open Go Go.RowKit Go.Proofs.YtciikcmiiebfpaaGreatDoorW.PrintWords Go.Proofs.YtciikcmiiebfpaaGreatDoor.PTopicsGets Go.Proofs.YtciikcmiiebfpaaGreatDoorW.PrintMore
set_option linter.unusedVariables false
set_option linter.unusedSimpArgs false


set_option maxRecDepth 100000 in
theorem get1_idle (p q r : Addr) (w : World) :
    CallsD Tryz.prog 175 #[.pointer (some p), .pointer (some q), .pointer (some r)] .returning w fun e u' w' => e = .returned (.tuple #[]) ∧ u' = .returning ∧ Below w.heap.size w w' := by
  have hta : ∀ w : World, (Instr.typeAssert .nilIface 20 305 true).run Tryz.prog w = .ok (.tuple #[.agg #[.int .i64 0], .bool false]) w := fun w => by kernel_rfl
  refine callsD_of_wpS Tryz.func175 rfl fun c₀ cs hu => ?_
  apply wpS_seq
  apply wpS_region
  simp [wpOpsS, go_sem, recoverD, hu, Tryz.ntmps175, Exit.thenS, hta]
  apply wpS_seq
  apply wpS_region
  simp [wpOpsS, go_sem, Exit.thenS]
  refine wpS_cond (t := false) (by simp [Act.eval, Array.replicate]) ?_
  simp only [Bool.false_eq_true, if_false]
  refine wpS_of_wp (wp_skip ?_)
  have hb : Below w.heap.size w (w.alloc (.cells #[.int .i64 0] 305)) := (Below.refl _ _).alloc (Nat.le_refl _) _
  cases c₀
  simp_all [bodyPostS, results, Tryz.results175]

theorem piece_cut3 {A : Option Addr} {n c : Nat} {l : Bs} (hl : l.length = n) (hn : n ≤ c) (hs : n < 4611686018427387904) (x y : Int) (k : Nat) (h0 : 0 ≤ x) (hk : y = x + k) (h : x + k ≤ n) :
    ∃ A5, (∀ W, (Instr.slice 51 (.slice A n c) (some (.int .i64 x)) (some (.int .i64 y)) (some (.int .i64 y))).run Tryz.prog W = .ok (.slice A5 k k) W) ∧ (∀ W, CB W A n l → CB W A5 k ((l.drop x.toNat).take k)) := by
  obtain ⟨i0, hi0, _, hsz, _⟩ := info_parts info5
  have hel : Tryz.prog.elem 51 = 5 := by simp [Program.elem, Tryz.underlying51]
  have hu : Tryz.prog.underlying 51 = some (.slice (Tryz.prog.elem 51)) := by rw [hel]; exact Tryz.underlying51
  refine ⟨if y.toNat = x.toNat then A else A.map (·.add x.toNat), fun W => ?_, fun W H => ?_⟩
  · rw [run_slice_lhm W 51 A n c hu .i64 .i64 .i64 x y y h0 (by omega) (Int.le_refl _) (by omega), hel]
    simp [sizeOf, typeInfo, hi0, hsz, sliced, Result.andThen]
    omega
  · have h1 : ReadsOf (Value.int .u8) (0 : Int) W A l.length l := by have := Kd.reads_of_C (d := (0 : Int)) H; rw [← hl] at this; exact this
    have h2 := (h1.take_ y.toNat (by omega)).drop_ (c := y.toNat) x.toNat (by omega) (by omega)
    have hm : ((l.take y.toNat).drop x.toNat) = (l.drop x.toNat).take k := by
      rw [show y.toNat = x.toNat + k by omega, List.drop_take, Nat.add_sub_cancel_left]
    rw [hm, show y.toNat - x.toNat = k by omega] at h2
    have hlen : ((l.drop x.toNat).take k).length = k := by rw [List.length_take, List.length_drop, hl]; omega
    have := Kd.C_of_reads (h1 := fun _ => rfl) (by rw [← hlen] at h2; exact h2)
    rw [hlen] at this
    exact this


abbrev rowZ : Array Value := #[.int .i64 0, .int .i32 0, .bool false, .slice none 0 0, .bool false, .slice none 0 0, .slice none 0 0]
set_option maxHeartbeats 8000000 in
set_option maxRecDepth 100000 in
theorem rget_ok {w : World} {A : Option Addr} {n c : Nat} {l : Bs} {at_ k q : Nat} {dt : Int} {off kn vn q1 q2 q3 q4 : Nat} (hb : Byt l) (hl : l.length = n) (hn : n ≤ c) (hs : n < 1073741824) (HB : CB w A n l)
    (hv : vget32 l at_ = ((k : Int), (q : Int), 0)) (hk : k ≤ 16384) (hq : q + k ≤ n) (hp : PlainRow ((l.drop q).take k) dt off kn vn q1 q2 q3 q4) :
    Calls Tryz.prog 117 #[.slice A n c, .int .i64 (at_ : Int)] w fun r w' => Below w.heap.size w w' ∧ ∃ A1 c1 A2 c2, r = .returned (.tuple #[.agg #[.int .i64 dt, .int .i32 (off : Int), .bool false, .slice A1 kn c1, .bool false, .slice A2 vn c2, .slice none 0 0], .int .i64 ((q : Int) + k), .int .i64 0]) := by
  have hmf : ∀ (fn : Fn) (first cap : Array Value) (w : World), (Instr.makeFunc fn first cap).run Tryz.prog w = .ok (.func fn first cap) w := fun _ _ _ _ => rfl
  obtain ⟨A5, hcut, hM⟩ := piece_cut3 (A := A) hl hn (by omega) (q : Int) ((q : Int) + (k : Int)) k (by omega) rfl (by omega)
  rw [Int.toNat_natCast] at hM
  have hlen : ((l.drop q).take k).length = k := by rw [List.length_take, List.length_drop, hl]; omega
  obtain ⟨W0, hW0⟩ : ∃ W0, W0 = ((w.alloc (.cells rowZ 236)).alloc (.cells #[.int .i64 0] 3)).alloc (.cells #[.int .i64 0] 27) := ⟨_, rfl⟩
  have b1 : Below w.heap.size w W0 := by rw [hW0]; exact (((Below.refl _ _).alloc (Nat.le_refl _) _).alloc (by rw [World.size_alloc]; omega) _).alloc (by rw [World.size_alloc, World.size_alloc]; omega) _
  have hsz : W0.heap.size = w.heap.size + 3 := by rw [hW0, World.size_alloc, World.size_alloc, World.size_alloc]
  have x4 : W0.heap[w.heap.size]? = some (.cells rowZ 236 (0, 0)) := by
    rw [hW0]
    exact blk_below (blk_below (blk_new _ _) ((Below.refl _ _).alloc (Nat.le_refl _) _)) ((Below.refl _ _).alloc (Nat.le_refl _) _)
  have x5 : W0.heap[w.heap.size + 1]? = some (.cells #[.int .i64 0] 3 (0, 0)) := by
    rw [hW0]
    have := blk_new (w.alloc (.cells rowZ 236)) (.cells #[.int .i64 0] 3)
    rw [World.size_alloc] at this
    exact blk_below this ((Below.refl _ _).alloc (Nat.le_refl _) _)
  have x6 : W0.heap[w.heap.size + 1 + 1]? = some (.cells #[.int .i64 0] 27 (0, 0)) := by
    rw [hW0]
    have := blk_new ((w.alloc (.cells rowZ 236)).alloc (.cells #[.int .i64 0] 3)) (.cells #[.int .i64 0] 27)
    rw [World.size_alloc, World.size_alloc] at this
    exact this
  have HG := Lib.hid (get32_any A n c l hb at_ hn hl (by omega) W0 (Kd.C_below HB b1))
  rw [hv] at HG
  have HC := Lib.hid (fun (W : World) (h : Below w.heap.size w W) => hM W (Kd.C_below HB h))
  have HP := Lib.hid hp
  have X4 := Lib.hid x4
  have X5 := Lib.hid x5
  have X6 := Lib.hid x6
  have HSZ := Lib.hid hsz
  have HB1 := Lib.hid b1
  have HLN := Lib.hid hlen
  have hq0 := hq
  clear hb HB hv hp x4 x5 hM b1 hsz hl hlen
  generalize (l.drop q).take k = m at *
  unfold rowZ at hW0
  go_enter_defers Tryz.func117, Tryz.ntmps117
  go_wp2_with fail
  rw [← hW0]
  clear hW0
  refine HG.out.mono ?_
  rintro r w1 ⟨rfl, rfl⟩
  clear HG
  have y6 := blk_cell x6 0
  have z6 := blk_frozen x6 0
  go_wp2_with fail
  clear y6 z6
  have hsz := HSZ.out
  have s1 := Tch.set (S := fun i => i = w.heap.size + 1 + 1) w1 ⟨w.heap.size + 1 + 1, 0, none⟩ (.int .i64 0) rfl
  have x4 := s1.keep X4.out (by omega)
  have x5 := s1.keep X5.out (by omega)
  have x6b := blk_put X6.out 0 (.int .i64 0) rfl
  have hb2 : Below w.heap.size w (w1.setCell ⟨w.heap.size + 1 + 1, 0, none⟩ (.int .i64 0)) := HB1.out.trans (s1.below HB1.out.size (fun i hi => by omega))
  have hs2 : (w1.setCell ⟨w.heap.size + 1 + 1, 0, none⟩ (.int .i64 0)).heap.size = w1.heap.size := by simp [World.setCell]
  generalize w1.setCell ⟨w.heap.size + 1 + 1, 0, none⟩ (.int .i64 0) = W1 at *
  rw [← hs2]
  rw [← hs2] at hsz
  have hA : Below W1.heap.size W1 (W1.alloc (.cells #[.slice A5 k k, .int .i64 0] 311)) := (Below.refl _ _).alloc (Nat.le_refl _) _
  have X4b := Lib.hid (blk_below x4 hA)
  have X5b := Lib.hid (blk_below x5 hA)
  have X6b := Lib.hid (blk_below x6b hA)
  have hb3 : Below w.heap.size w (W1.alloc (.cells #[.slice A5 k k, .int .i64 0] 311)) := hb2.trans (hA.mono hb2.size)
  have HR : Hid (Rr (W1.alloc (.cells #[.slice A5 k k, .int .i64 0] 311)) w.heap.size W1.heap.size A5 k k m 0) :=
    ⟨blk_new _ _, fun W hT => HC.out W (hb3.trans (hT.below hb3.size (fun i h => h))), hb2.size, HLN.out, Nat.le_refl _, by omega, Nat.zero_le _⟩
  have HBL := Lib.hid hb3
  have HB2 := Lib.hid hb2.size
  obtain ⟨g, hg⟩ : ∃ g, g = W1.heap.size := ⟨_, rfl⟩
  rw [← hg] at HR hsz HB2 ⊢
  have HSG := Lib.hid hsz
  clear x4 x5 x6b hb2 hA hb3 s1 X4 X5 X6 HB1 x6 HSZ HC hs2 hsz hg
  generalize W1.alloc (.cells #[.slice A5 k k, .int .i64 0] 311) = W2 at *
  refine (rrow_ok HR.out HBL.out.size HP.out).mono ?_
  rintro r w3 ⟨ht, A1, c1, A2, c2, rfl⟩
  have X4c := Lib.hid (ht.keep X4b.out (by have := HSG.out; omega))
  have X5c := Lib.hid (ht.keep X5b.out (by have := HSG.out; omega))
  have X6c := Lib.hid (ht.keep X6b.out (by have := HSG.out; omega))
  have HB3 := Lib.hid (HBL.out.trans (ht.below HBL.out.size (fun i hi => by rw [hi]; exact HB2.out)))
  clear ht HR X4b X5b X6b HBL HP
  have k0 : w3.cell? ⟨w.heap.size, 0, none⟩ = some (.int .i64 0) := blk_cell X4c.out 0
  have f0 : w3.frozen? ⟨w.heap.size, 0, none⟩ = false := blk_frozen X4c.out 0
  have k1 : w3.cell? ⟨w.heap.size, 1, none⟩ = some (.int .i32 0) := blk_cell X4c.out 1
  have f1 : w3.frozen? ⟨w.heap.size, 1, none⟩ = false := blk_frozen X4c.out 1
  have k2 : w3.cell? ⟨w.heap.size, 2, none⟩ = some (.bool false) := blk_cell X4c.out 2
  have f2 : w3.frozen? ⟨w.heap.size, 2, none⟩ = false := blk_frozen X4c.out 2
  have k3 : w3.cell? ⟨w.heap.size, 3, none⟩ = some (.slice none 0 0) := blk_cell X4c.out 3
  have f3 : w3.frozen? ⟨w.heap.size, 3, none⟩ = false := blk_frozen X4c.out 3
  have k4 : w3.cell? ⟨w.heap.size, 4, none⟩ = some (.bool false) := blk_cell X4c.out 4
  have f4 : w3.frozen? ⟨w.heap.size, 4, none⟩ = false := blk_frozen X4c.out 4
  have k5 : w3.cell? ⟨w.heap.size, 5, none⟩ = some (.slice none 0 0) := blk_cell X4c.out 5
  have f5 : w3.frozen? ⟨w.heap.size, 5, none⟩ = false := blk_frozen X4c.out 5
  have k6 : w3.cell? ⟨w.heap.size, 6, none⟩ = some (.slice none 0 0) := blk_cell X4c.out 6
  have f6 : w3.frozen? ⟨w.heap.size, 6, none⟩ = false := blk_frozen X4c.out 6
  have k8 : w3.cell? ⟨w.heap.size + 1, 0, none⟩ = some (.int .i64 0) := blk_cell X5c.out 0
  have f8 : w3.frozen? ⟨w.heap.size + 1, 0, none⟩ = false := blk_frozen X5c.out 0
  have k9 : w3.cell? ⟨w.heap.size + 1 + 1, 0, none⟩ = some (.int .i64 0) := blk_cell X6c.out 0
  have f9 : w3.frozen? ⟨w.heap.size + 1 + 1, 0, none⟩ = false := blk_frozen X6c.out 0
  go_wp2_with fail
  have h4 : w3.heap[w.heap.size]? = some (.cells [.int .i64 0, .int .i32 0, .bool false, .slice none 0 0, .bool false, .slice none 0 0, .slice none 0 0].toArray 236 (0, 0)) := X4c.out
  have h4a := puts_all h4 [.int .i64 dt, .int .i32 (off : Int), .bool false, .slice A1 kn c1, .bool false, .slice A2 vn c2, .slice none 0 0] rfl
  have t4 := puts_tch w.heap.size [.int .i64 dt, .int .i32 (off : Int), .bool false, .slice A1 kn c1, .bool false, .slice A2 vn c2, .slice none 0 0] 0 w3
  have h5a := t4.keep X5c.out (by omega)
  have h6a := t4.keep X6c.out (by omega)
  have hb4 := HB3.out.trans (t4.below HB3.out.size (fun i hi => Nat.le_of_eq hi.symm))
  simp only [puts, Nat.reduceAdd, Nat.zero_add] at h4a h5a h6a hb4
  clear h4 t4 k0 k1 k2 k3 k4 k5 k6 k8 k9 f0 f1 f2 f3 f4 f5 f6 f8 f9 X4c X5c X6c HB3
  generalize ((((((w3.setCell ⟨w.heap.size, 0, none⟩ (.int .i64 dt)).setCell ⟨w.heap.size, 1, none⟩ (.int .i32 (off : Int))).setCell ⟨w.heap.size, 2, none⟩ (.bool false)).setCell ⟨w.heap.size, 3, none⟩ (.slice A1 kn c1)).setCell ⟨w.heap.size, 4, none⟩ (.bool false)).setCell ⟨w.heap.size, 5, none⟩ (.slice A2 vn c2)).setCell ⟨w.heap.size, 6, none⟩ (.slice none 0 0) = W4 at *
  have t5 := Tch.set (S := fun i => i = w.heap.size + 1) W4 ⟨w.heap.size + 1, 0, none⟩ (.int .i64 ((q : Int) + (k : Int))) rfl
  have h4b := t5.keep h4a (by omega)
  have h5b := blk_put h5a 0 (.int .i64 ((q : Int) + (k : Int))) rfl
  have h6b := t5.keep h6a (by omega)
  have hb5 := hb4.trans (t5.below hb4.size (fun i hi => by omega))
  clear t5 h4a h5a h6a hb4
  generalize W4.setCell ⟨w.heap.size + 1, 0, none⟩ (.int .i64 ((q : Int) + (k : Int))) = W5 at *
  have t6 := Tch.set (S := fun i => i = w.heap.size + 1 + 1) W5 ⟨w.heap.size + 1 + 1, 0, none⟩ (.int .i64 0) rfl
  have h4c := t6.keep h4b (by omega)
  have h5c := t6.keep h5b (by omega)
  have h6c := blk_put h6b 0 (.int .i64 0) rfl
  have hb6 := hb5.trans (t6.below hb5.size (fun i hi => by omega))
  clear t6 h4b h5b h6b hb5
  generalize W5.setCell ⟨w.heap.size + 1 + 1, 0, none⟩ (.int .i64 0) = W6 at *
  refine leaves_cons (f := 175) (args := #[.pointer (some ⟨w.heap.size, 0, none⟩), .pointer (some ⟨w.heap.size + 1, 0, none⟩), .pointer (some ⟨w.heap.size + 1 + 1, 0, none⟩)]) (by simp) (by simp [go_sem]) ?_
  refine (get1_idle _ _ _ _).mono ?_
  rintro e u' w'' ⟨rfl, rfl, hbw⟩
  have hrow := blk_below h4c hbw
  have e0 : w''.cell? ⟨w.heap.size, 0, none⟩ = some (.int .i64 dt) := blk_cell hrow 0
  have e1 : w''.cell? ⟨w.heap.size, 1, none⟩ = some (.int .i32 (off : Int)) := blk_cell hrow 1
  have e2 : w''.cell? ⟨w.heap.size, 2, none⟩ = some (.bool false) := blk_cell hrow 2
  have e3 : w''.cell? ⟨w.heap.size, 3, none⟩ = some (.slice A1 kn c1) := blk_cell hrow 3
  have e4 : w''.cell? ⟨w.heap.size, 4, none⟩ = some (.bool false) := blk_cell hrow 4
  have e5 : w''.cell? ⟨w.heap.size, 5, none⟩ = some (.slice A2 vn c2) := blk_cell hrow 5
  have e6 : w''.cell? ⟨w.heap.size, 6, none⟩ = some (.slice none 0 0) := blk_cell hrow 6
  have c5 : w''.cell? ⟨w.heap.size + 1, 0, none⟩ = some (.int .i64 ((q : Int) + (k : Int))) := blk_cell (blk_below h5c hbw) 0
  have c6 : w''.cell? ⟨w.heap.size + 1 + 1, 0, none⟩ = some (.int .i64 0) := blk_cell (blk_below h6c hbw) 0
  have hbl := hb6.trans (hbw.mono hb6.size)
  simp [Leaves, settle, results, Tryz.results117, go_sem, e0, e1, e2, e3, e4, e5, e6, c5, c6, Result.andThen]
  exact hbl
end Go.Proofs.YtciikcmiiebfpaaGreatDoor
end
