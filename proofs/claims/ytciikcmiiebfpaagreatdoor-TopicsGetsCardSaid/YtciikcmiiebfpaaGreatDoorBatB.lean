/- Writer, WriterB, BatB as one text (a claim holds at most 60 files). -/
import Derived.Test.YtciikcmiiebfpaaGreatDoorBatD
import Derived.Deep.RegionLaw
import Derived.Deep.CutRange

/- Writer -/
section
/- cursor.Writer. -/
namespace Go.Proofs.YtciikcmiiebfpaaGreatDoor
open Go Go.RowKit Go.Proofs.YtciikcmiiebfpaaGreatDoorW.PrintWords Go.Proofs.YtciikcmiiebfpaaGreatDoor.PTopicsGets Go.Proofs.YtciikcmiiebfpaaGreatDoorW.PrintMore
set_option linter.unusedVariables false
set_option linter.unusedSimpArgs false
attribute [local go_sem] max2_int min2_int max_two min_two max_three min_three

def u8s (l : Bs) : List Value := l.map (Value.int .u8)
/-- A writer at block g; it and its bytes lie from block B on. -/
structure Wt (w : World) (B g : Nat) (A : Option Addr) (n c : Nat) (l : Bs) (most : Int) : Prop where
  box : w.heap[g]? = some (.cells #[.slice A n c, .int .i64 most] 314 (0, 0))
  own : Ix.Owns w B 5 1 (.slice A n c) n (u8s l)
  len : l.length = n
  lim : most ≤ 1048576
  room : (n : Int) ≤ most
  gB : B ≤ g
theorem Wt.below {w w1 : World} {B g : Nat} {A : Option Addr} {n c : Nat} {l : Bs} {most : Int} (h : Wt w B g A n c l most) (hb : Below w.heap.size w w1) : Wt w1 B g A n c l most :=
  ⟨blk_below h.box hb, Owns_below h.own hb, h.len, h.lim, h.room, h.gB⟩
theorem newWriter_ok (w : World) (m : Int) (h0 : 0 ≤ m) (h1 : m ≤ 1048576) : Calls Tryz.prog 121 #[.int .i64 m] w fun r w' => Below w.heap.size w w' ∧ r = .returned (rptr w.heap.size) ∧ Wt w' w.heap.size w.heap.size none 0 0 [] m := by
  have e1 : ¬ m < 0 := by omega
  have e2 : ¬ 1048576 < m := by omega
  go_enter Tryz.func121, Tryz.ntmps121
  go_wp2_with fail
  all_goals
    go_ret
    first
    | exact ⟨(Below.refl _ _).alloc (Nat.le_refl _) _, rfl, ⟨blk_new _ _, Ix.Owns.nil _ _ _ _, rfl, h1, h0, Nat.le_refl _⟩⟩
    | (exfalso; omega)
theorem room_ok {w : World} {B g : Nat} {A : Option Addr} {n c : Nat} {l : Bs} {most : Int} (h : Wt w B g A n c l most) :
    Calls Tryz.prog 179 #[rptr g] w fun r w' => Below w.heap.size w w' ∧ r = .returned (.int .i64 (most - n)) := by
  have p0 : w.cell? ⟨g, 0, none⟩ = some (.slice A n c) := blk_cell h.box 0
  have p1 : w.cell? ⟨g, 1, none⟩ = some (.int .i64 most) := blk_cell h.box 1
  have h1 := h.lim
  have h2 := h.room
  clear h
  unfold rptr
  go_enter Tryz.func179, Tryz.ntmps179
  go_wp2_with fail
  go_region
  go_wp2_with fail
  go_ret
  exact ⟨below_drew (Below.refl _ _), rfl⟩
theorem bytes_ok {w : World} {B g : Nat} {A : Option Addr} {n c : Nat} {l : Bs} {most : Int} (h : Wt w B g A n c l most) (hb : Byt l) :
    Calls Tryz.prog 125 #[rptr g] w fun r w' => Below w.heap.size w w' ∧ ∃ A' c', n ≤ c' ∧ r = .returned (.slice A' n c') ∧ NewR w w' (.slice A' n c') l := by
  have p0 : w.cell? ⟨g, 0, none⟩ = some (.slice A n c) := blk_cell h.box 0
  have hC : CB w A n l := by
    refine Kd.C_of_reads (d := (0 : Int)) (h1 := fun _ => rfl) ⟨h.len, by have := h.room; have := h.lim; omega, fun hn => ?_⟩
    obtain ⟨g', cap, e, _, _, _, _, hx⟩ := h.own.form hn
    injection e with e1 e2 e3
    subst e1
    refine ⟨_, rfl, fun j hj => ?_⟩
    rw [Ix.add_zero']
    refine hx j _ ?_
    unfold u8s
    rw [List.getElem?_map, List.getD_eq_getElem?_getD, List.getElem?_eq_getElem (by rw [h.len]; exact hj)]
    rfl
  have HK := Lib.hid (clone_bytes A n c l w hC (by have := h.room; have := h.lim; omega))
  have hl := h.len
  clear h hC
  unfold rptr
  go_enter Tryz.func125, Tryz.ntmps125
  go_wp2_with fail
  refine HK.out.mono ?_
  rintro r w1 ⟨v, rfl, hr, hb⟩
  obtain ⟨A1, c1, rfl, hc1, _⟩ := Kd.R_reads hr
  rw [hl] at hc1 hr ⊢
  have HR := Lib.hid hr
  have HB := Lib.hid hb
  clear hr hb hl HK
  go_wp2_with fail
  go_ret
  exact ⟨HB.out, A1, c1, hc1, rfl, HR.out⟩

/-- 'append(row, e)' in a region that draws. -/
theorem step_push {ops : Array Oper} {o : Oper} {a : Act} {K : Act → World → Prop} {Q : Exit → Act → World → Prop} {E : Prop} (hgd : o.guard = none) (s x : Operand) (t e : TypeId) (sz bytes : Nat) (z : Value)
    (ho : o.op = .call { callee := .builtin .append, args := #[s, x], argTypes := #[t, t] }) (ht : Tryz.prog.underlying t = some (.slice e)) (hi : (Tryz.prog.info? e).map (fun i => (i.zero, i.size, i.bytes)) = some (some z, sz, bytes)) (hzs : z.cells.size = sz) (hsz : 0 < sz)
    (W : World) (B b : Nat) (v : Value) (n : Nat) (xs vs : List Value) (hs : a.eval s = v) (hx : a.eval x = .slice (some ⟨b, 0, none⟩) 1 1) (hbx : W.heap[b]? = some (.cells vs.toArray e (0, 0))) (hvl : vs.length = sz) (h1 : (vs.all fun u => u.oneCell') = true)
    (hown : Ix.Owns W B e sz v n xs) (hm : n + 1 ≤ maxLen) (hbytes : (n + 1) * bytes ≤ 140737488355328) (hB : B ≤ W.heap.size)
    (h : ∀ v' w', Ix.Owns w' B e sz v' (n + 1) (xs ++ vs) → Tch (fun k => v.ownBlock = some k) W w' → (∀ k, v'.ownBlock = some k → v.ownBlock = some k ∨ W.heap.size ≤ k) → K (a.put o.dst v') w') :
    if Region.wanted o (yielded ops a.tmps) = true then Oper.wp Tryz.prog o a W K Q else E := by
  obtain ⟨i0, hi0, hz0, hz1, hz2⟩ := info_parts hi
  refine Ix.step_app W hgd s x t ho B e i0 z sz bytes ht hi0 hz0 hz1 hz2 hzs hsz v n xs hs hown (some ⟨b, 0, none⟩) 1 1 vs hx ⟨by rw [hvl, Nat.one_mul], fun _ => ⟨_, rfl, blk_lt hbx, fun j u hu => ?_⟩⟩ (List.all_eq_true.1 h1) hm hbytes hB ?_
  · rw [Ix.add_zero', blk_cell hbx, List.getElem?_toArray, hu]
  · intro v' w' h1 h2 h3
    exact h v' w' h1 ⟨h2.os, h2.tape, h2.output, h2.size, h2.block⟩ h3

theorem digs_len (v : Int) : ∀ k, (digs v k).length = k
  | 0 => rfl
  | k + 1 => by show (digs v k).length + 1 = _; rw [digs_len v k]
theorem digs_get (v : Int) : ∀ (k j : Nat), j < k → (digs v k)[j]? = some (v / 256 ^ (k - 1 - j) % 256)
  | k + 1, 0, _ => by show some _ = _; simp
  | k + 1, j + 1, h => by
    show (digs v k)[j]? = _
    rw [digs_get v k j (by omega), show k + 1 - 1 - (j + 1) = k - 1 - j by omega]

set_option maxHeartbeats 8000000 in
set_option maxRecDepth 100000 in
theorem wnumber_ok {w : World} {B g : Nat} {A : Option Addr} {n c : Nat} {l : Bs} {most : Int} (h : Wt w B g A n c l most) (hBw : B ≤ w.heap.size) (v : Int) (h0 : 0 ≤ v) (h1 : v < 18446744073709551616) (k : Nat) (hk : k = 4 ∨ k = 8) (hr : (n : Int) + k ≤ most) :
    Calls Tryz.prog 178 #[rptr g, .int .u64 v, .int .i64 (k : Int)] w fun r w' => Tch (fun i => B ≤ i) w w' ∧ r = .returned (.int .i64 0) ∧ ∃ A' c', Wt w' B g A' (n + k) c' (l ++ digs v k) most := by
  have HRM := Lib.hid (room_ok h)
  have HW := Lib.hid h
  have HBW := Lib.hid hBw
  have hk8 : k ≤ 8 := by omega
  have hk1 : 1 ≤ k := by omega
  have hlim := h.lim
  clear h hk hBw
  unfold rptr at *
  go_enter Tryz.func178, Tryz.ntmps178
  go_wp2_with fail
  refine HRM.out.mono ?_
  rintro r w1 ⟨hb, rfl⟩
  have HW1 := Lib.hid (HW.out.below hb)
  have HT1 := Lib.hid (Tch.of_below (S := fun i => B ≤ i) hb)
  clear hb HRM HW
  go_wp2_with fail
  go_loopw [7] (fun v7 wr => ∃ (j : Nat) (i : Int) (A' : Option Addr) (c' : Nat), v7 = .int .i64 i ∧ j ≤ k ∧ i = (k : Int) - 1 - j ∧ Hid (Wt wr B g A' (n + j) c' (l ++ (digs v k).take j) most) ∧ Hid (Tch (fun i => B ≤ i) w wr)) (fun v7 _ => (intOf v7 + 1).toNat)
  case atStart => exact ⟨0, _, A, c, rfl, Nat.zero_le _, by simp, by show Wt _ _ _ _ _ _ _ _; rw [List.take_zero, List.append_nil]; exact HW1.out, HT1.out⟩
  case round =>
    clear HW1 HT1
    obtain ⟨j, i, A', c', rfl, hj, hi, HW, HT⟩ := hrel
    by_cases c1 : j < k
    · obtain ⟨q, rfl⟩ := Int.eq_ofNat_of_zero_le (show 0 ≤ i by omega)
      have hq : q = k - 1 - j := by omega
      have HQ := Lib.hid hq
      have hq8 : q < 8 := by omega
      have hw : IntKind.i64.wrap (8 * (q : Int)) = 8 * (q : Int) := by simp [IntKind.wrap, IntKind.bits, IntKind.signed]; omega
      clear hq hi
      have p0 : wr.cell? ⟨g, 0, none⟩ = some (.slice A' (n + j) c') := blk_cell HW.out.box 0
      have f0 : wr.frozen? ⟨g, 0, none⟩ = false := blk_frozen HW.out.box 0
      have hA : Below wr.heap.size wr (wr.alloc (.cells #[.int .u8 (IntKind.u8.wrap (v / 2 ^ (8 * (q : Int)).toNat))] 5)).drew := below_drew ((Below.refl _ _).alloc (Nat.le_refl _) _)
      have HWq := Lib.hid (HW.out.below hA)
      have HTq := Lib.hid (HT.out.trans (Tch.of_below hA))
      have HBX := Lib.hid (blk_below (blk_new wr (.cells #[.int .u8 (IntKind.u8.wrap (v / 2 ^ (8 * (q : Int)).toNat))] 5)) (below_drew (Below.refl _ _)))
      have HBq := Lib.hid (Nat.le_trans (Nat.le_trans HBW.out HT.out.size) hA.size)
      have HXV : Hid (u8s (l ++ (digs v k).take j) ++ [.int .u8 (IntKind.u8.wrap (v / 2 ^ (8 * (q : Int)).toNat))] = u8s (l ++ (digs v k).take (j + 1))) := by
        show _ = _
        have hd := digs_get v k j c1
        rw [List.take_add_one, hd]
        have hx : (IntKind.u8.wrap (v / 2 ^ (8 * (q : Int)).toNat)) = v / 256 ^ (k - 1 - j) % 256 := by
          rw [← HQ.out, show (8 * (q : Int)).toNat = 8 * q by omega, Int.pow_mul]
          rfl
        rw [hx]
        simp [u8s]
      have p2 : (wr.alloc (.cells #[.int .u8 (IntKind.u8.wrap (v / 2 ^ (8 * (q : Int)).toNat))] 5)).cell? ⟨g, 0, none⟩ = some (.slice A' (n + j) c') := blk_cell (blk_below HW.out.box ((Below.refl _ _).alloc (Nat.le_refl _) _)) 0
      clear hA
      go_wp2_with fail
      go_region_law (refine step_push rfl _ _ 51 5 1 1 (.int .u8 0) rfl Tryz.underlying51 info5 rfl (by decide) _ B wr.heap.size (.slice A' (n + j) c') (n + j) (u8s (l ++ (digs v k).take j)) [.int .u8 (IntKind.u8.wrap (v / 2 ^ (8 * (q : Int)).toNat))] rfl rfl HBX.out rfl rfl HWq.out.own (by simp only [maxLen]; omega) (by omega) HBq.out ?_; intro v8 w8 ho ht hs; obtain ⟨A8, c8, rfl⟩ := ho.slice; have x7 := ht.keep HWq.out.box (fun e => Owns_ne HWq.out.own HWq.out.box (by decide) _ e rfl); have HO8 := Lib.hid ho; have HT8 := Lib.hid ht; have X7 := Lib.hid x7; have q7 := blk_cell x7 0; have f7 := blk_frozen x7 0; clear ho ht hs x7)
      all_goals
        go_wp2_with fail
        have t9 := Tch.set (S := fun i => i = g) w8 ⟨g, 0, none⟩ (.slice A8 (n + j + 1) c8) rfl
        have hgB := HW.out.gB
        have ht : Tch (fun i => B ≤ i) w (w8.setCell ⟨g, 0, none⟩ (.slice A8 (n + j + 1) c8)) := (HTq.out.trans (HT8.out.mono (fun k hk => (HWq.out.own.lt k hk).1))).trans (t9.mono (fun i hi => by omega))
        have ho := HO8.out
        rw [HXV.out] at ho
        have hql := HQ.out
        refine ⟨⟨j + 1, _, A8, c8, rfl, by omega, by omega, ?_, ht⟩, by simp [intOf]⟩
        exact ⟨blk_put X7.out 0 _ rfl, Owns_tch ho t9 (fun k hk e => Owns_ne ho X7.out (by decide) k hk e), by have e := HW.out.len; rw [List.length_append, List.length_take, digs_len] at e ⊢; rw [Nat.min_eq_left (by omega)] at e ⊢; omega, HW.out.lim, by omega, hgB⟩
    · obtain rfl : j = k := by omega
      obtain rfl : i = -1 := by omega
      clear hi
      go_wp2_with fail
      go_ret
      refine ⟨HT.out, rfl, A', c', ?_⟩
      have := HW.out
      rw [List.take_of_length_le (by rw [digs_len]; omega)] at this
      exact this
/-- A signed number's bytes. -/
theorem digs_mod (v : Int) : ∀ k K, k ≤ K → digs (v % 256 ^ K) k = digs v k
  | 0, K, _ => rfl
  | k + 1, K, h => by
    show v % 256 ^ K / 256 ^ k % 256 :: digs (v % 256 ^ K) k = _ :: digs v k
    rw [digs_mod v k K (by omega)]
    congr 1
    obtain ⟨d, rfl⟩ : ∃ d, K = k + 1 + d := ⟨K - (k + 1), by omega⟩
    have hp : (0 : Int) < 256 ^ k := Int.pow_pos (by decide)
    have h1 : v % 256 ^ (k + 1 + d) % 256 ^ (k + 1) = v % 256 ^ (k + 1) := Int.emod_emod_of_dvd _ ⟨256 ^ d, by rw [← Int.pow_add]⟩
    have h2 : ∀ x : Int, x / 256 ^ k % 256 = x % 256 ^ (k + 1) / 256 ^ k := fun x => by
      rw [Int.pow_succ]
      have e := Int.mul_ediv_add_emod x (256 ^ k * 256)
      have r0 := Int.emod_nonneg x (show (256 ^ k * 256 : Int) ≠ 0 by omega)
      have r1 := Int.emod_lt_of_pos x (show (0 : Int) < 256 ^ k * 256 by omega)
      generalize x % (256 ^ k * 256) = r at *
      generalize x / (256 ^ k * 256) = q at *
      have e2 : x = r + 256 ^ k * (256 * q) := by rw [← e, Int.mul_assoc]; omega
      rw [e2, Int.add_mul_ediv_left _ _ (by omega), Int.add_mul_emod_self_left]
      have s0 : 0 ≤ r / 256 ^ k := Int.ediv_nonneg r0 (Int.le_of_lt hp)
      have s1 : r / 256 ^ k < 256 := Int.ediv_lt_of_lt_mul hp (by rw [Int.mul_comm]; exact r1)
      omega
    rw [h2, h2, h1]
end Go.Proofs.YtciikcmiiebfpaaGreatDoor
end

/- WriterB -/
section
/- cursor.Writer: I64, I32, Raw of one part. -/
namespace Go.Proofs.YtciikcmiiebfpaaGreatDoor
open Go Go.RowKit Go.Proofs.YtciikcmiiebfpaaGreatDoorW.PrintWords Go.Proofs.YtciikcmiiebfpaaGreatDoor.PTopicsGets Go.Proofs.YtciikcmiiebfpaaGreatDoorW.PrintMore
set_option linter.unusedVariables false
set_option linter.unusedSimpArgs false

theorem wi64_ok {w : World} {B g : Nat} {A : Option Addr} {n c : Nat} {l : Bs} {most : Int} (h : Wt w B g A n c l most) (hBw : B ≤ w.heap.size) (v : Int) (hr : (n : Int) + 8 ≤ most) :
    Calls Tryz.prog 122 #[rptr g, .int .i64 v] w fun r w' => Tch (fun i => B ≤ i) w w' ∧ r = .returned (.int .i64 0) ∧ ∃ A' c', Wt w' B g A' (n + 8) c' (l ++ digs v 8) most := by
  have HN := Lib.hid (wnumber_ok h hBw (v % 18446744073709551616) (Int.emod_nonneg _ (by decide)) (Int.emod_lt_of_pos _ (by decide)) 8 (Or.inr rfl) hr)
  have e : digs (v % 18446744073709551616) 8 = digs v 8 := digs_mod v 8 8 (Nat.le_refl _)
  rw [e] at HN
  clear h hBw hr e
  unfold rptr at *
  go_enter Tryz.func122, Tryz.ntmps122
  go_wp2_with fail
  refine HN.out.mono ?_
  rintro r w1 ⟨ht, rfl, hx⟩
  have HT := Lib.hid ht
  have HX := Lib.hid hx
  clear ht hx HN
  go_wp2_with fail
  go_ret
  exact ⟨HT.out, rfl, HX.out⟩
theorem wi32_ok {w : World} {B g : Nat} {A : Option Addr} {n c : Nat} {l : Bs} {most : Int} (h : Wt w B g A n c l most) (hBw : B ≤ w.heap.size) (v : Int) (hr : (n : Int) + 4 ≤ most) :
    Calls Tryz.prog 124 #[rptr g, .int .i32 v] w fun r w' => Tch (fun i => B ≤ i) w w' ∧ r = .returned (.int .i64 0) ∧ ∃ A' c', Wt w' B g A' (n + 4) c' (l ++ digs v 4) most := by
  have HN := Lib.hid (wnumber_ok h hBw (v % 18446744073709551616) (Int.emod_nonneg _ (by decide)) (Int.emod_lt_of_pos _ (by decide)) 4 (Or.inl rfl) hr)
  have e : digs (v % 18446744073709551616) 4 = digs v 4 := digs_mod v 4 8 (by decide)
  rw [e] at HN
  clear h hBw hr e
  unfold rptr at *
  go_enter Tryz.func124, Tryz.ntmps124
  go_wp2_with fail
  refine HN.out.mono ?_
  rintro r w1 ⟨ht, rfl, hx⟩
  have HT := Lib.hid ht
  have HX := Lib.hid hx
  clear ht hx HN
  go_wp2_with fail
  go_ret
  exact ⟨HT.out, rfl, HX.out⟩

/-- Bytes that are read, as cells. -/
theorem CB_rd {w : World} {A : Option Addr} {n : Nat} {l : Bs} (h : CB w A n l) : Ix.Rd w 1 A n (u8s l) := by
  have hl := Kd.C_len h
  refine ⟨by unfold u8s; rw [List.length_map, hl, Nat.mul_one], fun hn => ?_⟩
  obtain ⟨ad, e, hc⟩ := (Kd.reads_of_C (d := (0 : Int)) h).2.2 hn
  refine ⟨ad, e, ?_, fun j u hu => ?_⟩
  · have := World.block_lt_of_cell? w _ (hc 0 hn)
    rw [Ix.add_block] at this
    exact this
  · unfold u8s at hu
    rw [List.getElem?_map] at hu
    obtain ⟨x, hx, rfl⟩ := Option.map_eq_some_iff.1 hu
    have hj := (List.getElem?_eq_some_iff.1 hx).1
    have := hc j (by omega)
    rw [List.getD_eq_getElem?_getD, hx] at this
    exact this
theorem u8s_cell (l : Bs) : ∀ u ∈ u8s l, u.oneCell' = true := by
  intro u hu
  obtain ⟨x, _, rfl⟩ := List.mem_map.1 hu
  rfl

set_option maxHeartbeats 8000000 in
set_option maxRecDepth 100000 in
theorem wraw_ok {w : World} {B g : Nat} {A : Option Addr} {n c : Nat} {l : Bs} {most : Int} (h : Wt w B g A n c l most) (hBw : B ≤ w.heap.size) (b : Nat) (P : Option Addr) (pn pc : Nat) (pl : Bs) (hcell : w.cell? ⟨b, 0, none⟩ = some (.slice P pn pc)) (hpl : pl.length = pn) (hpb : B ≤ b ∧ b ≠ g)
    (hP : ∀ W, Tch (fun i => B ≤ i) w W → CB W P pn pl) (hr : (n : Int) + pn ≤ most) :
    Calls Tryz.prog 123 #[rptr g, .slice (some ⟨b, 0, none⟩) 1 1] w fun r w' => Tch (fun i => B ≤ i) w w' ∧ r = .returned (.int .i64 0) ∧ ∃ A' c', Wt w' B g A' (n + pn) c' (l ++ pl) most := by
  have HW := Lib.hid h
  have HBW := Lib.hid hBw
  have HP := Lib.hid hP
  have HPL := Lib.hid hpl
  have HRM := Lib.hid (fun (W : World) (hb : Below w.heap.size w W) => room_ok (h.below hb))
  have hlim := h.lim
  clear h hP hBw hpl
  unfold rptr at *
  go_enter Tryz.func123, Tryz.ntmps123
  go_wp2_with fail
  go_loopw [5, 12] (fun v5 v12 wr => wr = w ∧ ((v5 = .int .i64 0 ∧ v12 = .int .i64 0) ∨ (v5 = .int .i64 (pn : Int) ∧ v12 = .int .i64 1))) (fun _ v12 _ => 1 - (intOf v12).toNat)
  case atStart => exact ⟨rfl, Or.inl ⟨rfl, rfl⟩⟩
  case round =>
    obtain ⟨hwr, hrel⟩ := hrel
    subst hwr
    rcases hrel with ⟨rfl, rfl⟩ | ⟨rfl, rfl⟩
    · go_wp2_with fail
      go_roundw
      case rel => exact ⟨trivial, Or.inr ⟨rfl, rfl⟩⟩
      case measure => simp [intOf]
    · go_wp2_with fail
      refine (HRM.out wr (Below.refl _ _)).mono ?_
      rintro r w2 ⟨hb, rfl⟩
      have HW2 := Lib.hid (HW.out.below hb)
      have HT2 := Lib.hid (Tch.of_below (S := fun i => B ≤ i) hb)
      have hcell2 : w2.cell? ⟨b, 0, none⟩ = some (.slice P pn pc) := (hb.cell (p := ⟨b, 0, none⟩) (World.block_lt_of_cell? wr _ hcell)).trans hcell
      clear hb HRM HW
      go_wp2_with fail
      obtain ⟨i0, hi0, hz0, hz1, hz2⟩ := info_parts info5
      go_loopw [27] (fun v27 w3 => Hid (Tch (fun i => B ≤ i) wr w3) ∧ ((v27 = .int .i64 0 ∧ w3 = w2) ∨ (v27 = .int .i64 1 ∧ ∃ (A' : Option Addr) (c' : Nat), Hid (Wt w3 B g A' (n + pn) c' (l ++ pl) most)))) (fun v27 _ => 1 - (intOf v27).toNat)
      case atStart => exact ⟨HT2.out, Or.inl ⟨rfl, rfl⟩⟩
      case round =>
        rename World => wo
        obtain ⟨HT3, hrel⟩ := hrel
        rcases hrel with ⟨rfl, hw⟩ | ⟨rfl, A', c', HW4⟩
        · subst hw
          have HRD := Lib.hid (CB_rd (HP.out wo HT3.out))
          have HBo := Lib.hid (Nat.le_trans HBW.out HT3.out.size)
          have p0 : wo.cell? ⟨g, 0, none⟩ = some (.slice A n c) := blk_cell HW2.out.box 0
          go_wp2_with (at_builtin; refine Ix.wpList_app _ rfl _ _ 51 rfl B 5 i0 _ 1 1 Tryz.underlying51 hi0 hz0 hz1 hz2 rfl (by decide) (.slice A n c) n (u8s l) rfl HW2.out.own P pn pc (u8s pl) rfl HRD.out (u8s_cell _) (by simp only [maxLen]; omega) (by omega) HBo.out ?_; intro v8 w8 ho hk hs; obtain ⟨A8, c8, rfl⟩ := ho.slice; have ht : Tch (fun k => (Value.slice A n c).ownBlock = some k) wo w8 := ⟨hk.os, hk.tape, hk.output, hk.size, hk.block⟩; have x7 := ht.keep HW2.out.box (fun e => Owns_ne HW2.out.own HW2.out.box (by decide) _ e rfl); have HO8 := Lib.hid ho; have HT8 := Lib.hid ht; have X7 := Lib.hid x7; have q7 := blk_cell x7 0; have f7 := blk_frozen x7 0; clear ho hk hs ht x7)
          have t9 := Tch.set (S := fun i => i = g) w8 ⟨g, 0, none⟩ (.slice A8 (n + pn) c8) rfl
          have hgB := HW2.out.gB
          have ht : Tch (fun i => B ≤ i) wr (w8.setCell ⟨g, 0, none⟩ (.slice A8 (n + pn) c8)) := (HT3.out.trans (HT8.out.mono (fun k hk => (HW2.out.own.lt k hk).1))).trans (t9.mono (fun i hi => by omega))
          have ho := HO8.out
          have he : u8s l ++ u8s pl = u8s (l ++ pl) := by simp [u8s]
          rw [he] at ho
          have HWn : Hid (Wt (w8.setCell ⟨g, 0, none⟩ (.slice A8 (n + pn) c8)) B g A8 (n + pn) c8 (l ++ pl) most) :=
            ⟨blk_put X7.out 0 _ rfl, Owns_tch ho t9 (fun k hk e => Owns_ne ho X7.out (by decide) k hk e), by rw [List.length_append, HW2.out.len, HPL.out], HW2.out.lim, by omega, hgB⟩
          go_roundw
          case rel => exact ⟨ht, Or.inr ⟨rfl, A8, c8, HWn⟩⟩
          case measure => simp [intOf]
        · go_wp2_with fail
          go_ret
          exact ⟨HT3.out, rfl, A', c', HW4.out⟩
end Go.Proofs.YtciikcmiiebfpaaGreatDoor
end

/- BatB -/
section
/- batch.Rebase of one whole plain batch. -/
namespace Go.Proofs.YtciikcmiiebfpaaGreatDoor
open Go Go.RowKit Go.Proofs.YtciikcmiiebfpaaGreatDoorW.PrintWords Go.Proofs.YtciikcmiiebfpaaGreatDoor.PTopicsGets Go.Proofs.YtciikcmiiebfpaaGreatDoorW.PrintMore
set_option linter.unusedVariables false
set_option linter.unusedSimpArgs false

/-- A batch with another base and epoch. -/
def rebBytes (l : Bs) (base epoch : Int) : Bs := digs base 8 ++ (l.drop 8).take 4 ++ digs epoch 4 ++ l.drop 16
theorem rebBytes_len {l : Bs} (h : 16 ≤ l.length) (base epoch : Int) : (rebBytes l base epoch).length = l.length := by
  unfold rebBytes
  rw [List.length_append, List.length_append, List.length_append, digs_len, digs_len, List.length_take, List.length_drop, List.length_drop]
  omega
theorem digs_byt (v : Int) : ∀ k, Byt (digs v k)
  | 0 => Byt.nil
  | k + 1 => fun b hb => by
    rcases List.mem_cons.1 hb with rfl | hb
    · exact ⟨Int.emod_nonneg _ (by decide), by have := Int.emod_lt_of_pos (v / 256 ^ k) (show (0 : Int) < 256 by decide); omega⟩
    · exact digs_byt v k b hb
theorem rebBytes_byt {l : Bs} (h : Byt l) (base epoch : Int) : Byt (rebBytes l base epoch) := ((((digs_byt _ _).append ((h.drop _).take _)).append (digs_byt _ _)).append (h.drop _))
set_option maxHeartbeats 8000000 in
set_option maxRecDepth 100000 in
theorem rebase_ok {w : World} {A : Option Addr} {n c : Nat} {l : Bs} {v0 v12 v17 v27 v35 v43 v51 v53 : Int} {ts : List Int} (base epoch : Int) (hl : l.length = n) (hn : n ≤ c) (hs : n ≤ 36000) (HB : CB w A n l) (HT : Tab w) (h : BatOk l v0 v12 v17 v27 v35 v43 v51 v53 ts) (hbase : badBase base = false) :
    Calls Tryz.prog 66 #[.slice A n c, .int .i64 base, .int .i32 epoch] w fun r w' => Below w.heap.size w w' ∧ ∃ A' c', n ≤ c' ∧ r = .returned (.tuple #[.slice A' n c', .int .i64 0]) ∧ NewR w w' (.slice A' n c') (rebBytes l base epoch) := by
  have h61 := h.head.len
  have HD := Lib.hid (dec_ok hl hn (by omega) HB HT h)
  obtain ⟨A8, c8, hc8, hcut8, hM8⟩ := piece_cut (A := A) hl hn (by omega) 8 12 4 (by decide) rfl (by omega)
  obtain ⟨A16, hcut16, hM16⟩ := piece_drop (A := A) hl hn 16 16 rfl (by omega)
  have HC8 := Lib.hid (fun (W : World) (hb : Below w.heap.size w W) => hM8 W (HB.below hb))
  have HC16 := Lib.hid (fun (W : World) (hb : Below w.heap.size w W) => hM16 W (HB.below hb))
  have h8 : ((l.drop (8 : Int).toNat).take 4).length = 4 := by rw [List.length_take, List.length_drop]; simp; omega
  have h16 : (l.drop 16).length = n - 16 := by rw [List.length_drop, hl]
  have HL8 := Lib.hid h8
  have HL16 := Lib.hid h16
  have HBB := Lib.hid hbase
  have HL := Lib.hid hl
  have HBY := Lib.hid (rebBytes_byt h.head.byt base epoch)
  have HRB : Hid (([] ++ digs base 8 ++ (l.drop (8 : Int).toNat).take 4 ++ digs epoch 4 ++ l.drop 16) = rebBytes l base epoch) := rfl
  have HN : Hid (61 ≤ n ∧ n ≤ 36000) := ⟨by omega, hs⟩
  clear h HB HT hM8 hM16 h8 h16 hbase h61 hl
  go_enter Tryz.func66, Tryz.ntmps66
  go_wp2_with fail
  refine HD.out.mono ?_
  rintro r w1 ⟨hb1, A', c', rs, rfl, hrs, _⟩
  have HB1 := Lib.hid hb1
  clear HD hb1 hrs
  go_wp2_with fail
  have hA2 : Below w.heap.size w (w1.alloc (.cells #[.int .i64 v0, .int .i32 v12, .int .i64 v43, .int .i16 v51, .int .i32 v53, .slice A' ts.length c'] 95)) := HB1.out.alloc HB1.out.size _
  have HB2 := Lib.hid hA2
  clear hA2 HB1
  generalize w1.alloc (.cells #[.int .i64 v0, .int .i32 v12, .int .i64 v43, .int .i16 v51, .int .i32 v53, .slice A' ts.length c'] 95) = w2 at *
  refine (badBase_any base w2).mono ?_
  rintro r w3 ⟨rfl, rfl⟩
  rw [HBB.out]
  go_wp2_with fail
  refine (newWriter_ok w3 36000 (by decide) (by decide)).mono ?_
  rintro r w4 ⟨hb4, rfl, hw4⟩
  have HB4 := Lib.hid (HB2.out.trans (hb4.mono HB2.out.size))
  have HWB := Lib.hid HB2.out.size
  have HW4 := Lib.hid hw4
  have HS4 := Lib.hid hb4.size
  clear hb4 hw4 HB2
  generalize w3.heap.size = B at *
  go_wp2_with fail
  refine (wi64_ok HW4.out HS4.out base (by decide)).mono ?_
  rintro r w5 ⟨ht, rfl, A5, c5, hw⟩
  have HB5 := Lib.hid (HB4.out.trans (ht.below HB4.out.size (fun k hk => Nat.le_trans HWB.out hk)))
  have HS5 := Lib.hid (Nat.le_trans HS4.out ht.size)
  have HW5 := Lib.hid hw
  clear ht hw HW4 HB4 HS4
  go_wp2_with fail
  have hA : Below w5.heap.size w5 (w5.alloc (.cells #[.slice A8 4 c8] 51)) := (Below.refl _ _).alloc (Nat.le_refl _) _
  have hbx := blk_cell (blk_new w5 (.cells #[.slice A8 4 c8] 51)) 0
  have HB6 := Lib.hid (HB5.out.trans (hA.mono HB5.out.size))
  have HW6 := Lib.hid (HW5.out.below hA)
  have HS6 := Lib.hid (Nat.le_trans HS5.out hA.size)
  have hne : B ≤ w5.heap.size ∧ w5.heap.size ≠ B := ⟨HS5.out, by have := blk_lt HW5.out.box; omega⟩
  clear HB5 HW5 HS5 hA
  generalize w5.heap.size = b6 at *
  generalize w5.alloc (.cells #[.slice A8 4 c8] 51) = w6 at *
  refine (wraw_ok HW6.out HS6.out b6 A8 4 c8 _ hbx HL8.out hne (fun W hT => HC8.out W (HB6.out.trans (hT.below HB6.out.size (fun k hk => Nat.le_trans HWB.out hk)))) (by decide)).mono ?_
  rintro r w7 ⟨ht, rfl, A7, c7, hw⟩
  have HB7 := Lib.hid (HB6.out.trans (ht.below HB6.out.size (fun k hk => Nat.le_trans HWB.out hk)))
  have HS7 := Lib.hid (Nat.le_trans HS6.out ht.size)
  have HW7 := Lib.hid hw
  clear ht hw HW6 HB6 HS6 hbx hne
  go_wp2_with fail
  refine (wi32_ok HW7.out HS7.out epoch (by decide)).mono ?_
  rintro r w8 ⟨ht, rfl, A9, c9, hw⟩
  have HB8 := Lib.hid (HB7.out.trans (ht.below HB7.out.size (fun k hk => Nat.le_trans HWB.out hk)))
  have HS8 := Lib.hid (Nat.le_trans HS7.out ht.size)
  have HW8 := Lib.hid hw
  clear ht hw HW7 HB7 HS7
  go_wp2_with fail
  have hA : Below w8.heap.size w8 (w8.alloc (.cells #[.slice A16 (n - 16) (c - 16)] 51)) := (Below.refl _ _).alloc (Nat.le_refl _) _
  have hbx := blk_cell (blk_new w8 (.cells #[.slice A16 (n - 16) (c - 16)] 51)) 0
  have HB9 := Lib.hid (HB8.out.trans (hA.mono HB8.out.size))
  have HW9 := Lib.hid (HW8.out.below hA)
  have HS9 := Lib.hid (Nat.le_trans HS8.out hA.size)
  have hne : B ≤ w8.heap.size ∧ w8.heap.size ≠ B := ⟨HS8.out, by have := blk_lt HW8.out.box; omega⟩
  clear HB8 HW8 HS8 hA
  generalize w8.heap.size = b9 at *
  generalize w8.alloc (.cells #[.slice A16 (n - 16) (c - 16)] 51) = w9 at *
  refine (wraw_ok HW9.out HS9.out b9 A16 (n - 16) (c - 16) _ hbx HL16.out hne (fun W hT => HC16.out W (HB9.out.trans (hT.below HB9.out.size (fun k hk => Nat.le_trans HWB.out hk)))) (by have := HN.out; omega)).mono ?_
  rintro r wa ⟨ht, rfl, Aa, ca, hw⟩
  have HBa := Lib.hid (HB9.out.trans (ht.below HB9.out.size (fun k hk => Nat.le_trans HWB.out hk)))
  have HWa := Lib.hid hw
  clear ht hw HW9 HB9 HS9 hbx hne
  go_wp2_with fail
  have hwa := HWa.out
  rw [HRB.out, show 0 + 8 + 4 + 4 + (n - 16) = n by have := HN.out; omega] at hwa
  have HWb := Lib.hid hwa
  have hfit : 0 + 8 + 4 + 4 + (n - 16) = n := by have := HN.out; omega
  clear hwa HWa
  refine (bytes_ok HWb.out HBY.out).mono ?_
  rintro r wc ⟨hb, Ac, cc, hcc, rfl, hr⟩
  have HBc := Lib.hid (HBa.out.trans (hb.mono HBa.out.size))
  have HR := Lib.hid (Kd.R_mono hr (fun i hi => Nat.le_trans HBa.out.size hi))
  clear hb hr hfit
  go_wp2_with fail
  go_ret2
  exact ⟨HBc.out, Ac, cc, hcc, rfl, HR.out⟩
end Go.Proofs.YtciikcmiiebfpaaGreatDoor
end
