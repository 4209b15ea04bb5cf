/- Bat, Rec, Puts as one text (a claim holds at most 60 files). -/
import Derived.Test.YtciikcmiiebfpaaGreatDoorCursor
import Derived.Test.YtciikcmiiebfpaaGreatDoorBatP
import Derived.Deep.RegionLaw

/- Bat -/
section
/- batch: Measure, the small tests. -/
namespace Go.Proofs.YtciikcmiiebfpaaGreatDoor
open Go Go.RowKit Go.Proofs.YtciikcmiiebfpaaGreatDoorW.PrintWords Go.Proofs.YtciikcmiiebfpaaGreatDoor.PTopicsGets Go.Proofs.YtciikcmiiebfpaaGreatDoorW.PrintMore
set_option linter.unusedVariables false
set_option linter.unusedSimpArgs false

theorem beL_fold : ∀ (l : Bs) (v : Int), beL l v = l.foldl (fun v c => v * 256 + c) v
  | [], _ => rfl
  | c :: r, v => beL_fold r (v * 256 + c)
theorem fold_lt : ∀ (l : Bs) (v : Int), Byt l → 0 ≤ v → 0 ≤ l.foldl (fun v c => v * 256 + c) v ∧ l.foldl (fun v c => v * 256 + c) v < (v + 1) * 256 ^ l.length
  | [], v, _, h0 => ⟨h0, by simp; omega⟩
  | c :: r, v, hb, h0 => by
    obtain ⟨⟨c0, c1⟩, hr⟩ := hb.cons
    have ih := fold_lt r (v * 256 + c) hr (by omega)
    refine ⟨ih.1, Int.lt_of_lt_of_le ih.2 ?_⟩
    have hp : (0 : Int) ≤ 256 ^ r.length := Int.le_of_lt (Int.pow_pos (by decide))
    rw [List.length_cons, Int.pow_succ, Int.mul_comm (256 ^ r.length) 256, ← Int.mul_assoc]
    exact Int.mul_le_mul_of_nonneg_right (by omega) hp
theorem ube_lt {l : Bs} (hb : Byt l) {k : Nat} (hk : l.length = k) : 0 ≤ ube l ∧ ube l < 256 ^ k := by
  have := fold_lt l 0 hb (Int.le_refl _)
  subst hk
  exact ⟨this.1, by have h2 := this.2; rw [Int.zero_add, Int.one_mul] at h2; exact h2⟩
theorem be_ube (l : Bs) (a k : Nat) : be l a k = ube ((l.drop a).take k) := beL_fold _ _
theorem bes4 {l : Bs} (hb : Byt l) {a : Nat} (h : a + 4 ≤ l.length) : bes l a 4 = IntKind.i32.wrap (ube ((l.drop a).take 4)) := by
  have hr := ube_lt ((hb.drop a).take 4) (k := 4) (by rw [List.length_take, List.length_drop]; omega)
  unfold bes sg
  rw [be_ube]
  generalize ube ((l.drop a).take 4) = v at hr ⊢
  simp [IntKind.wrap, IntKind.bits, IntKind.signed] at hr ⊢
  split <;> omega
theorem bes2 {l : Bs} (hb : Byt l) {a : Nat} (h : a + 2 ≤ l.length) : bes l a 2 = IntKind.i16.wrap (ube ((l.drop a).take 2)) := by
  have hr := ube_lt ((hb.drop a).take 2) (k := 2) (by rw [List.length_take, List.length_drop]; omega)
  unfold bes sg
  rw [be_ube]
  generalize ube ((l.drop a).take 2) = v at hr ⊢
  simp [IntKind.wrap, IntKind.bits, IntKind.signed] at hr ⊢
  split <;> omega
theorem bes1 {l : Bs} (hb : Byt l) {a : Nat} (h : a + 1 ≤ l.length) : bes l a 1 = IntKind.i8.wrap (ube ((l.drop a).take 1)) := by
  have hr := ube_lt ((hb.drop a).take 1) (k := 1) (by rw [List.length_take, List.length_drop]; omega)
  unfold bes sg
  rw [be_ube]
  generalize ube ((l.drop a).take 1) = v at hr ⊢
  simp [IntKind.wrap, IntKind.bits, IntKind.signed] at hr ⊢
  split <;> omega
theorem bes8 {l : Bs} (hb : Byt l) {a : Nat} (h : a + 8 ≤ l.length) : bes l a 8 = IntKind.i64.wrap (ube ((l.drop a).take 8)) := by
  have hr := ube_lt ((hb.drop a).take 8) (k := 8) (by rw [List.length_take, List.length_drop]; omega)
  unfold bes sg
  rw [be_ube]
  generalize ube ((l.drop a).take 8) = v at hr ⊢
  simp [IntKind.wrap, IntKind.bits, IntKind.signed] at hr ⊢
  split <;> omega
theorem wrap_i32_range (x : Int) : -2147483648 ≤ IntKind.i32.wrap x ∧ IntKind.i32.wrap x < 2147483648 := by
  simp [IntKind.wrap, IntKind.bits, IntKind.signed]; omega

/-- A piece b[i:j]. -/
theorem piece_cut {A : Option Addr} {n c : Nat} {l : Bs} (hl : l.length = n) (hn : n ≤ c) (hs : n < 4611686018427387904) (x y : Int) (k : Nat) (h0 : 0 ≤ x) (hk : y = x + k) (h : x + k ≤ n) :
    ∃ A5 c5, k ≤ c5 ∧ (∀ W, (Instr.slice 51 (.slice A n c) (some (.int .i64 x)) (some (.int .i64 y)) none).run Tryz.prog W = .ok (.slice A5 k c5) W) ∧ (∀ W, CB W A n l → CB W A5 k ((l.drop x.toNat).take k)) := by
  obtain ⟨i0, hi0, _, hsz, _⟩ := info_parts info5
  obtain ⟨A5, hcut, hA5, hC5⟩ := print_mid_of (P := Tryz.prog) (Value.int .u8) (0 : Int) 51 5 .i64 .i64 Tryz.underlying51 hi0 hsz A c l x y (by omega) (by omega) (by omega) (by omega)
  have hm : ((l.take y.toNat).drop x.toNat) = (l.drop x.toNat).take k := by
    rw [show y.toNat = x.toNat + k by omega, List.drop_take, Nat.add_sub_cancel_left]
  rw [hm, hl] at hcut
  rw [hm] at hA5 hC5
  have hlen : ((l.drop x.toNat).take k).length = k := by rw [List.length_take, List.length_drop, hl]; omega
  rw [hlen] at hcut hC5
  refine ⟨A5, _, hC5, hcut, fun W H => ?_⟩
  have := Kd.C_of_reads (h1 := fun _ => rfl) (hA5 W (by have := Kd.reads_of_C (d := (0 : Int)) H; rw [← hl] at this; exact this))
  rw [hlen] at this
  exact this

theorem measure_any (A : Option Addr) (n c : Nat) (l : Bs) (hb : Byt l) (hn : n ≤ c) (hl : l.length = n) (hs : n < 1073741824) (at_ : Int) (w : World) (HB : CB w A n l) :
    Calls Tryz.prog 113 #[.slice A n c, .int .i64 at_] w fun r w' => Below w.heap.size w w' ∧ r = .returned (.tuple #[.int .i64 (measure_ l at_).1, .int .i64 (measure_ l at_).2]) := by
  by_cases h1 : at_ < 0
  · have HV := Lib.hid (show measure_ l at_ = (0, 3) by unfold measure_; rw [if_pos (Or.inl h1)])
    clear hb HB
    go_enter Tryz.func113, Tryz.ntmps113
    go_wp2_with fail
    go_ret2
    exact ⟨Below.refl _ _, by rw [HV.out]; rfl⟩
  by_cases h2 : (n : Int) < at_
  · have HV := Lib.hid (show measure_ l at_ = (0, 3) by unfold measure_; rw [if_pos (Or.inr (by rw [hl]; exact h2))])
    clear hb HB
    go_enter Tryz.func113, Tryz.ntmps113
    go_wp2_with fail
    go_ret2
    exact ⟨Below.refl _ _, by rw [HV.out]; rfl⟩
  by_cases h3 : (n : Int) - at_ < 12
  · have HV := Lib.hid (show measure_ l at_ = (0, 1) by unfold measure_; rw [if_neg (by rw [hl]; omega), if_pos (by rw [hl]; exact h3)])
    clear hb HB
    go_enter Tryz.func113, Tryz.ntmps113
    go_wp2_with fail
    go_ret2
    exact ⟨Below.refl _ _, by rw [HV.out]; rfl⟩
  obtain ⟨A5, c5, hc5, hcut, hM⟩ := piece_cut (A := A) hl hn (by omega) (at_ + 8) (at_ + 12) 4 (by omega) (by omega) (by omega)
  have hv := bes4 hb (a := at_.toNat + 8) (by omega)
  have hm : measure_ l at_ = if bes l (at_.toNat + 8) 4 < 49 then (0, 5) else if 35988 < bes l (at_.toNat + 8) 4 then (0, 4) else if (n : Int) - at_ - 12 < bes l (at_.toNat + 8) 4 then (0, 1) else (12 + bes l (at_.toNat + 8) 4, 0) := by
    unfold measure_; rw [if_neg (by rw [hl]; omega), if_neg (by rw [hl]; exact h3), hl]
  rw [hv] at hm
  have h8 : (at_ + 8).toNat = at_.toNat + 8 := by omega
  rw [h8] at hM
  have hp4 : (l.drop (at_.toNat + 8)).take 4 = (((l.drop (at_.toNat + 8)).take 4).drop 0).take 4 := by rw [List.drop_zero, List.take_take]; rfl
  rw [hp4] at hm
  have hpl : ((l.drop (at_.toNat + 8)).take 4).length = 4 := by rw [List.length_take, List.length_drop]; omega
  have HP := Lib.hid ((hb.drop (at_.toNat + 8)).take 4)
  have HC := Lib.hid (hM w HB)
  have HL := Lib.hid hpl
  clear hb HB hM hv h8 hp4 hpl
  generalize (l.drop (at_.toNat + 8)).take 4 = p at *
  have HN := Lib.hid (newReader_any A5 4 c5 p HL.out (by omega) w HC.out)
  have HI := Lib.hid (fun (W : World) (B g : Nat) (A' : Option Addr) (c' : Nat) (h : Rd W B g A' 4 c' p 0) => i32_ok h HP.out (by omega))
  have hw := wrap_i32_range (ube ((p.drop 0).take 4))
  generalize IntKind.i32.wrap (ube ((p.drop 0).take 4)) = v at *
  have HV := Lib.hid hm
  clear hm
  go_enter Tryz.func113, Tryz.ntmps113
  go_wp2_with fail
  refine HN.out.mono ?_
  rintro r w1 ⟨hb1, g, A', c', hg, rfl, hr⟩
  have HB1 := Lib.hid hb1
  have HR := Lib.hid hr
  have HG := Lib.hid hg
  clear HN hb1 hr hg
  go_wp2_with fail
  refine (HI.out _ _ _ _ _ HR.out).mono ?_
  rintro r w2 ⟨ht, hr, rfl⟩
  have HT := Lib.hid (HB1.out.trans (ht.below HB1.out.size (fun i hi => by rw [hi]; exact HG.out)))
  clear ht hr HI
  by_cases k1 : v < 49
  · have HE := Lib.hid (show measure_ l at_ = (0, 5) by rw [HV.out, if_pos k1])
    go_wp2_with fail
    go_ret2
    exact ⟨HT.out, by rw [HE.out]; rfl⟩
  by_cases k2 : 35988 < v
  · have HE := Lib.hid (show measure_ l at_ = (0, 4) by rw [HV.out, if_neg k1, if_pos k2])
    go_wp2_with fail
    go_ret2
    exact ⟨HT.out, by rw [HE.out]; rfl⟩
  by_cases k3 : (n : Int) - at_ - 12 < v
  · have HE := Lib.hid (show measure_ l at_ = (0, 1) by rw [HV.out, if_neg k1, if_neg k2, if_pos k3])
    go_wp2_with fail
    go_ret2
    exact ⟨HT.out, by rw [HE.out]; rfl⟩
  · have HE := Lib.hid (show measure_ l at_ = (12 + v, 0) by rw [HV.out, if_neg k1, if_neg k2, if_neg k3])
    go_wp2_with fail
    go_ret2
    exact ⟨HT.out, by rw [HE.out]; rfl⟩

theorem badBase_any (x : Int) (w : World) : Calls Tryz.prog 120 #[.int .i64 x] w fun r w' => w' = w ∧ r = .returned (.bool (badBase x)) := by
  go_enter Tryz.func120, Tryz.ntmps120
  go_wp2_with fail
  all_goals
    go_ret
    exact ⟨rfl, congrArg (fun z => Ending.returned (.bool z)) (by unfold badBase; rw [Bool.eq_iff_iff]; simp; try omega)⟩
theorem badProd_any (pid ep seq : Int) (w : World) : Calls Tryz.prog 173 #[.int .i64 pid, .int .i16 ep, .int .i32 seq] w fun r w' => w' = w ∧ r = .returned (.bool (badProd pid ep seq)) := by
  go_enter Tryz.func173, Tryz.ntmps173
  go_wp2_with fail
  all_goals
    go_ret
    exact ⟨rfl, congrArg (fun z => Ending.returned (.bool z)) (by unfold badProd; rw [Bool.eq_iff_iff]; simp; try omega)⟩
end Go.Proofs.YtciikcmiiebfpaaGreatDoor
end

/- Rec -/
section
/- rec.reader: a body read place by place, where nothing is amiss. -/
namespace Go.Proofs.YtciikcmiiebfpaaGreatDoor
open Go Go.RowKit Go.Proofs.YtciikcmiiebfpaaGreatDoorW.PrintWords Go.Proofs.YtciikcmiiebfpaaGreatDoor.PTopicsGets Go.Proofs.YtciikcmiiebfpaaGreatDoorW.PrintMore
set_option linter.unusedVariables false
set_option linter.unusedSimpArgs false

/-- A result that is a struct in a cell of its own. -/
theorem results_c {fn : Func} {p : Tmp} {ty : TypeId} (h : fn.results = #[.cell p ty]) (tmps : Array Value) (w : World) (g : Nat) (cs : Array Value)
    (hp : tmps.getD p undef = .pointer (some ⟨g, 0, none⟩)) (hr : (loadVar ty ⟨g, 0, none⟩).run Tryz.prog w = .ok (.agg cs) w) :
    (results fn tmps).run Tryz.prog w = .ok (.agg cs) w := by
  have hp' : tmps[p]?.getD undef = .pointer (some ⟨g, 0, none⟩) := by simpa using hp
  simp [results, h, hp', asAddr, hr]
/-- .. beside another result. -/
theorem results_ct {fn : Func} {p u : Tmp} {ty : TypeId} (h : fn.results = #[.cell p ty, .tmp u]) (tmps : Array Value) (w : World) (g : Nat) (cs : Array Value)
    (hp : tmps.getD p undef = .pointer (some ⟨g, 0, none⟩)) (hr : (loadVar ty ⟨g, 0, none⟩).run Tryz.prog w = .ok (.agg cs) w) :
    (results fn tmps).run Tryz.prog w = .ok (.tuple #[.agg cs, tmps.getD u undef]) w := by
  have hp' : tmps[p]?.getD undef = .pointer (some ⟨g, 0, none⟩) := by simpa using hp
  simp [results, h, hp', asAddr, hr, Result.andThen]

/-- A body's reader at block g over the bytes l, standing at at_; what lies from block B on may be turned without turning l. -/
structure Rr (w : World) (B g : Nat) (A : Option Addr) (n c : Nat) (l : Bs) (at_ : Nat) : Prop where
  box : w.heap[g]? = some (.cells #[.slice A n c, .int .i64 (at_ : Int)] 311 (0, 0))
  C : ∀ W, Tch (fun i => B ≤ i) w W → CB W A n l
  gB : B ≤ g
  len : l.length = n
  cap : n ≤ c
  lim : n < 1073741824
  le : at_ ≤ n
theorem Rr.below {w w1 : World} {B g : Nat} {A : Option Addr} {n c : Nat} {l : Bs} {at_ : Nat} (h : Rr w B g A n c l at_) (hb : Below w.heap.size w w1) : Rr w1 B g A n c l at_ :=
  ⟨blk_below h.box hb, fun W hT => h.C W ((Tch.of_below hb).trans hT), h.gB, h.len, h.cap, h.lim, h.le⟩
/-- Other blocks are written, or new ones. -/
theorem Rr.tch {w w1 : World} {B g : Nat} {S : Nat → Prop} {A : Option Addr} {n c : Nat} {l : Bs} {at_ : Nat} (h : Rr w B g A n c l at_) (ht : Tch S w w1) (hS : ∀ i, S i → B ≤ i ∧ i ≠ g) : Rr w1 B g A n c l at_ :=
  ⟨(ht.block _ (Array.getElem?_eq_some_iff.1 h.box).1 (fun e => (hS _ e).2 rfl)).trans h.box, fun W hT => h.C W ((ht.mono (fun k hk => (hS k hk).1)).trans hT), h.gB, h.len, h.cap, h.lim, h.le⟩
theorem Rr.set {w : World} {B g : Nat} {A : Option Addr} {n c : Nat} {l : Bs} {at_ : Nat} (h : Rr w B g A n c l at_) (q : Nat) (hq : q ≤ n) :
    Tch (fun i => i = g) w (w.setCell ⟨g, 1, none⟩ (.int .i64 (q : Int))) ∧ Rr (w.setCell ⟨g, 1, none⟩ (.int .i64 (q : Int))) B g A n c l q := by
  have hT : Tch (fun i => i = g) w (w.setCell ⟨g, 1, none⟩ (.int .i64 (q : Int))) := Tch.set _ ⟨g, 1, none⟩ _ rfl
  exact ⟨hT, blk_put h.box 1 _ rfl, fun W h2 => h.C W ((hT.mono (fun k hk => by rw [hk]; exact h.gB)).trans h2), h.gB, h.len, h.cap, h.lim, hq⟩

theorem rnumber_ok {w : World} {B g : Nat} {A : Option Addr} {n c : Nat} {l : Bs} {at_ : Nat} (h : Rr w B g A n c l at_) (hb : Byt l) (v : Int) (q : Nat) (hv : vget32 l at_ = (v, (q : Int), 0)) (hq : q ≤ n) :
    Calls Tryz.prog 224 #[rptr g] w fun r w' => Tch (fun i => i = g) w w' ∧ Rr w' B g A n c l q ∧ r = .returned (.int .i64 v) := by
  have HG : Hid (∀ W : World, Below w.heap.size w W → Calls Tryz.prog 176 #[.slice A n c, .int .i64 (at_ : Int)] W fun r w' => r = .returned (.tuple #[.int .i32 v, .int .i64 (q : Int), .int .i64 0]) ∧ w' = W) := fun W hW => by
    have := get32_any A n c l hb at_ h.cap h.len (by have := h.lim; omega) W ((h.below hW).C W (Tch.refl _ _))
    rw [hv] at this
    exact this.mono fun r w' h => ⟨h.2, h.1⟩
  have p0 : w.cell? ⟨g, 0, none⟩ = some (.slice A n c) := blk_cell h.box 0
  have p1 : w.cell? ⟨g, 1, none⟩ = some (.int .i64 (at_ : Int)) := blk_cell h.box 1
  have z1 : w.frozen? ⟨g, 1, none⟩ = false := blk_frozen h.box 1
  have HR := Lib.hid h
  have hrg := vread_range (b := l) (at_ := at_) (most := 5) (top := 15) hb (by decide) (by decide)
  have hv2 : zag (vread l at_ 5 15).1 = v := by have := congrArg (·.1) hv; exact this
  have hzr := zag_range (m := 2147483648) hrg.1 (by have := hrg.2; omega)
  have HW := Lib.hid (show wrap64 v = v by rw [← hv2]; simp [wrap64, IntKind.wrap, IntKind.bits, IntKind.signed]; omega)
  clear h hv hv2 hzr hrg
  unfold rptr
  go_enter Tryz.func224, Tryz.ntmps224
  go_wp2_with fail
  go_quiet ((go_at_call 176; exact Calls.quiet_of_same (HG.out _ (pw_below_drewN (Below.refl _ _) _))))
  go_wp2_with fail
  have hd : Below w.heap.size w (w.drewN nq) := pw_below_drewN (Below.refl _ _) _
  have HS := (HR.out.below hd).set q hq
  go_ret
  exact ⟨(Tch.of_below hd).trans HS.1, HS.2, by rw [HW.out]; rfl⟩

/-- A new row of bytes. -/
abbrev NewR (w w' : World) (v : Value) (xs : Bs) : Prop := (Kd.int .u8).R 5 w' 0 (fun i => w.heap.size ≤ i) v xs
set_option maxHeartbeats 4000000 in
set_option maxRecDepth 100000 in
theorem rtake_ok {w : World} {B g : Nat} {A : Option Addr} {n c : Nat} {l : Bs} {at_ : Nat} (h : Rr w B g A n c l at_) (k : Nat) (hk : at_ + k ≤ n) :
    Calls Tryz.prog 223 #[rptr g, .int .i64 (k : Int)] w fun r w' => Tch (fun i => i = g) w w' ∧ Rr w' B g A n c l (at_ + k) ∧ ∃ A' c', k ≤ c' ∧ r = .returned (.slice A' k c') ∧ NewR w w' (.slice A' k c') ((l.drop at_).take k) := by
  obtain ⟨A5, c5, hc5, hcut, hM⟩ := piece_cut (A := A) h.len h.cap (by have := h.lim; omega) (at_ : Int) ((at_ : Int) + k) k (by omega) (by omega) (by omega)
  rw [Int.toNat_natCast] at hM
  have hml : ((l.drop at_).take k).length = k := by rw [List.length_take, List.length_drop, h.len]; omega
  have HM := Lib.hid hM
  have HML := Lib.hid hml
  have hw : IntKind.i64.wrap (at_ : Int) = (at_ : Int) := by have := h.lim; simp [IntKind.wrap, IntKind.bits, IntKind.signed]; omega
  have p0 : w.cell? ⟨g, 0, none⟩ = some (.slice A n c) := blk_cell h.box 0
  have p1 : w.cell? ⟨g, 1, none⟩ = some (.int .i64 (at_ : Int)) := blk_cell h.box 1
  have z1 : w.frozen? ⟨g, 1, none⟩ = false := blk_frozen h.box 1
  have hlim := h.lim
  have HR := Lib.hid h
  clear h hM hml
  generalize (l.drop at_).take k = m at *
  unfold rptr
  go_enter Tryz.func223, Tryz.ntmps223
  go_wp2_with fail
  go_region
  go_wp2_with fail
  have HS0 := HR.out.set (at_ + k) hk
  have HS := Lib.hid (And.intro HS0.1.drew (HS0.2.below (below_drew (Below.refl _ _))))
  rw [show (((at_ + k : Nat)) : Int) = (at_ : Int) + (k : Int) from rfl] at HS
  clear HS0
  generalize (w.setCell ⟨g, 1, none⟩ (.int .i64 ((at_ : Int) + (k : Int)))).drew = W1 at HS ⊢
  clear p0 p1 z1
  have p0 : W1.cell? ⟨g, 0, none⟩ = some (.slice A n c) := blk_cell HS.out.2.box 0
  have p1 : W1.cell? ⟨g, 1, none⟩ = some (.int .i64 ((at_ : Int) + (k : Int))) := blk_cell HS.out.2.box 1
  have HCL : Hid (∀ W, Below W1.heap.size W1 W → Calls Tryz.prog 114 #[.slice A5 k c5] W fun r w' => ∃ A' c', r = .returned (.slice A' k c') ∧ k ≤ c' ∧ NewR W w' (.slice A' k c') m ∧ Below W.heap.size W w') := fun W hW => by
    refine (clone_bytes A5 k c5 m W (HM.out _ ((HS.out.2.below hW).C _ (Tch.refl _ _))) (by omega)).mono ?_
    rintro r w' ⟨v, rfl, hr, hb⟩
    obtain ⟨A', c', rfl, hc', _⟩ := Kd.R_reads hr
    rw [HML.out] at *
    exact ⟨A', c', rfl, hc', hr, hb⟩
  go_region_with (go_at_call 114; refine (HCL.out _ (below_drew (Below.refl _ _))).mono ?_; rintro r w2 ⟨A', c', rfl, hc', hr, hb⟩; have HB := Lib.hid hb; have HV := Lib.hid hr; clear hb hr)
  all_goals
    go_wp2_with fail
    go_ret
    have hbl : Below W1.heap.size W1 w2 := (below_drew (Below.refl _ _)).trans HB.out
    exact ⟨HS.out.1.trans (Tch.of_below hbl), HS.out.2.below hbl, A', c', hc', rfl, Kd.R_mono HV.out (fun i hi => Nat.le_trans HS.out.1.size hi)⟩
theorem rcount_ok {w : World} {B g : Nat} {A : Option Addr} {n c : Nat} {l : Bs} {at_ : Nat} (h : Rr w B g A n c l at_) (hb : Byt l) (v least : Int) (q : Nat) (hv : vget32 l at_ = (v, (q : Int), 0)) (hq : q ≤ n) (hl : least ≤ v) (h0 : -1 ≤ least ∧ least ≤ 0) :
    Calls Tryz.prog 226 #[rptr g, .int .i64 least] w fun r w' => Tch (fun i => i = g) w w' ∧ Rr w' B g A n c l q ∧ r = .returned (.int .i64 v) := by
  have HN := rnumber_ok h hb v q hv hq
  clear h hv
  unfold rptr at HN ⊢
  go_enter Tryz.func226, Tryz.ntmps226
  go_wp2_with fail
  refine HN.mono ?_
  rintro r w1 ⟨ht, hr, rfl⟩
  have HT := Lib.hid ht
  have HR := Lib.hid hr
  clear HN ht hr
  go_wp2_with fail
  go_ret
  exact ⟨HT.out, HR.out, rfl⟩
set_option maxRecDepth 100000 in
theorem rblob_ok {w : World} {B g : Nat} {A : Option Addr} {n c : Nat} {l : Bs} {at_ : Nat} (h : Rr w B g A n c l at_) (hb : Byt l) (k q : Nat) (hv : vget32 l at_ = ((k : Int), (q : Int), 0)) (hq : q + k ≤ n) :
    Calls Tryz.prog 225 #[rptr g] w fun r w' => Tch (fun i => i = g) w w' ∧ Rr w' B g A n c l (q + k) ∧ ∃ A' c', k ≤ c' ∧ r = .returned (.agg #[.bool false, .slice A' k c']) ∧ NewR w w' (.slice A' k c') ((l.drop q).take k) := by
  have hA : Below w.heap.size w (w.alloc (.cells #[.bool false, .slice none 0 0] 115)) := (Below.refl _ _).alloc (Nat.le_refl _) _
  have HA := Lib.hid hA
  have HN := rcount_ok (h.below hA) hb k (-1) q hv (by omega) (by omega) (by omega)
  have HX := Lib.hid (heap_alloc_new w (.cells #[.bool false, .slice none 0 0] 115))
  have HG : Hid (g < w.heap.size) := (Array.getElem?_eq_some_iff.1 h.box).1
  have HAS : Hid ((w.alloc (.cells #[.bool false, .slice none 0 0] 115)).heap.size = w.heap.size + 1) := World.size_alloc _ _
  clear h hv hA
  unfold rptr at HN ⊢
  go_enter Tryz.func225, Tryz.ntmps225
  go_wp2_with fail
  refine HN.mono ?_
  rintro r w1 ⟨ht, hr, rfl⟩
  have HT := Lib.hid ht
  have HK := Lib.hid (rtake_ok hr k hq)
  clear HN ht hr
  unfold rptr at HK
  go_wp2_with fail
  refine HK.out.mono ?_
  rintro r w2 ⟨ht, hr, A', c', hc', rfl, hn⟩
  have HT2 := Lib.hid ht
  have HR := Lib.hid hr
  have HN := Lib.hid hn
  have hbx : w2.heap[w.heap.size]? = some (.cells #[.bool false, .slice none 0 0] 115 (0, 0)) := by
    have h1 := HAS.out
    have h2 := HT.out.size
    rw [HT2.out.block _ (by omega) (by have := HG.out; omega), HT.out.block _ (by omega) (by have := HG.out; omega)]
    exact HX.out
  have HBX := Lib.hid hbx
  have q0 := blk_cell hbx 0
  have q1 := blk_cell hbx 1
  have z0 := blk_frozen hbx 0
  have z1 := blk_frozen hbx 1
  clear HK ht hr hn
  go_wp2_with fail
  have hB1 := blk_put hbx 0 (.bool false) rfl
  have hB2 := blk_put hB1 1 (.slice A' k c') rfl
  refine bodyPost_ret (results_c rfl _ _ w.heap.size _ rfl (run_loadVar_row _ w.heap.size 115 115 _ _ _ hB2 Tryz.underlying115 rfl (by kernel_rfl))) rfl ?_
  have hsz := HAS.out
  have hg := HG.out
  have t0 : Tch (fun i => i = g) w w2 := ((Tch.of_below HA.out).trans HT.out).trans HT2.out
  have t1 := t0.then_ (Tch.set (S := fun i => i = w.heap.size) w2 ⟨w.heap.size, 0, none⟩ (.bool false) rfl) (fun i hi => .inr (Nat.le_of_eq hi.symm))
  have t2 := t1.then_ (Tch.set (S := fun i => i = w.heap.size) _ ⟨w.heap.size, 1, none⟩ (.slice A' k c') rfl) (fun i hi => .inr (Nat.le_of_eq hi.symm))
  have u1 : Tch (fun i => i = w.heap.size) w2 ((w2.setCell ⟨w.heap.size, 0, none⟩ (.bool false)).setCell ⟨w.heap.size, 1, none⟩ (.slice A' k c')) := (Tch.set (S := fun i => i = w.heap.size) _ ⟨w.heap.size, 0, none⟩ _ rfl).trans (Tch.set (S := fun i => i = w.heap.size) _ ⟨w.heap.size, 1, none⟩ _ rfl)
  have hs1 := HT.out.size
  have hgb := HR.out.gB
  refine ⟨t2, HR.out.tch u1 (fun i hi => by omega), A', c', hc', rfl, ?_⟩
  refine Kd.R_mono (Kd.R_step HN.out (fun b hb hl => u1.block b hl (fun e => ?_))) (fun i hi => by omega)
  omega
end Go.Proofs.YtciikcmiiebfpaaGreatDoor
end

/- Puts -/
section
/- A whole struct stored, cell by cell; results that are structs. -/
namespace Go.Proofs.YtciikcmiiebfpaaGreatDoor
open Go Go.RowKit Go.Proofs.YtciikcmiiebfpaaGreatDoorW.PrintWords Go.Proofs.YtciikcmiiebfpaaGreatDoor.PTopicsGets Go.Proofs.YtciikcmiiebfpaaGreatDoorW.PrintMore
set_option linter.unusedVariables false
set_option linter.unusedSimpArgs false

/-- The cells from i on are stored one by one. -/
def puts (w : World) (b : Nat) : Nat → List Value → World
  | _, [] => w
  | i, v :: vs => puts (w.setCell ⟨b, i, none⟩ v) b (i + 1) vs
theorem puts_tch (b : Nat) : ∀ (vs : List Value) (i : Nat) (w : World), Tch (fun k => k = b) w (puts w b i vs)
  | [], _, w => Tch.refl _ _
  | v :: vs, i, w => (Tch.set (S := fun k => k = b) w ⟨b, i, none⟩ v rfl).trans (puts_tch b vs (i + 1) _)
theorem puts_heap {b : Nat} {T : TypeId} : ∀ (vs : List Value) (pre post : List Value) (w : World), w.heap[b]? = some (.cells (pre ++ post).toArray T (0, 0)) → vs.length = post.length →
    (puts w b pre.length vs).heap[b]? = some (.cells (pre ++ vs).toArray T (0, 0))
  | [], pre, post, w, h, hl => by
    cases post with
    | nil => exact h
    | cons => cases hl
  | v :: vs, pre, [], w, h, hl => by cases hl
  | v :: vs, pre, p :: post, w, h, hl => by
    have e : (pre ++ p :: post).toArray.setIfInBounds pre.length v = ((pre ++ [v]) ++ post).toArray := by
      apply Array.ext'
      simp [List.set_append]
    have h1 := blk_put h pre.length v e
    have := puts_heap vs (pre ++ [v]) post _ h1 (by simpa using hl)
    rw [List.length_append, List.length_singleton, List.append_assoc] at this
    exact this
/-- All of a struct's cells. -/
theorem puts_all {b : Nat} {T : TypeId} {w : World} {zs : List Value} (h : w.heap[b]? = some (.cells zs.toArray T (0, 0))) (vs : List Value) (hl : vs.length = zs.length) :
    (puts w b 0 vs).heap[b]? = some (.cells vs.toArray T (0, 0)) := puts_heap vs [] zs w h hl
end Go.Proofs.YtciikcmiiebfpaaGreatDoor
end
