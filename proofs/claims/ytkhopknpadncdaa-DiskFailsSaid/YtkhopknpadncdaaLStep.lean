/- leatlaw18.step: one of the five steps. -/
import Derived.Test.YtkhopknpadncdaaLoad
import Derived.Test.YtkhopknpadncdaaPDiskFailsx7
namespace Go.Proofs.Ytkhopknpadncdaa
open Go Go.RowKit Go.Maps Go.Proofs.YtkhopknpadncdaaW.PrintWords Go.Proofs.Ytkhopknpadncdaa.PDiskFails Go.Proofs.YtkhopknpadncdaaW.PrintMore
set_option linter.unusedVariables false

theorem rdF_at {l : List Int} {i : Nat} {x : Int} (h : l[i]? = some x) : rd l (i : Int) = x := by
  unfold rd
  rw [Int.toNat_natCast, List.getD_eq_getElem?_getD, h, Option.getD_some]
theorem w64F {i : Nat} (h : i ≤ 140737488355328) : wrap64 ((i : Int) + 1) = ((i + 1 : Nat) : Int) := by
  unfold wrap64
  omega
theorem copyF_l : ∀ (k : Nat) (l : List Int) (i : Nat), l.length ≤ 140737488355328 → l.length < k + i → i ≤ l.length → leatref01_Copy.l0 k l (l.take i) i = some l
  | 0, l, i, hb, hk, hi => by omega
  | k + 1, l, i, hb, hk, hi => by
    unfold leatref01_Copy.l0
    by_cases h : i < l.length
    · rw [if_pos (by omega), if_pos (by omega), if_pos (by rw [List.length_take]; omega), rdF_at (List.getElem?_eq_getElem h), w64F (by omega)]
      rw [show l.take i ++ [l[i]] = l.take (i + 1) from (List.take_append_getElem h)]
      exact copyF_l k l (i + 1) hb (by omega) h
    · rw [if_neg (by omega), List.take_of_length_le (by omega)]
theorem copyF_f {k : Nat} {l : List Int} (hb : l.length ≤ 140737488355328) (hk : l.length < k) : leatref01_Copy.f k l = some l :=
  copyF_l k l 0 hb (by omega) (by omega)
theorem copyF_any (A : Option Addr) (n c : Nat) (l : List Int) (w : World) (hC : (Kd.int .u8).C w A n l) (hc : n ≤ c) (hl : l.length ≤ big) :
    Calls Try.prog 29 #[.slice A n c] w fun e w' => ∃ A' q, e = .returned (.slice A' n q) ∧ (Kd.int .u8).R 5 w' w.heap.size (fun _ => True) (.slice A' n q) l ∧ Below w.heap.size w w' := by
  have hn : n = l.length := (Kd.C_len hC).symm
  subst hn
  refine (leatref01_Copy.calls (l.length + 1) A c l l w hC hc (copyF_f (by unfold big at hl; omega) (Nat.lt_succ_self _))).mono ?_
  rintro e w' ⟨v, rfl, hr, hb⟩
  obtain ⟨A', q, rfl⟩ := Kd.R_slice hr
  exact ⟨A', q, rfl, hr, hb⟩

section
variable {w W W0 W' : World} {d N : Nat} {k : Dk} {v : Value} {l : List Int}
/-- A row of the callee's, as an argument. -/
theorem row_CF {A : Option Addr} {n c : Nat} {b : List Int} {B : Nat} (hr : (Kd.int .u8).R 5 W B (fun _ => True) (.slice A n c) b) : ∀ W', (∀ b, B ≤ b → b < W.heap.size → W'.heap[b]? = W.heap[b]?) → (Kd.int .u8).C W' A n b := fun W' hW => by
  have h := Kd.R_reads' (Kd.R_step (Kd.R_bound hr) (fun k hk hl => hW k hk.2.1 hl))
  rw [h.1]
  exact h.2.2
theorem al_appendF (h : Al w W0 d k N) (hN : N < 1000000000000) (s : ByteArray) (hs : s.size ≤ maxLen) (hb : Below W0.heap.size W0 W) {A : Option Addr} {n c : Nat} {b : List Int} (hr : (Kd.int .u8).R 5 W W0.heap.size (fun _ => True) (.slice A n c) b) (hl : Byt b) (hn : b.length ≤ big) :
    Calls Try.prog 10 #[.pointer (some ⟨d, 0, none⟩), .string s, .slice A n c] W (APost w d (N + 1) (stepD (appendD b s.data.toList) (partD b s.data.toList) k)) :=
  al_append h hN s hs hb A n c b (row_CF hr) hl (by rw [(Kd.R_reads' hr).1]; exact hn) (Kd.R_reads' hr).2.1
end
/-- One of the five steps, without memory. -/
def stepO (kind : Int) (nm : Nm) (n : Int) (b : List Int) (k : Dk) : Dk × Int :=
  if kind = 1 then stepD (createD nm) (fun k _ => k) k
  else if kind = 2 then stepD (appendD b nm) (partD b nm) k
  else if kind = 3 then stepD (cutD n nm) (fun k _ => k) k
  else if kind = 4 then stepD (syncD nm) (fun k _ => k) k
  else stepD (removeD nm) (fun k _ => k) k
def opV (kind n m : Int) (nm : ByteArray) (A : Option Addr) (p c : Nat) (A5 A6 : Option Addr) (n5 c5 n6 c6 : Nat) : Array Value := #[.int .i64 kind, .string nm, .int .i64 n, .int .i64 m, .slice A p c, .slice A5 n5 c5, .slice A6 n6 c6]
theorem sp_below {S : Nat → Prop} {d N : Nat} {W W1 W' : World} {x : Dk × Int} {e : Ending} (hb : Below W.heap.size W W1) (h : SPost S d N W1 x e W') : SPost S d N W x e W' := by
  obtain ⟨S', he, hD, hT, hn⟩ := h
  exact ⟨S', he, hD, (Tch.of_below hb).trans hT, fun b h => (hn b h).imp_right (fun h => Nat.le_trans hb.size h)⟩
theorem ds_append {W W0 : World} {d N : Nat} {S : Nat → Prop} {k : Dk} (h : Disk W0 d S k N) (hN : N < 1000000000000) (s : ByteArray) (hs : s.size ≤ maxLen) (hb : Below W0.heap.size W0 W) {A : Option Addr} {n c : Nat} {b : List Int} (hr : (Kd.int .u8).R 5 W W0.heap.size (fun _ => True) (.slice A n c) b) (hl : Byt b) (hn : b.length ≤ big) :
    Calls Try.prog 10 #[.pointer (some ⟨d, 0, none⟩), .string s, .slice A n c] W (SPost S d (N + 1) W (stepD (appendD b s.data.toList) (partD b s.data.toList) k)) :=
  append_any W d N S k s A n c b (h.below hb) hN hs (fun W' hT => row_CF hr W' (fun i h4 h5 => hT.block i h5 (fun h6 => by have := h.lt h6; omega))) hl (by rw [(Kd.R_reads' hr).1]; exact hn) (Kd.R_reads' hr).2.1
set_option maxRecDepth 100000 in
set_option maxHeartbeats 4000000 in
theorem lstep_any (w W : World) (d N : Nat) (S : Nat → Prop) (k : Dk) (kind n m : Int) (nm : ByteArray) (A A5 A6 : Option Addr) (p c n5 c5 n6 c6 : Nat) (b : List Int) (h : Disk W d S k N) (hw : Below w.heap.size w W) (hN : N < 1000000000000) (hs : nm.size ≤ maxLen) (hC : (Kd.int .u8).C w A p b) (hpc : p ≤ c) (hb : Byt b) (hp : p ≤ big) :
    Calls Try.prog 38 #[.pointer (some ⟨d, 0, none⟩), .agg (opV kind n m nm A p c A5 A6 n5 c5 n6 c6)] W (SPost S d (N + 1) W (stepO kind nm.data.toList n b k)) := by
  have H0 : Hid (Disk (W.alloc (.cells (opV kind n m nm A p c A5 A6 n5 c5 n6 c6) 71)) d S k N) := h.below ((Below.refl _ _).alloc (Nat.le_refl _) _)
  have HBW : Hid (Below W.heap.size W (W.alloc (.cells (opV kind n m nm A p c A5 A6 n5 c5 n6 c6) 71))) := (Below.refl _ _).alloc (Nat.le_refl _) _
  have HW := Lib.hid hw
  have HS := Lib.hid hs
  have HC := Lib.hid hC
  have HB := Lib.hid hb
  have HPL : Hid (p = b.length) := (Kd.C_len hC).symm
  have HBL : Hid (b.length ≤ big) := by show _ ≤ _; rw [← HPL.out]; exact hp
  have HBX := Lib.hid (heap_alloc_new W (.cells (opV kind n m nm A p c A5 A6 n5 c5 n6 c6) 71))
  unfold opV at H0 HBX HBW ⊢
  clear h hs hC hb hw
  by_cases k1 : kind = 1
  · subst k1
    have HR : Hid (stepO 1 nm.data.toList n b k = stepD (createD nm.data.toList) (fun k _ => k) k) := rfl
    go_enter Try.func38, Try.ntmps38
    go_wp2_with (go_at_call 28; refine (create_any _ d N S k nm H0.out hN HS.out).mono ?_; rintro e w3 h; have H3 := Lib.hid (sp_below HBW.out h); obtain ⟨_, rfl, _⟩ := h)
    go_ret
    rw [HR.out]
    exact H3.out
  by_cases k3 : kind = 3
  · subst k3
    have HR : Hid (stepO 3 nm.data.toList n b k = stepD (cutD n nm.data.toList) (fun k _ => k) k) := rfl
    clear k1
    go_enter Try.func38, Try.ntmps38
    go_wp2_with (go_at_call 32; refine (cut_any _ d N S k nm n H0.out hN HS.out).mono ?_; rintro e w3 h; have H3 := Lib.hid (sp_below HBW.out h); obtain ⟨_, rfl, _⟩ := h)
    go_ret
    rw [HR.out]
    exact H3.out
  by_cases k4 : kind = 4
  · subst k4
    have HR : Hid (stepO 4 nm.data.toList n b k = stepD (syncD nm.data.toList) (fun k _ => k) k) := rfl
    clear k1 k3
    go_enter Try.func38, Try.ntmps38
    go_wp2_with (go_at_call 30; refine (sync_any _ d N S k nm H0.out hN HS.out).mono ?_; rintro e w3 h; have H3 := Lib.hid (sp_below HBW.out h); obtain ⟨_, rfl, _⟩ := h)
    go_ret
    rw [HR.out]
    exact H3.out
  by_cases k2 : kind = 2
  · subst k2
    have HR : Hid (stepO 2 nm.data.toList n b k = stepD (appendD b nm.data.toList) (partD b nm.data.toList) k) := rfl
    clear k1 k3 k4
    go_enter Try.func38, Try.ntmps38
    go_upto_region 5 with fail
    generalize W.alloc (.cells #[.int .i64 2, .string nm, .int .i64 n, .int .i64 m, .slice A p c, .slice A5 n5 c5, .slice A6 n6 c6] 71) = W1 at H0 HBX HBW ⊢
    have HW1 : Hid (Below w.heap.size w W1) := HW.out.trans (HBW.out.mono HW.out.size)
    have x1 := (blk_cell HBX.out 1).trans rfl
    have x4 := (blk_cell HBX.out 4).trans rfl
    have xl := blk_lt HBX.out
    go_region_law (first
      | (go_simp; go_at_call 29; refine (copyF_any A p c b _ (Kd.C_below HC.out (HW1.out.trans ((below_drew (Below.refl _ _)).mono HW1.out.size))) hpc HBL.out).mono ?_; rintro e w3 ⟨A3, q3, rfl, hr, hb⟩; have HB3 : Hid (Below W1.heap.size W1 w3) := (below_drew (Below.refl _ _)).trans hb; have HR3 : Hid ((Kd.int .u8).R 5 w3 W1.heap.size (fun _ => True) (.slice A3 p q3) b) := hr; have y1 := (HB3.out.cell (p := ⟨W.heap.size, 1, none⟩) xl).trans x1; have y4 := (HB3.out.cell (p := ⟨W.heap.size, 4, none⟩) xl).trans x4; have yl := Nat.lt_of_lt_of_le xl HB3.out.size; clear hr hb)
      | (go_simp; go_at_call 10; refine (ds_append H0.out hN nm HS.out HB3.out HR3.out HB.out HBL.out).mono ?_; rintro e w4 h; have H4 := Lib.hid (sp_below (HBW.out.trans (HB3.out.mono HBW.out.size)) h); obtain ⟨_, rfl, _⟩ := h))
    all_goals
      go_wp2_with fail
      go_ret
      rw [HR.out]
      exact H4.out
  · have HR : Hid (stepO kind nm.data.toList n b k = stepD (removeD nm.data.toList) (fun k _ => k) k) := by
      show _ = _
      unfold stepO
      rw [if_neg k1, if_neg k2, if_neg k3, if_neg k4]
    have q1 : ((kind : Int) == 1) = false := by rw [beq_eq_false_iff_ne]; exact k1
    have q2 : ((kind : Int) == 2) = false := by rw [beq_eq_false_iff_ne]; exact k2
    have q3 : ((kind : Int) == 3) = false := by rw [beq_eq_false_iff_ne]; exact k3
    have q4 : ((kind : Int) == 4) = false := by rw [beq_eq_false_iff_ne]; exact k4
    go_enter Try.func38, Try.ntmps38
    go_wp2_with (go_at_call 66; refine (remove_any _ d N S k nm H0.out hN HS.out).mono ?_; rintro e w3 h; have H3 := Lib.hid (sp_below HBW.out h); obtain ⟨_, rfl, _⟩ := h)
    go_ret
    rw [HR.out]
    exact H3.out
end Go.Proofs.Ytkhopknpadncdaa
