/- DiskFails: contracts for its walk: a disk beside a row of files; Twin, Alike, others, the reference's Load. -/
import Derived.Test.YtkhopknpadncdaaFailsR
namespace Go.Proofs.Ytkhopknpadncdaa
open Go Go.RowKit Go.Maps Go.Proofs.YtkhopknpadncdaaW.PrintWords Go.Proofs.Ytkhopknpadncdaa.PDiskFails Go.Proofs.YtkhopknpadncdaaW.PrintMore
set_option linter.unusedVariables false

def Fx (w W : World) (d : Nat) (k : Dk) (N : Nat) (v : Value) (l : List SF) : Prop := ∃ S, Disk W d S k N ∧ (∀ b, S b → w.heap.size ≤ b) ∧ Below w.heap.size w W ∧ RF W 0 (fun b => ¬ S b) v l
theorem row_keepS {W W' : World} {S S' : Nat → Prop} {v : Value} {l : List SF} (hR : RF W 0 (fun b => ¬ S b) v l) (hT : Tch S W W') (hn : ∀ b, S' b → S b ∨ W.heap.size ≤ b) : RF W' 0 (fun b => ¬ S' b) v l :=
  Kd.S_mono (Kd.S_step (Kd.S_bound hR) (fun k hk hl => hT.block k hl hk.1)) (fun k hk hs => (hn k hs).elim hk.1 (fun h => by have := hk.2.2.1; omega))
section
variable {w W W0 W' : World} {d N : Nat} {k : Dk} {v : Value} {l : List SF}
theorem Fx.bl (h : Fx w W d k N v l) : Below w.heap.size w W := by obtain ⟨S, _, _, h, _⟩ := h; exact h
theorem Fx.al (h : Fx w W d k N v l) : Al w W d k N := by obtain ⟨S, h1, h2, h3, _⟩ := h; exact ⟨S, h1, h2, h3⟩
theorem Fx.row (h : Fx w W d k N v l) : RF W 0 (fun _ => True) v l := by obtain ⟨S, _, _, _, h⟩ := h; exact Kd.S_mono h (fun _ _ => trivial)
theorem Fx.below (h : Fx w W d k N v l) (hb : Below W.heap.size W W') : Fx w W' d k N v l := by
  obtain ⟨S, h1, h2, h3, h4⟩ := h
  exact ⟨S, h1.below hb, h2, h3.trans (hb.mono h3.size), Kd.S_below h4 hb⟩
theorem Al.rowF (h : Al w W d k N) (hb : Below W.heap.size W W') (hr : RF W' 0 (fun b => W.heap.size ≤ b) v l) : Fx w W' d k N v l := by
  obtain ⟨S, h1, h2, h3⟩ := h
  refine ⟨S, h1.below hb, h2, h3.trans (hb.mono h3.size), Kd.S_mono hr (fun b hb hs => ?_)⟩
  have := h1.lt hs
  omega
theorem Al.lower {w0 : World} (h : Al W0 W d k N) (hb : Below w0.heap.size w0 W0) : Al w0 W d k N := by
  obtain ⟨S, h1, h2, h3⟩ := h
  exact ⟨S, h1, fun b hs => Nat.le_trans hb.size (h2 b hs), hb.trans (h3.mono hb.size)⟩
theorem fx_s {S : Nat → Prop} {x : Dk × Int} {e : Ending} (hS : ∀ b, S b → w.heap.size ≤ b) (hb : Below w.heap.size w W) (hr : RF W 0 (fun b => ¬ S b) v l) (h : SPost S d N W x e W') : e = .returned (.int .i64 x.2) ∧ Fx w W' d x.1 N v l := by
  obtain ⟨S', he, hD, hT, hn⟩ := h
  exact ⟨he, S', hD, fun b h => (hn b h).elim (hS b) (fun h => Nat.le_trans hb.size h), hb.trans (hT.below hb.size hS), row_keepS hr hT hn⟩
theorem fx_q {S : Nat → Prop} {e : Ending} (hS : ∀ b, S b → w.heap.size ≤ b) (hb : Below w.heap.size w W) (hr : RF W 0 (fun b => ¬ S b) v l) (h : QPost S d N W k e W') : e = .returned (.tuple #[]) ∧ Fx w W' d k N v l := by
  obtain ⟨S', he, hD, hT, hn⟩ := h
  exact ⟨he, S', hD, fun b h => (hn b h).elim (hS b) (fun h => Nat.le_trans hb.size h), hb.trans (hT.below hb.size hS), row_keepS hr hT hn⟩
theorem fx_lstep (h : Fx w W d k N v l) (kind n m : Int) (nm : ByteArray) (A A5 A6 : Option Addr) (p c n5 c5 n6 c6 : Nat) (b : List Int) (hN : N < 1000000000000) (hs : nm.size ≤ maxLen) (hC : (Kd.int .u8).C w A p b) (hpc : p ≤ c) (hb : Byt b) (hp : p ≤ big) :
    Calls Try.prog 38 #[.pointer (some ⟨d, 0, none⟩), .agg (opV kind n m nm A p c A5 A6 n5 c5 n6 c6)] W fun e W' => e = .returned (.int .i64 (stepO kind nm.data.toList n b k).2) ∧ Fx w W' d (stepO kind nm.data.toList n b k).1 (N + 1) v l := by
  obtain ⟨S, h1, h2, h3, h4⟩ := h
  exact (lstep_any w W d N S k kind n m nm A A5 A6 p c n5 c5 n6 c6 b h1 h3 hN hs hC hpc hb hp).mono fun e W' h => fx_s h2 h3 h4 h
theorem fx_plan (h : Fx w W0 d k N v l) (hb : Below W0.heap.size W0 W) (A : Option Addr) (n c : Nat) (p : List Fat) (hC : kFat.C W A n p) (hl : n * 24 ≤ 140737488355328) : Calls Try.prog 9 #[.pointer (some ⟨d, 0, none⟩), .slice A n c] W fun e W' => e = .returned (.tuple #[]) ∧ Fx w W' d (planD k p) N v l := by
  obtain ⟨S, h1, h2, h3, h4⟩ := h
  exact (plan_any W d N S k A n c p (h1.below hb) hC hl).mono fun e W' h => fx_q h2 (h3.trans (hb.mono h3.size)) (Kd.S_below h4 hb) h
theorem fx_on (h : Fx w W0 d k N v l) (hN : N ≤ 1000000000000) (hb : Below W0.heap.size W0 W) (A : Option Addr) (n c : Nat) (keeps : List Int) (hK : Keeps W (fun b => b < W0.heap.size) A n keeps) :
    Calls Try.prog 34 #[.pointer (some ⟨d, 0, none⟩), .slice A n c] W fun e W' => e = .returned (.tuple #[]) ∧ Fx w W' d (onD keeps k) N v l := by
  obtain ⟨S, h1, h2, h3, h4⟩ := h
  refine (on_any W d N S k A n c keeps (h1.below hb) hN ⟨hK.1, hK.2.1, fun h => ?_⟩).mono fun e W' h => fx_q h2 (h3.trans (hb.mono h3.size)) (Kd.S_below h4 hb) h
  obtain ⟨b, o, e, hl, hn, hc⟩ := hK.2.2 h
  exact ⟨b, o, e, hl, fun hs => hn (h1.lt hs), hc⟩
end
theorem keep_litF {W0 : World} {ty : TypeId} (u : Int) (hu : u ≤ 9223372036854775807) : Keeps (W0.alloc (.cells #[.int .i64 u] ty)) (fun b => b < W0.heap.size) (some ⟨W0.heap.size, 0, none⟩) 1 [u] := by
  refine ⟨rfl, fun v hv => by rw [List.mem_singleton.1 hv]; exact hu, fun _ => ⟨_, 0, rfl, by simp, Nat.lt_irrefl _, fun i hi => ?_⟩⟩
  obtain rfl : i = 0 := by omega
  exact (blk_cell (heap_alloc_new W0 (.cells #[.int .i64 u] ty)) 0).trans rfl
/-- A row of files that is read, element by element. -/
theorem frow_of {w : World} {ok : Nat → Prop} {base : Nat} {A : Option Addr} {n c : Nat} {fs : List SF} (h : RF w base ok (.slice A n c) fs) : FRow w A n fs := by
  obtain ⟨hn, hc, hC⟩ := Kd.S_reads' h
  refine ⟨hn, fun i f hf => ?_⟩
  have hi := (List.getElem?_eq_some_iff.1 hf).1
  obtain ⟨g, cap, e, _, hg, _⟩ := Kd.S_form h (by omega)
  injection e with e1 e2 e3
  subst e1
  obtain ⟨ad, cs, ea, hl, hK, hcell⟩ := Kd.C_get hC z45 (i : Int) (by omega) (by omega)
  injection ea with ea
  subst ea
  rw [Int.toNat_natCast] at hK hcell
  rw [List.getD_eq_getElem?_getD, hf, Option.getD_some] at hK
  obtain ⟨A1, c1, rfl, hle, hCC⟩ := k45_open hK
  have h0 := hcell 0 _ rfl
  have h1 := hcell 1 _ rfl
  rw [addr_zero] at h0 h1
  exact ⟨g, 0, A1, c1, rfl, hg, by rw [Nat.zero_add]; exact h0, by rw [Nat.zero_add]; exact h1, hle, hCC⟩
theorem twinF_any (A : Option Addr) (n c : Nat) (fs : List SF) (w : World) (hC : k45.C w A n fs) (hc : n ≤ c) (hl : fs.length ≤ 3518437208882) (hf : ∀ f ∈ fs, f.f1.length ≤ big) :
    Calls Try.prog 12 #[.slice A n c] w fun e w' => ∃ A' q, e = .returned (.slice A' n q) ∧ RF w' w.heap.size (fun _ => True) (.slice A' n q) fs ∧ Below w.heap.size w w' := by
  have hn : n = fs.length := (Kd.C_len hC).symm
  subst hn
  refine (leatref18_Twin.calls (fuel fs.length + 1) A c fs fs w hC hc (twin_l _ fs 0 hl hf (by omega) (Nat.zero_le _))).mono ?_
  rintro e w' ⟨v, rfl, hr, hb⟩
  obtain ⟨A', q, rfl⟩ := Kd.S_slice hr
  exact ⟨A', q, rfl, hr, hb⟩
theorem alikeF_any (A B : Option Addr) (n c q : Nat) (fs : List SF) (w : World) (hA : k45.C w A n fs) (hc : n ≤ c) (hB : k45.C w B n fs) (hq : n ≤ q) (hl : fs.length ≤ 3518437208882) (hf : ∀ f ∈ fs, f.f1.length ≤ big) :
    Calls Try.prog 22 #[.slice A n c, .slice B n q] w fun e w' => e = .returned (.bool true) ∧ Below w.heap.size w w' := by
  have hn : n = fs.length := (Kd.C_len hA).symm
  subst hn
  refine (leatref18_Alike.calls (fuel fs.length + 1) A c fs B q fs true w hA hc hB hq (alike_f hl hf)).mono ?_
  rintro e w' ⟨rfl, hd⟩
  exact ⟨rfl, hd.below⟩
theorem refLoad_any (A : Option Addr) (n c : Nat) (fs : List SF) (w : World) (hC : k45.C w A n fs) (hc : n ≤ c) (hl : fs.length ≤ 140737488355328) (hf : ∀ f ∈ fs, f.f1.length ≤ big) :
    Calls Try.prog 14 #[.int .i64 16777216, .slice A n c] w fun e w' => ∃ A1 n1 c1 i1 A2 n2 c2 i2 o, e = .returned (.tuple #[.agg #[.slice A1 n1 c1, .int .i64 i1, .slice A2 n2 c2, .int .i64 i2, .bool o], .int .i64 (loadD 16777216 fs).2]) ∧ Below w.heap.size w w' := by
  have hn : n = fs.length := (Kd.C_len hC).symm
  subst hn
  obtain ⟨r1, r2, r3, r4, r5, h⟩ := load_f hf hl
  refine (leatref18_Load.calls _ 16777216 A c fs r1 r2 r3 r4 r5 _ w hC hc h).mono ?_
  rintro e w' ⟨v0, v2, rfl, hv0, hv2, hb⟩
  obtain ⟨A2, c2, rfl⟩ := Kd.R_slice hv2
  obtain ⟨A1, c1, rfl⟩ := Kd.V_slice hv0
  exact ⟨_, _, _, _, _, _, _, _, _, rfl, hb⟩
theorem othersF_any (A : Option Addr) (n c : Nat) (fs : List SF) (x : ByteArray) (w : World) (ok : Nat → Prop) (base : Nat) (h : RF w base ok (.slice A n c) fs) (hl : fs.length ≤ 3518437208882) :
    Calls Try.prog 40 #[.slice A n c, .string x] w fun e w' => ∃ A' n' q, e = .returned (.slice A' n' q) ∧ k45.C w' A' n' (othersL x fs) ∧ n' ≤ q ∧ Below w.heap.size w w' := by
  have hn : n = fs.length := (Kd.S_reads' h).1
  subst hn
  refine (leatlaw18_others.calls (fs.length + 1) _ A c fs x (othersL x fs) w (Kd.S_V h) (others_f hl)).mono ?_
  rintro e w' ⟨v, rfl, hr, hb⟩
  obtain ⟨A', q, rfl⟩ := Kd.N_slice hr
  have h2 := Kd.N_reads' hr
  exact ⟨A', _, q, rfl, h2.2.2, h2.2.1, hb⟩
end Go.Proofs.Ytkhopknpadncdaa
