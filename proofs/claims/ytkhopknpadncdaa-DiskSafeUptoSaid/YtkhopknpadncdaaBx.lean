/- A disk of the call's own beside a row of bytes: the methods' contracts. -/
import Derived.Test.YtkhopknpadncdaaUnits
import Derived.Test.YtkhopknpadncdaaSafeP
namespace Go.Proofs.Ytkhopknpadncdaa
open Go Go.RowKit Go.Maps Go.Proofs.YtkhopknpadncdaaW.PrintWords Go.Proofs.Ytkhopknpadncdaa.PDiskFails Go.Proofs.YtkhopknpadncdaaW.PrintMore
set_option linter.unusedVariables false

def Bx (w W : World) (d : Nat) (k : Dk) (N : Nat) (v : Value) (l : List Int) : Prop := ∃ S, Disk W d S k N ∧ (∀ b, S b → w.heap.size ≤ b) ∧ Below w.heap.size w W ∧ RB W (fun b => ¬ S b) v l
theorem row_keep {α : Type} {d : Kd α} {e : Nat} {W W' : World} {S S' : Nat → Prop} {v : Value} {l : List α} (hR : d.R e W 0 (fun b => ¬ S b) v l) (hT : Tch S W W') (hn : ∀ b, S' b → S b ∨ W.heap.size ≤ b) : d.R e W' 0 (fun b => ¬ S' b) v l :=
  Kd.R_mono (Kd.R_step (Kd.R_bound hR) (fun k hk hl => hT.block k hl hk.1)) (fun k hk hs => (hn k hs).elim hk.1 (fun h => by have := hk.2.2.1; omega))
section
variable {w W W0 W' : World} {d N : Nat} {k : Dk} {v : Value} {l : List Int}
theorem Bx.bl (h : Bx w W d k N v l) : Below w.heap.size w W := by obtain ⟨S, _, _, h, _⟩ := h; exact h
theorem Bx.al (h : Bx w W d k N v l) : Al w W d k N := by obtain ⟨S, h1, h2, h3, _⟩ := h; exact ⟨S, h1, h2, h3⟩
theorem Bx.row (h : Bx w W d k N v l) : RB W (fun _ => True) v l := by obtain ⟨S, _, _, _, h⟩ := h; exact Kd.R_mono h (fun _ _ => trivial)
theorem Bx.below (h : Bx w W d k N v l) (hb : Below W.heap.size W W') : Bx w W' d k N v l := by
  obtain ⟨S, h1, h2, h3, h4⟩ := h
  exact ⟨S, h1.below hb, h2, h3.trans (hb.mono h3.size), Kd.R_below h4 hb⟩
/-- A new row beside it. -/
theorem Al.row (h : Al w W d k N) (hb : Below W.heap.size W W') (hr : (Kd.int .u8).R 5 W' W.heap.size (fun _ => True) v l) : Bx w W' d k N v l := by
  obtain ⟨S, h1, h2, h3⟩ := h
  refine ⟨S, h1.below hb, h2, h3.trans (hb.mono h3.size), Kd.R_mono (Kd.R_lower (Kd.R_bound hr) (Nat.zero_le _)) (fun b hb hs => ?_)⟩
  have := h1.lt hs
  have := hb.2.1
  omega
def BPost (w : World) (d N : Nat) (x : Dk × Int) (v : Value) (l : List Int) (e : Ending) (W' : World) : Prop := e = .returned (.int .i64 x.2) ∧ Bx w W' d x.1 N v l
def BQPost (w : World) (d N : Nat) (k : Dk) (v : Value) (l : List Int) (e : Ending) (W' : World) : Prop := e = .returned (.tuple #[]) ∧ Bx w W' d k N v l
theorem bx_s {S : Nat → Prop} {x : Dk × Int} {e : Ending} (hS : ∀ b, S b → w.heap.size ≤ b) (hb : Below w.heap.size w W) (hr : RB W (fun b => ¬ S b) v l) (h : SPost S d N W x e W') : BPost w d N x v l e W' := by
  obtain ⟨S', he, hD, hT, hn⟩ := h
  exact ⟨he, S', hD, fun b h => (hn b h).elim (hS b) (fun h => Nat.le_trans hb.size h), hb.trans (hT.below hb.size hS), row_keep hr hT hn⟩
theorem bx_q {S : Nat → Prop} {e : Ending} (hS : ∀ b, S b → w.heap.size ≤ b) (hb : Below w.heap.size w W) (hr : RB W (fun b => ¬ S b) v l) (h : QPost S d N W k e W') : BQPost w d N k v l e W' := by
  obtain ⟨S', he, hD, hT, hn⟩ := h
  exact ⟨he, S', hD, fun b h => (hn b h).elim (hS b) (fun h => Nat.le_trans hb.size h), hb.trans (hT.below hb.size hS), row_keep hr hT hn⟩
/-- A row of the callee's, as an argument. -/
theorem row_C {A : Option Addr} {n c : Nat} {b : List Int} {B : Nat} (hr : (Kd.int .u8).R 5 W B (fun _ => True) (.slice A n c) b) : ∀ W', (∀ b, B ≤ b → b < W.heap.size → W'.heap[b]? = W.heap[b]?) → (Kd.int .u8).C W' A n b := fun W' hW => by
  have h := Kd.R_reads' (Kd.R_step (Kd.R_bound hr) (fun k hk hl => hW k hk.2.1 hl))
  rw [h.1]
  exact h.2.2
theorem al_appendR (h : Al w W0 d k N) (hN : N < 1000000000000) (s : ByteArray) (hs : s.size ≤ maxLen) (hb : Below W0.heap.size W0 W) {A : Option Addr} {n c : Nat} {b : List Int} (hr : (Kd.int .u8).R 5 W W0.heap.size (fun _ => True) (.slice A n c) b) (hl : Byt b) (hn : b.length ≤ big) :
    Calls Try.prog 10 #[.pointer (some ⟨d, 0, none⟩), .string s, .slice A n c] W (APost w d (N + 1) (stepD (appendD b s.data.toList) (partD b s.data.toList) k)) :=
  al_append h hN s hs hb A n c b (row_C hr) hl (by rw [(Kd.R_reads' hr).1]; exact hn) (Kd.R_reads' hr).2.1
theorem bx_append (h : Bx w W0 d k N v l) (hN : N < 1000000000000) (s : ByteArray) (hs : s.size ≤ maxLen) (hb : Below W0.heap.size W0 W) {A : Option Addr} {n c : Nat} {b : List Int} (hr : (Kd.int .u8).R 5 W W0.heap.size (fun _ => True) (.slice A n c) b) (hl : Byt b) (hn : b.length ≤ big) :
    Calls Try.prog 10 #[.pointer (some ⟨d, 0, none⟩), .string s, .slice A n c] W (BPost w d (N + 1) (stepD (appendD b s.data.toList) (partD b s.data.toList) k) v l) := by
  obtain ⟨S, h1, h2, h3, h4⟩ := h
  refine (append_any W d N S k s A n c b (h1.below hb) hN hs (fun W' hT => row_C hr W' (fun i h4 h5 => hT.block i h5 (fun h6 => ?_))) hl (by rw [(Kd.R_reads' hr).1]; exact hn) (Kd.R_reads' hr).2.1).mono fun e W' h => bx_s h2 (h3.trans (hb.mono h3.size)) (Kd.R_below h4 hb) h
  have := h1.lt h6
  omega
theorem bx_cut (h : Bx w W d k N v l) (hN : N < 1000000000000) (s : ByteArray) (hs : s.size ≤ maxLen) (u : Int) : Calls Try.prog 32 #[.pointer (some ⟨d, 0, none⟩), .string s, .int .i64 u] W (BPost w d (N + 1) (stepD (cutD u s.data.toList) (fun k _ => k) k) v l) := by
  obtain ⟨S, h1, h2, h3, h4⟩ := h
  exact (cut_any W d N S k s u h1 hN hs).mono fun e W' h => bx_s h2 h3 h4 h
theorem bx_on (h : Bx w W0 d k N v l) (hN : N ≤ 1000000000000) (hb : Below W0.heap.size W0 W) (A : Option Addr) (n c : Nat) (keeps : List Int) (hK : Keeps W (fun b => b < W0.heap.size) A n keeps) :
    Calls Try.prog 34 #[.pointer (some ⟨d, 0, none⟩), .slice A n c] W (BQPost w d N (onD keeps k) v l) := by
  obtain ⟨S, h1, h2, h3, h4⟩ := h
  refine (on_any W d N S k A n c keeps (h1.below hb) hN ⟨hK.1, hK.2.1, fun h => ?_⟩).mono fun e W' h => bx_q h2 (h3.trans (hb.mono h3.size)) (Kd.R_below h4 hb) h
  obtain ⟨b, o, e, hl, hn, hc⟩ := hK.2.2 h
  exact ⟨b, o, e, hl, fun hs => hn (h1.lt hs), hc⟩
theorem bx_units (h : Bx w W d k N v l) (hN : N ≤ 1000000000000) (s : ByteArray) (hs : s.size ≤ maxLen) (hu : unitsD k s.data.toList ≤ 9223372036854775807) : Calls Try.prog 33 #[.pointer (some ⟨d, 0, none⟩), .string s] W fun e w' => e = .returned (.int .i64 (unitsD k s.data.toList)) ∧ Bx w w' d k N v l := by
  have h0 := h
  obtain ⟨S, h1, h2, h3, h4⟩ := h
  exact (unitsD_any W d N S k s h1 hN hs hu).mono fun e w' ⟨he, hb⟩ => ⟨he, h0.below hb⟩
end
theorem keep_lit {W0 : World} {ty : TypeId} (u : Int) (hu : u ≤ 9223372036854775807) : Keeps (W0.alloc (.cells #[.int .i64 u] ty)) (fun b => b < W0.heap.size) (some ⟨W0.heap.size, 0, none⟩) 1 [u] := by
  refine ⟨rfl, fun v hv => by rw [List.mem_singleton.1 hv]; exact hu, fun _ => ⟨_, 0, rfl, by simp, Nat.lt_irrefl _, fun i hi => ?_⟩⟩
  obtain rfl : i = 0 := by omega
  exact (blk_cell (heap_alloc_new W0 (.cells #[.int .i64 u] ty)) 0).trans rfl
end Go.Proofs.Ytkhopknpadncdaa
