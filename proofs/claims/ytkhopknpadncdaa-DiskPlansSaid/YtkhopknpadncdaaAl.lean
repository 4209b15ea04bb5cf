/- A disk of the call's own: the methods' contracts over it. -/
import Derived.Test.YtkhopknpadncdaaNew
namespace Go.Proofs.Ytkhopknpadncdaa
open Go Go.RowKit Go.Maps Go.Proofs.YtkhopknpadncdaaW.PrintWords Go.Proofs.Ytkhopknpadncdaa.PDiskMemory Go.Proofs.YtkhopknpadncdaaW.PrintMore
set_option linter.unusedVariables false

/-- Since w alone new memory was written; in W a disk stands at d. -/
def Al (w W : World) (d : Nat) (k : Dk) (N : Nat) : Prop := ∃ S, Disk W d S k N ∧ (∀ b, S b → w.heap.size ≤ b) ∧ Below w.heap.size w W
theorem Al.bl {w W : World} {d N : Nat} {k : Dk} (h : Al w W d k N) : Below w.heap.size w W := by obtain ⟨S, _, _, h⟩ := h; exact h
theorem Al.okk {w W : World} {d N : Nat} {k : Dk} (h : Al w W d k N) : k.ok N := by obtain ⟨S, h, _⟩ := h; exact h.okk
theorem Al.below {w W W' : World} {d N : Nat} {k : Dk} (h : Al w W d k N) (hb : Below W.heap.size W W') : Al w W' d k N := by
  obtain ⟨S, h1, h2, h3⟩ := h
  exact ⟨S, h1.below hb, h2, h3.trans (hb.mono h3.size)⟩
theorem Al.next {w W W' : World} {d N' : Nat} {S S' : Nat → Prop} {k : Dk} (hS : ∀ b, S b → w.heap.size ≤ b) (hb : Below w.heap.size w W) (hD : Disk W' d S' k N') (hT : Tch S W W') (hn : ∀ b, S' b → S b ∨ W.heap.size ≤ b) : Al w W' d k N' :=
  ⟨S', hD, fun b h => (hn b h).elim (hS b) (fun h => Nat.le_trans hb.size h), hb.trans (hT.below hb.size hS)⟩
/-- A step's answer, and the disk behind it. -/
def APost (w : World) (d N : Nat) (x : Dk × Int) (e : Ending) (W' : World) : Prop := e = .returned (.int .i64 x.2) ∧ Al w W' d x.1 N
def AQPost (w : World) (d N : Nat) (k : Dk) (e : Ending) (W' : World) : Prop := e = .returned (.tuple #[]) ∧ Al w W' d k N
theorem al_s {w W W' : World} {d N : Nat} {S : Nat → Prop} {x : Dk × Int} {e : Ending} (hS : ∀ b, S b → w.heap.size ≤ b) (hb : Below w.heap.size w W) (h : SPost S d N W x e W') : APost w d N x e W' := by
  obtain ⟨S', he, hD, hT, hn⟩ := h
  exact ⟨he, Al.next hS hb hD hT hn⟩
theorem al_q {w W W' : World} {d N : Nat} {S : Nat → Prop} {k : Dk} {e : Ending} (hS : ∀ b, S b → w.heap.size ≤ b) (hb : Below w.heap.size w W) (h : QPost S d N W k e W') : AQPost w d N k e W' := by
  obtain ⟨S', he, hD, hT, hn⟩ := h
  exact ⟨he, Al.next hS hb hD hT hn⟩
section
variable {w W W0 : World} {d N : Nat} {k : Dk}
theorem al_new (h : Below w.heap.size w W) (room : Int) : Calls Try.prog 8 #[.int .i64 room] W fun e W' => ∃ d, e = .returned (.pointer (some ⟨d, 0, none⟩)) ∧ Al w W' d (newD room) 0 :=
  (new_any W room).mono fun e W' ⟨d, S, he, hD, hS, hb⟩ => ⟨d, he, S, hD, fun b hb2 => Nat.le_trans h.size (hS b hb2), h.trans (hb.mono h.size)⟩
theorem al_create (h : Al w W d k N) (hN : N < 1000000000000) (s : ByteArray) (hs : s.size ≤ maxLen) : Calls Try.prog 28 #[.pointer (some ⟨d, 0, none⟩), .string s] W (APost w d (N + 1) (stepD (createD s.data.toList) (fun k _ => k) k)) := by
  obtain ⟨S, h1, h2, h3⟩ := h
  exact (create_any W d N S k s h1 hN hs).mono fun e W' h => al_s h2 h3 h
theorem al_append (h : Al w W0 d k N) (hN : N < 1000000000000) (s : ByteArray) (hs : s.size ≤ maxLen) (hb : Below W0.heap.size W0 W) (A : Option Addr) (n c : Nat) (l : List Int)
    (hC : ∀ W', (∀ b, W0.heap.size ≤ b → b < W.heap.size → W'.heap[b]? = W.heap[b]?) → (Kd.int .u8).C W' A n l) (hl : Byt l) (hn : n ≤ big) (hc : n ≤ c) :
    Calls Try.prog 10 #[.pointer (some ⟨d, 0, none⟩), .string s, .slice A n c] W (APost w d (N + 1) (stepD (appendD l s.data.toList) (partD l s.data.toList) k)) := by
  obtain ⟨S, h1, h2, h3⟩ := h
  refine (append_any W d N S k s A n c l (h1.below hb) hN hs (fun W' hT => hC W' (fun b h4 h5 => hT.block b h5 (fun h6 => ?_))) hl hn hc).mono fun e W' h => al_s h2 (h3.trans (hb.mono h3.size)) h
  have := h1.lt h6
  omega
theorem al_sync (h : Al w W d k N) (hN : N < 1000000000000) (s : ByteArray) (hs : s.size ≤ maxLen) : Calls Try.prog 30 #[.pointer (some ⟨d, 0, none⟩), .string s] W (APost w d (N + 1) (stepD (syncD s.data.toList) (fun k _ => k) k)) := by
  obtain ⟨S, h1, h2, h3⟩ := h
  exact (sync_any W d N S k s h1 hN hs).mono fun e W' h => al_s h2 h3 h
theorem al_cut (h : Al w W d k N) (hN : N < 1000000000000) (s : ByteArray) (hs : s.size ≤ maxLen) (u : Int) : Calls Try.prog 32 #[.pointer (some ⟨d, 0, none⟩), .string s, .int .i64 u] W (APost w d (N + 1) (stepD (cutD u s.data.toList) (fun k _ => k) k)) := by
  obtain ⟨S, h1, h2, h3⟩ := h
  exact (cut_any W d N S k s u h1 hN hs).mono fun e W' h => al_s h2 h3 h
theorem al_remove (h : Al w W d k N) (hN : N < 1000000000000) (s : ByteArray) (hs : s.size ≤ maxLen) : Calls Try.prog 66 #[.pointer (some ⟨d, 0, none⟩), .string s] W (APost w d (N + 1) (stepD (removeD s.data.toList) (fun k _ => k) k)) := by
  obtain ⟨S, h1, h2, h3⟩ := h
  exact (remove_any W d N S k s h1 hN hs).mono fun e W' h => al_s h2 h3 h
theorem al_on (h : Al w W0 d k N) (hN : N ≤ 1000000000000) (hb : Below W0.heap.size W0 W) (A : Option Addr) (n c : Nat) (keeps : List Int) (hK : Keeps W (fun b => b < W0.heap.size) A n keeps) :
    Calls Try.prog 34 #[.pointer (some ⟨d, 0, none⟩), .slice A n c] W (AQPost w d N (onD keeps k)) := by
  obtain ⟨S, h1, h2, h3⟩ := h
  refine (on_any W d N S k A n c keeps (h1.below hb) hN ⟨hK.1, hK.2.1, fun h => ?_⟩).mono fun e W' h => al_q h2 (h3.trans (hb.mono h3.size)) h
  obtain ⟨b, o, e, hl, hn, hc⟩ := hK.2.2 h
  exact ⟨b, o, e, hl, fun hs => hn (h1.lt hs), hc⟩
theorem al_plan (h : Al w W d k N) (A : Option Addr) (n c : Nat) (p : List Fat) (hC : kFat.C W A n p) (hl : n * 24 ≤ 140737488355328) : Calls Try.prog 9 #[.pointer (some ⟨d, 0, none⟩), .slice A n c] W (AQPost w d N (planD k p)) := by
  obtain ⟨S, h1, h2, h3⟩ := h
  exact (plan_any W d N S k A n c p h1 hC hl).mono fun e W' h => al_q h2 h3 h
theorem al_read (h : Al w W d k N) (s : ByteArray) (hs : s.size ≤ maxLen) (at_ n : Int) (ha : -9223372036854775808 ≤ at_) (hn0 : n ≤ 9223372036854775807) : Calls Try.prog 26 #[.pointer (some ⟨d, 0, none⟩), .string s, .int .i64 at_, .int .i64 n] W (ReadPost W (readD k s.data.toList at_ n)) := by
  obtain ⟨S, h1, h2, h3⟩ := h
  exact read_any W d N S k s at_ n h1 hs ha hn0
theorem al_steps (h : Al w W d k N) : Calls Try.prog 11 #[.pointer (some ⟨d, 0, none⟩)] W fun e w' => e = .returned (.int .i64 k.steps) ∧ w' = W := by
  obtain ⟨S, h1, h2, h3⟩ := h
  exact steps_any W d N S k h1
theorem al_power (h : Al w W d k N) : Calls Try.prog 39 #[.pointer (some ⟨d, 0, none⟩)] W fun e w' => e = .returned (.bool (!k.off)) ∧ w' = W := by
  obtain ⟨S, h1, h2, h3⟩ := h
  exact power_any W d N S k h1
theorem al_size (h : Al w W d k N) (s : ByteArray) (hs : s.size ≤ maxLen) : Calls Try.prog 35 #[.pointer (some ⟨d, 0, none⟩), .string s] W fun e w' => e = .returned (.tuple #[.int .i64 (sizeD k s.data.toList).1, .int .i64 (sizeD k s.data.toList).2]) ∧ w' = W := by
  obtain ⟨S, h1, h2, h3⟩ := h
  exact size_any W d N S k s h1 hs
theorem al_files (h : Al w W d k N) : Calls Try.prog 19 #[.pointer (some ⟨d, 0, none⟩)] W (FilesPost W (filesD (·.seen) k)) := by
  obtain ⟨S, h1, h2, h3⟩ := h
  exact files_any W d N S k h1
theorem al_safe (h : Al w W d k N) : Calls Try.prog 20 #[.pointer (some ⟨d, 0, none⟩)] W (FilesPost W (filesD (·.safe) k)) := by
  obtain ⟨S, h1, h2, h3⟩ := h
  exact safe_any W d N S k h1
end
/-- A literal row, read. -/
theorem lit_C {C : Array Value} {n : Nat} {fr : Nat × Nat} {ty : TypeId} {W : World} {g : Nat} (l : List Int) (h : W.heap[g]? = some (.cells C ty fr)) (hC : C = (l.map (Value.int .u8)).toArray) (hn : n = l.length) (hm : n ≤ 9223372036854775807) : (Kd.int .u8).C W (some ⟨g, 0, none⟩) n l :=
  Kd.C_of_reads (d := 0) ⟨hn.symm, hm, fun _ => ⟨_, rfl, fun j hj => by
    rw [addr_zero, cell_of_row W g j C ty fr h, hC]
    simp [List.getD_eq_getElem?_getD, List.getElem?_eq_getElem (show j < l.length by omega)]⟩⟩
end Go.Proofs.Ytkhopknpadncdaa
