/- D5: New, Al, Alive, one text (a claim holds at most 60 files). -/
import Derived.Test.YtkhopknpadncdaaD4
import Derived.Carry
import Derived.Lib.SlBytesConst
import Derived.Laws.BytesArg

/- New -/
section
/- disk.New, Plan. -/
namespace Go.Proofs.Ytkhopknpadncdaa
open Go Go.RowKit Go.Maps Go.Proofs.YtkhopknpadncdaaW.PrintWords Go.Proofs.Ytkhopknpadncdaa.PDiskMemory Go.Proofs.YtkhopknpadncdaaW.PrintMore
set_option linter.unusedVariables false
attribute [local go_sem] max2_int min2_int max_two min_two max_three min_three

def newD (room : Int) : Dk := ⟨[], min (max room 0) 16777216, [], 0, false⟩
theorem newD_ok (room : Int) : (newD room).ok 0 := by
  refine ⟨fun p hp => (nomatch hp), ?_, ?_, Nat.zero_le _, Int.le_refl _, Int.le_refl _⟩
  · show 0 ≤ min (max room 0) 16777216
    omega
  · show min (max room 0) 16777216 ≤ 16777216
    omega
/-- A call that makes a disk. -/
def MadeP (w : World) (k : Dk) (N : Nat) (e : Ending) (w' : World) : Prop := ∃ d S, e = .returned (.pointer (some ⟨d, 0, none⟩)) ∧ Disk w' d S k N ∧ (∀ b, S b → w.heap.size ≤ b) ∧ Below w.heap.size w w'
theorem new_disk (w : World) (room r : Int) (hr : r = min (max room 0) 16777216) : MadeP w (newD room) 0 (.returned (.pointer (some ⟨w.heap.size + 1, 0, none⟩))) ((w.alloc (.map #[] 0)).alloc (.cells #[.map (some w.heap.size), .int .i64 r, .slice none 0 0, .int .i64 0, .bool false] 77)) := by
  have hs : ((w.alloc (.map #[] 0)).alloc (.cells #[.map (some w.heap.size), .int .i64 r, .slice none 0 0, .int .i64 0, .bool false] 77)).heap.size = w.heap.size + 2 := by simp
  have hb : Below w.heap.size w ((w.alloc (.map #[] 0)).alloc (.cells #[.map (some w.heap.size), .int .i64 r, .slice none 0 0, .int .i64 0, .bool false] 77)) := ((Below.refl w.heap.size w).alloc (Nat.le_refl _) _).alloc (by simp) _
  have hc := heap_alloc_new (w.alloc (.map #[] 0)) (.cells #[.map (some w.heap.size), .int .i64 r, .slice none 0 0, .int .i64 0, .bool false] 77)
  rw [World.size_alloc] at hc
  obtain ⟨O, hO⟩ : ∃ O : Nat → Own, O = fun b => if b = w.heap.size + 1 then .disk else if b = w.heap.size then .map else .none := ⟨_, rfl⟩
  have hO2 : ∀ b, O b ≠ .none → b = w.heap.size + 1 ∨ b = w.heap.size := fun b h => by
    rw [hO] at h
    simp only at h
    by_cases h1 : b = w.heap.size + 1
    · exact .inl h1
    · by_cases h2 : b = w.heap.size
      · exact .inr h2
      · rw [if_neg h1, if_neg h2] at h; exact absurd rfl h
  refine ⟨w.heap.size + 1, fun b => O b ≠ .none, rfl, ⟨w.heap.size, O, .slice none 0 0, [], ⟨?_, ?_, ?_, ?_, Kd.R_nil _ _ _ _ _, rfl, fun x p f hz => (nomatch hz), fun b h => ?_, newD_ok room⟩, fun b => Iff.rfl⟩, fun b h => ?_, hb⟩
  · rw [hc, hr]; rfl
  · rw [hO]; simp
  · rw [hO]; simp
  · exact (ML.made w).kept (Below.heap_alloc _ _ _ (by simp))
  · rw [hs]
    rcases hO2 b h with h | h <;> omega
  · rcases hO2 b h with h | h <;> omega
set_option maxRecDepth 100000 in
theorem new_any (w : World) (room : Int) : Calls Try.prog 8 #[.int .i64 room] w (MadeP w (newD room) 0) := by
  have hmm := @run_makeMap Try.prog
  have HN := Lib.hid (new_disk w room)
  by_cases h1 : room < 0
  · have hr : (0 : Int) = min (max room 0) 16777216 := by omega
    have HE := Lib.hid (HN.out 0 hr)
    clear hr HN
    go_enter Try.func8, Try.ntmps8
    go_wp2_with fail
    go_ret
    exact HE.out
  · by_cases h2 : 16777216 < room
    · have hr : (16777216 : Int) = min (max room 0) 16777216 := by omega
      have HE := Lib.hid (HN.out 16777216 hr)
      clear hr HN
      go_enter Try.func8, Try.ntmps8
      go_wp2_with fail
      go_ret
      exact HE.out
    · have hr : room = min (max room 0) 16777216 := by omega
      have HE := Lib.hid (HN.out room hr)
      clear hr HN
      go_enter Try.func8, Try.ntmps8
      go_wp2_with fail
      go_ret
      exact HE.out

end Go.Proofs.Ytkhopknpadncdaa
end

/- Al -/
section
/- A disk of the call's own: the methods' contracts over it. -/
namespace Go.Proofs.Ytkhopknpadncdaa
open Go Go.RowKit Go.Maps Go.Proofs.YtkhopknpadncdaaW.PrintWords Go.Proofs.Ytkhopknpadncdaa.PDiskMemory Go.Proofs.YtkhopknpadncdaaW.PrintMore
set_option linter.unusedVariables false

/-- Since w alone new memory was written; in W a disk stands at d. -/
def Al (w W : World) (d : Nat) (k : Dk) (N : Nat) : Prop := ∃ S, Disk W d S k N ∧ (∀ b, S b → w.heap.size ≤ b) ∧ Below w.heap.size w W
theorem Al.bl {w W : World} {d N : Nat} {k : Dk} (h : Al w W d k N) : Below w.heap.size w W := by obtain ⟨S, _, _, h⟩ := h; exact h
theorem Al.okk {w W : World} {d N : Nat} {k : Dk} (h : Al w W d k N) : k.ok N := by obtain ⟨S, h, _⟩ := h; exact h.okk
theorem Al.below {w W W' : World} {d N : Nat} {k : Dk} (h : Al w W d k N) (hb : Below W.heap.size W W') : Al w W' d k N := by
  obtain ⟨S, h1, h2, h3⟩ := h
  exact ⟨S, h1.below hb, h2, h3.trans (hb.mono h3.size)⟩
theorem Al.next {w W W' : World} {d N' : Nat} {S S' : Nat → Prop} {k : Dk} (hS : ∀ b, S b → w.heap.size ≤ b) (hb : Below w.heap.size w W) (hD : Disk W' d S' k N') (hT : Tch S W W') (hn : ∀ b, S' b → S b ∨ W.heap.size ≤ b) : Al w W' d k N' :=
  ⟨S', hD, fun b h => (hn b h).elim (hS b) (fun h => Nat.le_trans hb.size h), hb.trans (hT.below hb.size hS)⟩
/-- A step's answer, and the disk behind it. -/
def APost (w : World) (d N : Nat) (x : Dk × Int) (e : Ending) (W' : World) : Prop := e = .returned (.int .i64 x.2) ∧ Al w W' d x.1 N
def AQPost (w : World) (d N : Nat) (k : Dk) (e : Ending) (W' : World) : Prop := e = .returned (.tuple #[]) ∧ Al w W' d k N
theorem al_s {w W W' : World} {d N : Nat} {S : Nat → Prop} {x : Dk × Int} {e : Ending} (hS : ∀ b, S b → w.heap.size ≤ b) (hb : Below w.heap.size w W) (h : SPost S d N W x e W') : APost w d N x e W' := by
  obtain ⟨S', he, hD, hT, hn⟩ := h
  exact ⟨he, Al.next hS hb hD hT hn⟩
theorem al_q {w W W' : World} {d N : Nat} {S : Nat → Prop} {k : Dk} {e : Ending} (hS : ∀ b, S b → w.heap.size ≤ b) (hb : Below w.heap.size w W) (h : QPost S d N W k e W') : AQPost w d N k e W' := by
  obtain ⟨S', he, hD, hT, hn⟩ := h
  exact ⟨he, Al.next hS hb hD hT hn⟩
section
variable {w W W0 : World} {d N : Nat} {k : Dk}
theorem al_new (h : Below w.heap.size w W) (room : Int) : Calls Try.prog 8 #[.int .i64 room] W fun e W' => ∃ d, e = .returned (.pointer (some ⟨d, 0, none⟩)) ∧ Al w W' d (newD room) 0 :=
  (new_any W room).mono fun e W' ⟨d, S, he, hD, hS, hb⟩ => ⟨d, he, S, hD, fun b hb2 => Nat.le_trans h.size (hS b hb2), h.trans (hb.mono h.size)⟩
theorem al_create (h : Al w W d k N) (hN : N < 1000000000000) (s : ByteArray) (hs : s.size ≤ maxLen) : Calls Try.prog 28 #[.pointer (some ⟨d, 0, none⟩), .string s] W (APost w d (N + 1) (stepD (createD s.data.toList) (fun k _ => k) k)) := by
  obtain ⟨S, h1, h2, h3⟩ := h
  exact (create_any W d N S k s h1 hN hs).mono fun e W' h => al_s h2 h3 h
theorem al_append (h : Al w W0 d k N) (hN : N < 1000000000000) (s : ByteArray) (hs : s.size ≤ maxLen) (hb : Below W0.heap.size W0 W) (A : Option Addr) (n c : Nat) (l : List Int)
    (hC : ∀ W', (∀ b, W0.heap.size ≤ b → b < W.heap.size → W'.heap[b]? = W.heap[b]?) → (Kd.int .u8).C W' A n l) (hl : Byt l) (hn : n ≤ big) (hc : n ≤ c) :
    Calls Try.prog 10 #[.pointer (some ⟨d, 0, none⟩), .string s, .slice A n c] W (APost w d (N + 1) (stepD (appendD l s.data.toList) (partD l s.data.toList) k)) := by
  obtain ⟨S, h1, h2, h3⟩ := h
  refine (append_any W d N S k s A n c l (h1.below hb) hN hs (fun W' hT => hC W' (fun b h4 h5 => hT.block b h5 (fun h6 => ?_))) hl hn hc).mono fun e W' h => al_s h2 (h3.trans (hb.mono h3.size)) h
  have := h1.lt h6
  omega
theorem al_sync (h : Al w W d k N) (hN : N < 1000000000000) (s : ByteArray) (hs : s.size ≤ maxLen) : Calls Try.prog 30 #[.pointer (some ⟨d, 0, none⟩), .string s] W (APost w d (N + 1) (stepD (syncD s.data.toList) (fun k _ => k) k)) := by
  obtain ⟨S, h1, h2, h3⟩ := h
  exact (sync_any W d N S k s h1 hN hs).mono fun e W' h => al_s h2 h3 h
theorem al_on (h : Al w W0 d k N) (hN : N ≤ 1000000000000) (hb : Below W0.heap.size W0 W) (A : Option Addr) (n c : Nat) (keeps : List Int) (hK : Keeps W (fun b => b < W0.heap.size) A n keeps) :
    Calls Try.prog 34 #[.pointer (some ⟨d, 0, none⟩), .slice A n c] W (AQPost w d N (onD keeps k)) := by
  obtain ⟨S, h1, h2, h3⟩ := h
  refine (on_any W d N S k A n c keeps (h1.below hb) hN ⟨hK.1, hK.2.1, fun h => ?_⟩).mono fun e W' h => al_q h2 (h3.trans (hb.mono h3.size)) h
  obtain ⟨b, o, e, hl, hn, hc⟩ := hK.2.2 h
  exact ⟨b, o, e, hl, fun hs => hn (h1.lt hs), hc⟩
theorem al_read (h : Al w W d k N) (s : ByteArray) (hs : s.size ≤ maxLen) (at_ n : Int) (ha : -9223372036854775808 ≤ at_) (hn0 : n ≤ 9223372036854775807) : Calls Try.prog 26 #[.pointer (some ⟨d, 0, none⟩), .string s, .int .i64 at_, .int .i64 n] W (ReadPost W (readD k s.data.toList at_ n)) := by
  obtain ⟨S, h1, h2, h3⟩ := h
  exact read_any W d N S k s at_ n h1 hs ha hn0
theorem al_steps (h : Al w W d k N) : Calls Try.prog 11 #[.pointer (some ⟨d, 0, none⟩)] W fun e w' => e = .returned (.int .i64 k.steps) ∧ w' = W := by
  obtain ⟨S, h1, h2, h3⟩ := h
  exact steps_any W d N S k h1
theorem al_files (h : Al w W d k N) : Calls Try.prog 19 #[.pointer (some ⟨d, 0, none⟩)] W (FilesPost W (filesD (·.seen) k)) := by
  obtain ⟨S, h1, h2, h3⟩ := h
  exact files_any W d N S k h1
theorem al_safe (h : Al w W d k N) : Calls Try.prog 20 #[.pointer (some ⟨d, 0, none⟩)] W (FilesPost W (filesD (·.safe) k)) := by
  obtain ⟨S, h1, h2, h3⟩ := h
  exact safe_any W d N S k h1
end
/-- A literal row, read. -/
theorem lit_C {C : Array Value} {n : Nat} {fr : Nat × Nat} {ty : TypeId} {W : World} {g : Nat} (l : List Int) (h : W.heap[g]? = some (.cells C ty fr)) (hC : C = (l.map (Value.int .u8)).toArray) (hn : n = l.length) (hm : n ≤ 9223372036854775807) : (Kd.int .u8).C W (some ⟨g, 0, none⟩) n l :=
  Kd.C_of_reads (d := 0) ⟨hn.symm, hm, fun _ => ⟨_, rfl, fun j hj => by
    rw [addr_zero, cell_of_row W g j C ty fr h, hC]
    simp [List.getD_eq_getElem?_getD, List.getElem?_eq_getElem (show j < l.length by omega)]⟩⟩
end Go.Proofs.Ytkhopknpadncdaa
end

/- Alive -/
section
/- alive: the document's example. -/
namespace Go.Proofs.Ytkhopknpadncdaa
open Go Go.RowKit Go.Maps Go.Proofs.YtkhopknpadncdaaW.PrintWords Go.Proofs.Ytkhopknpadncdaa.PDiskMemory Go.Proofs.YtkhopknpadncdaaW.PrintMore
set_option linter.unusedVariables false

def sA : ByteArray := ⟨#[97]⟩
def kA0 : Dk := newD 10
def kA1 : Dk := (stepD (createD [97]) (fun k _ => k) kA0).1
def kA2 : Dk := (stepD (appendD [120, 121, 122] [97]) (partD [120, 121, 122] [97]) kA1).1
def kA3 : Dk := (stepD (syncD [97]) (fun k _ => k) kA2).1
def kA4 : Dk := (stepD (appendD [117, 118, 119] [97]) (partD [117, 118, 119] [97]) kA3).1
def kA5 : Dk := (stepD (appendD [49, 50, 51, 52, 53] [97]) (partD [49, 50, 51, 52, 53] [97]) kA4).1
def kA6 : Dk := onD [2] kA5
theorem eA1 : stepD (createD [97]) (fun k _ => k) kA0 = (kA1, 0) := by kernel_rfl
theorem eA2 : stepD (appendD [120, 121, 122] [97]) (partD [120, 121, 122] [97]) kA1 = (kA2, 0) := by kernel_rfl
theorem eA3 : stepD (syncD [97]) (fun k _ => k) kA2 = (kA3, 0) := by kernel_rfl
theorem eA4 : stepD (appendD [117, 118, 119] [97]) (partD [117, 118, 119] [97]) kA3 = (kA4, 0) := by kernel_rfl
theorem eA5 : stepD (appendD [49, 50, 51, 52, 53] [97]) (partD [49, 50, 51, 52, 53] [97]) kA4 = (kA5, 182) := by kernel_rfl
theorem eA6 : readD kA6 [97] 0 5 = ([120, 121, 122, 117, 118], 0) := by kernel_rfl
theorem eA7 : kA6.steps = 5 := by kernel_rfl
theorem app_lit {w W0 W : World} {d N : Nat} {k k' : Dk} {v : Int} {C : Array Value} {fr : Nat × Nat} {n : Nat} (l : List Int) (h : Al w W0 d k N) (hN : N < 1000000000000) (hW : W = W0.alloc (.cells C 5 fr)) (hC : C = (l.map (Value.int .u8)).toArray) (hl : Byt l) (hn : n = l.length) (hm : n ≤ 5)
    (he : stepD (appendD l [97]) (partD l [97]) k = (k', v)) : Calls Try.prog 10 #[.pointer (some ⟨d, 0, none⟩), .string sA, .slice (some ⟨W0.heap.size, 0, none⟩) n n] W (APost w d (N + 1) (k', v)) := by
  subst hW
  have hb : Below W0.heap.size W0 (W0.alloc (.cells C 5 fr)) := (Below.refl _ _).alloc (Nat.le_refl _) _
  have := al_append (s := sA) h hN (by decide) hb (some ⟨W0.heap.size, 0, none⟩) n n l (fun W' hW => lit_C l ((hW W0.heap.size (Nat.le_refl _) (by simp)).trans (heap_alloc_new _ _)) hC hn (by omega)) hl (by unfold big; omega) (Nat.le_refl _)
  rw [show sA.data.toList = [97] from rfl, he] at this
  exact this
theorem keeps_lit {W0 : World} {ty : TypeId} : Keeps (W0.alloc (.cells #[.int .i64 2] ty)) (fun b => b < W0.heap.size) (some ⟨W0.heap.size, 0, none⟩) 1 [2] := by
  refine ⟨rfl, fun v hv => by rw [List.mem_singleton.1 hv]; decide, fun _ => ⟨_, 0, rfl, by simp, Nat.lt_irrefl _, fun i hi => ?_⟩⟩
  obtain rfl : i = 0 := by omega
  exact (blk_cell (heap_alloc_new W0 (.cells #[.int .i64 2] ty)) 0).trans rfl
set_option maxRecDepth 100000 in
set_option maxHeartbeats 4000000 in
theorem alive_any (w : World) : Calls Try.prog 7 #[] w fun e w' => e = .returned (.bool true) ∧ Below w.heap.size w w' := by
  have kc := fun (w : World) (C : Array Value) (n c : Nat) => Lib.run_convert_bytes_const (P := Try.prog) w 34 5 C n c Try.underlying34 Try.underlying5
  have HN := Lib.hid (al_new (Below.refl w.heap.size w) 10)
  have tok : True := trivial
  go_enter Try.func7, Try.ntmps7
  go_upto_region 5 with (first
    | (go_at_call 8; refine HN.out.mono ?_; rintro e w0 ⟨d, rfl, h⟩; have H0 : Hid (Al w w0 d kA0 0) := h; clear h)
    | (go_at_call 28; refine (al_create H0.out (by decide) sA (by decide)).mono ?_; rw [show sA.data.toList = [97] from rfl, eA1]; rintro e w1 ⟨rfl, h⟩; have H1 : Hid (Al w w1 d kA1 1) := h; clear h))
  go_upto_region 6 with (go_at_call 10; refine (app_lit [120, 121, 122] H1.out (by decide) rfl rfl (by unfold Byt; decide) rfl (by decide) eA2).mono ?_; rintro e w2 ⟨rfl, h⟩; have H2 : Hid (Al w w2 d kA2 2) := h; clear h)
  go_upto_region 7 with (go_at_call 30; refine (al_sync H2.out (by decide) sA (by decide)).mono ?_; rw [show sA.data.toList = [97] from rfl, eA3]; rintro e w3 ⟨rfl, h⟩; have H3 : Hid (Al w w3 d kA3 3) := h; clear h)
  go_upto_region 8 with (go_at_call 10; refine (app_lit [117, 118, 119] H3.out (by decide) rfl rfl (by unfold Byt; decide) rfl (by decide) eA4).mono ?_; rintro e w4 ⟨rfl, h⟩; have H4 : Hid (Al w w4 d kA4 4) := h; clear h)
  go_upto_region 9 with (go_at_call 10; refine (app_lit [49, 50, 51, 52, 53] H4.out (by decide) rfl rfl (by unfold Byt; decide) rfl (by decide) eA5).mono ?_; rintro e w5 ⟨rfl, h⟩; have H5 : Hid (Al w w5 d kA5 5) := h; clear h)
  go_upto_region 10 with (go_at_call 34; refine (al_on H5.out (by decide) ((Below.refl _ _).alloc (Nat.le_refl _) _) _ _ _ [2] keeps_lit).mono ?_; rintro e w6 ⟨rfl, h⟩; have H6 : Hid (Al w w6 d kA6 5) := h; clear h)
  go_upto_region 11 with (go_at_call 26; refine (al_read H6.out sA (by decide) 0 5 (by decide) (by decide)).mono ?_; rw [show sA.data.toList = [97] from rfl, eA6]; rintro e w7 ⟨v, rfl, hv, hb⟩; obtain ⟨g, cap, rfl, hg, hgl, cs, hgc⟩ := Kd.R_form hv (by decide); have H7 : Hid (Al w w7 d kA6 5) := H6.out.below hb; have HV := Lib.hid hv; clear hv hb)
  have cv : ∀ W, Below w7.heap.size w7 W → (convert 34 9 (.slice (some ⟨g, 0, none⟩) 5 cap)).run Try.prog W = .ok (.string ⟨#[120, 121, 122, 117, 118]⟩) W := fun W hW => by
    have hr := Kd.reads_of_C (d := (0 : Int)) (Kd.C_below (Kd.R_reads' HV.out).2.2 hW)
    have := run_convert_bytes_arg (P := Try.prog) W 34 5 Try.underlying34 Try.underlying5 g 0 5 cap [120, 121, 122, 117, 118] rfl (fun i hi => by
      obtain ⟨ad, e, hc⟩ := hr.2.2 (by decide)
      injection e with e
      subst e
      have := hc i hi
      rw [addr_zero] at this
      rw [Nat.zero_add]
      exact this) 9 Try.underlying9
    exact this
  have cv0 := cv w7 (Below.refl _ _)
  have cv1 := cv w7.drew (below_drew (Below.refl _ _))
  clear cv
  go_wp2_with (go_at_call 11; refine (al_steps H7.out).mono ?_; rw [eA7]; rintro e w8 ⟨rfl, hw⟩; obtain rfl := hw.symm; clear hw)
  go_ret
  exact ⟨rfl, H7.out.bl⟩
end Go.Proofs.Ytkhopknpadncdaa
end
