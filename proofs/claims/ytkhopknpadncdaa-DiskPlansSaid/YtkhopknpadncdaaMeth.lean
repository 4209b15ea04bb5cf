/- PRINTED by gen_meth.py: Create, Append, Cut, Sync, Remove: each is a step. -/
import Derived.Test.YtkhopknpadncdaaApp2
import Derived.Test.YtkhopknpadncdaaEnter
namespace Go.Proofs.Ytkhopknpadncdaa
open Go Go.RowKit Go.Maps Go.Proofs.YtkhopknpadncdaaW.PrintWords Go.Proofs.Ytkhopknpadncdaa.PDiskMemory Go.Proofs.YtkhopknpadncdaaW.PrintMore
set_option linter.unusedVariables false

theorem box_new (w : World) (v : Value) (T : TypeId) : Box (w.alloc (.cells #[v] T)) w.heap.size v := (blk_cell (heap_alloc_new w _) 0).trans rfl
theorem Box.later {w w' : World} {b : Nat} {v : Value} {S : Nat → Prop} (h : Box w b v) (ht : Tch S w w') (hb : ¬ S b) : Box w' b v := (ht.cell (a := ⟨b, 0, none⟩) h.lt hb).trans h
theorem Box.below {w w' : World} {b : Nat} {v : Value} (h : Box w b v) (hb : Below w.heap.size w w') : Box w' b v := (hb.cell (p := ⟨b, 0, none⟩) h.lt).trans h
theorem Dk.ok.chs {k : Dk} {N : Nat} (h : k.ok N) : ∀ p ∈ (inc k).files, p.2.chs.length + 1 ≤ N + 1 := fun p hp => Nat.succ_le_succ (h.1 p hp).2.1
set_option maxRecDepth 100000 in
theorem nothing_any (n : Int) (w : World) : Calls Try.prog 60 #[.int .i64 n] w fun e w' => e = .returned (.tuple #[]) ∧ w' = w := by
  go_enter Try.func60, Try.ntmps60
  go_wp2
  go_end0
  exact ⟨rfl, rfl⟩
theorem nothing_q {d N : Nat} {S : Nat → Prop} {k : Dk} {W : World} (n : Int) (h : Disk W d S k N) : Calls Try.prog 60 #[.int .i64 n] W (QPost S d N W k) :=
  (nothing_any n W).mono fun e w' ⟨he, hw⟩ => by subst hw; exact ⟨S, he, h, Tch.refl _ _, fun b hb => .inl hb⟩

set_option maxRecDepth 100000 in
theorem create1_any (w : World) (d N : Nat) (S : Nat → Prop) (k : Dk) (s : ByteArray) (bd bn : Nat) (h : Disk w d S k N) (hs : s.size ≤ maxLen) (x1 : Box w bd (.pointer (some ⟨d, 0, none⟩))) (x2 : Box w bn (.string s)) :
    Calls Try.prog 59 #[.pointer (some ⟨bd, 0, none⟩), .pointer (some ⟨bn, 0, none⟩)] w (SPost S d N w (createD s.data.toList k)) := by
  have HE := Lib.hid (enter_any w d N S k s none 0 0 [] h hs (fun W _ => Kd.C_nil _ W) (fun b hb => by cases hb) (by decide))
  unfold Box at x1 x2
  clear h
  go_enter Try.func59, Try.ntmps59
  go_wp2_with (go_at_call 47; refine HE.out.mono ?_; rintro e w2 ⟨S', rfl, hD2, hT2, hS2⟩)
  go_ret
  exact ⟨S', rfl, hD2, hT2, hS2⟩

set_option maxRecDepth 100000 in
set_option maxHeartbeats 1000000 in
theorem create_any (w : World) (d N : Nat) (S : Nat → Prop) (k : Dk) (s : ByteArray) (h : Disk w d S k N) (hN : N < 1000000000000) (hs : s.size ≤ maxLen) :
    Calls Try.prog 28 #[.pointer (some ⟨d, 0, none⟩), .string s] w (SPost S d (N + 1) w (stepD (createD s.data.toList) (fun k _ => k) k)) := by
  have HD := Lib.hid h
  obtain ⟨W0, hW0⟩ : ∃ W0, W0 = ((w.alloc (.cells #[.pointer (some ⟨d, 0, none⟩)] 23)).alloc (.cells #[.string s] 9)) := ⟨_, rfl⟩
  have hB : Below w.heap.size w W0 := by
    rw [hW0]
    exact ((Below.refl _ _).alloc (Nat.le_refl _) _).alloc (by simp) _
  have s1 : (w.alloc (.cells #[.pointer (some ⟨d, 0, none⟩)] 23)).heap.size = w.heap.size + 1 := World.size_alloc _ _
  have x1 : Box W0 w.heap.size (.pointer (some ⟨d, 0, none⟩)) := by
    rw [hW0]
    exact (box_new w _ _).below ((Below.refl _ _).alloc (Nat.le_refl _) _)
  have x2 : Box W0 (w.heap.size + 1) (.string s) := by
    rw [hW0, ← s1]
    exact (box_new _ _ _)
  have hlt : ∀ j, w.heap.size ≤ j → ¬ S j := fun j hj hS => by have := h.lt hS; omega
  have hok := h.okk
  have HD0 := h.below hB
  have HST := Lib.hid (step_any W0 d N S k HD0 (Nat.le_of_lt hN) 59 60 #[.pointer (some ⟨w.heap.size, 0, none⟩), .pointer (some ⟨w.heap.size + 1, 0, none⟩)] #[] (fun args w => by kernel_rfl) (fun args w => by kernel_rfl) (createD s.data.toList) (fun k _ => k)
    (fun W hT hD => create1_any W d (N + 1) S (inc k) s _ _ hD hs (x1.later hT (hlt _ (Nat.le_refl _))) (x2.later hT (hlt _ (by omega))))
    (fun W n hn hT hD => nothing_q n hD))
  have HB := Lib.hid hB
  have HX1 := Lib.hid x1
  rw [hW0] at HX1 HST HB
  clear hB x1 x2 hlt hok HD0 h s1 hW0
  go_enter Try.func28, Try.ntmps28
  go_wp2_with (go_at_call 42; refine HST.out.mono ?_; rintro e w2 ⟨S', rfl, hD2, hT2, hS2⟩)
  go_ret
  exact ⟨S', rfl, hD2, (Tch.of_below HB.out).trans hT2, fun b hb => (hS2 b hb).imp_right (fun h => Nat.le_trans HB.out.size h)⟩

set_option maxRecDepth 100000 in
set_option maxHeartbeats 1000000 in
theorem append_any (w : World) (d N : Nat) (S : Nat → Prop) (k : Dk) (s : ByteArray) (A : Option Addr) (n c : Nat) (b : List Int) (h : Disk w d S k N) (hN : N < 1000000000000) (hs : s.size ≤ maxLen) (hC : ∀ W, Tch S w W → (Kd.int .u8).C W A n b) (hb : Byt b) (hbl : n ≤ big) (hnc : n ≤ c) :
    Calls Try.prog 10 #[.pointer (some ⟨d, 0, none⟩), .string s, (.slice A n c)] w (SPost S d (N + 1) w (stepD (appendD b s.data.toList) (partD b s.data.toList) k)) := by
  have HD := Lib.hid h
  obtain ⟨W0, hW0⟩ : ∃ W0, W0 = (((w.alloc (.cells #[.pointer (some ⟨d, 0, none⟩)] 23)).alloc (.cells #[.string s] 9)).alloc (.cells #[(.slice A n c)] 34)) := ⟨_, rfl⟩
  have hB : Below w.heap.size w W0 := by
    rw [hW0]
    exact (((Below.refl _ _).alloc (Nat.le_refl _) _).alloc (by simp) _).alloc (by simp; omega) _
  have s1 : (w.alloc (.cells #[.pointer (some ⟨d, 0, none⟩)] 23)).heap.size = w.heap.size + 1 := World.size_alloc _ _
  have x1 : Box W0 w.heap.size (.pointer (some ⟨d, 0, none⟩)) := by
    rw [hW0]
    exact Box.below ((box_new w _ _).below ((Below.refl _ _).alloc (Nat.le_refl _) _)) ((Below.refl _ _).alloc (Nat.le_refl _) _)
  have x2 : Box W0 (w.heap.size + 1) (.string s) := by
    rw [hW0, ← s1]
    exact Box.below ((box_new _ _ _)) ((Below.refl _ _).alloc (Nat.le_refl _) _)
  have s2 : ((w.alloc (.cells #[.pointer (some ⟨d, 0, none⟩)] 23)).alloc (.cells #[.string s] 9)).heap.size = w.heap.size + 2 := by rw [World.size_alloc, s1]
  have x3 : Box W0 (w.heap.size + 2) ((.slice A n c)) := by
    rw [hW0, ← s2]
    exact box_new _ _ _
  have hlt : ∀ j, w.heap.size ≤ j → ¬ S j := fun j hj hS => by have := h.lt hS; omega
  have hok := h.okk
  have HD0 := h.below hB
  have HST := Lib.hid (step_any W0 d N S k HD0 (Nat.le_of_lt hN) 43 46 #[.pointer (some ⟨w.heap.size, 0, none⟩), .pointer (some ⟨w.heap.size + 1, 0, none⟩), .pointer (some ⟨w.heap.size + 2, 0, none⟩)] #[.pointer (some ⟨w.heap.size, 0, none⟩), .pointer (some ⟨w.heap.size + 1, 0, none⟩), .pointer (some ⟨w.heap.size + 2, 0, none⟩)] (fun args w => by kernel_rfl) (fun args w => by kernel_rfl) (appendD b s.data.toList) (partD b s.data.toList)
    (fun W hT hD => append1_any W d (N + 1) S (inc k) s A n c b _ _ _ hD hok.chs (by omega) hs (x1.later hT (hlt _ (Nat.le_refl _))) (x2.later hT (hlt _ (by omega))) (x3.later hT (hlt _ (by omega))) (fun W' hT' => hC W' (((Tch.of_below hB).trans hT).trans hT')) hb hbl)
    (fun W u hu hT hD => append2_any W d (N + 1) S (inc k) s A n c b _ _ _ hD hok.chs (by omega) hs (x1.later hT (hlt _ (Nat.le_refl _))) (x2.later hT (hlt _ (by omega))) (x3.later hT (hlt _ (by omega))) (fun W' hT' => hC W' (((Tch.of_below hB).trans hT).trans hT')) hb hbl hnc ⟨hlt _ (Nat.le_refl _), hlt _ (by omega)⟩ u hu))
  have HB := Lib.hid hB
  have HX1 := Lib.hid x1
  rw [hW0] at HX1 HST HB
  clear hB x1 x2 hlt hok HD0 h s1 hW0 x3 s2 hC
  go_enter Try.func10, Try.ntmps10
  go_wp2_with (go_at_call 42; refine HST.out.mono ?_; rintro e w2 ⟨S', rfl, hD2, hT2, hS2⟩)
  go_ret
  exact ⟨S', rfl, hD2, (Tch.of_below HB.out).trans hT2, fun b hb => (hS2 b hb).imp_right (fun h => Nat.le_trans HB.out.size h)⟩

set_option maxRecDepth 100000 in
set_option maxHeartbeats 1000000 in
theorem cut_any (w : World) (d N : Nat) (S : Nat → Prop) (k : Dk) (s : ByteArray) (u : Int) (h : Disk w d S k N) (hN : N < 1000000000000) (hs : s.size ≤ maxLen) :
    Calls Try.prog 32 #[.pointer (some ⟨d, 0, none⟩), .string s, (.int .i64 u)] w (SPost S d (N + 1) w (stepD (cutD u s.data.toList) (fun k _ => k) k)) := by
  have HD := Lib.hid h
  obtain ⟨W0, hW0⟩ : ∃ W0, W0 = (((w.alloc (.cells #[.pointer (some ⟨d, 0, none⟩)] 23)).alloc (.cells #[.string s] 9)).alloc (.cells #[(.int .i64 u)] 3)) := ⟨_, rfl⟩
  have hB : Below w.heap.size w W0 := by
    rw [hW0]
    exact (((Below.refl _ _).alloc (Nat.le_refl _) _).alloc (by simp) _).alloc (by simp; omega) _
  have s1 : (w.alloc (.cells #[.pointer (some ⟨d, 0, none⟩)] 23)).heap.size = w.heap.size + 1 := World.size_alloc _ _
  have x1 : Box W0 w.heap.size (.pointer (some ⟨d, 0, none⟩)) := by
    rw [hW0]
    exact Box.below ((box_new w _ _).below ((Below.refl _ _).alloc (Nat.le_refl _) _)) ((Below.refl _ _).alloc (Nat.le_refl _) _)
  have x2 : Box W0 (w.heap.size + 1) (.string s) := by
    rw [hW0, ← s1]
    exact Box.below ((box_new _ _ _)) ((Below.refl _ _).alloc (Nat.le_refl _) _)
  have s2 : ((w.alloc (.cells #[.pointer (some ⟨d, 0, none⟩)] 23)).alloc (.cells #[.string s] 9)).heap.size = w.heap.size + 2 := by rw [World.size_alloc, s1]
  have x3 : Box W0 (w.heap.size + 2) ((.int .i64 u)) := by
    rw [hW0, ← s2]
    exact box_new _ _ _
  have hlt : ∀ j, w.heap.size ≤ j → ¬ S j := fun j hj hS => by have := h.lt hS; omega
  have hok := h.okk
  have HD0 := h.below hB
  have HST := Lib.hid (step_any W0 d N S k HD0 (Nat.le_of_lt hN) 62 60 #[.pointer (some ⟨w.heap.size, 0, none⟩), .pointer (some ⟨w.heap.size + 1, 0, none⟩), .pointer (some ⟨w.heap.size + 2, 0, none⟩)] #[] (fun args w => by kernel_rfl) (fun args w => by kernel_rfl) (cutD u s.data.toList) (fun k _ => k)
    (fun W hT hD => cut1_any W d (N + 1) S (inc k) s u _ _ _ hD hok.chs (by omega) hs (x1.later hT (hlt _ (Nat.le_refl _))) (x2.later hT (hlt _ (by omega))) (x3.later hT (hlt _ (by omega))) (hlt _ (by omega)))
    (fun W n hn hT hD => nothing_q n hD))
  have HB := Lib.hid hB
  have HX1 := Lib.hid x1
  rw [hW0] at HX1 HST HB
  clear hB x1 x2 hlt hok HD0 h s1 hW0 x3 s2
  go_enter Try.func32, Try.ntmps32
  go_wp2_with (go_at_call 42; refine HST.out.mono ?_; rintro e w2 ⟨S', rfl, hD2, hT2, hS2⟩)
  go_ret
  exact ⟨S', rfl, hD2, (Tch.of_below HB.out).trans hT2, fun b hb => (hS2 b hb).imp_right (fun h => Nat.le_trans HB.out.size h)⟩

set_option maxRecDepth 100000 in
set_option maxHeartbeats 1000000 in
theorem sync_any (w : World) (d N : Nat) (S : Nat → Prop) (k : Dk) (s : ByteArray) (h : Disk w d S k N) (hN : N < 1000000000000) (hs : s.size ≤ maxLen) :
    Calls Try.prog 30 #[.pointer (some ⟨d, 0, none⟩), .string s] w (SPost S d (N + 1) w (stepD (syncD s.data.toList) (fun k _ => k) k)) := by
  have HD := Lib.hid h
  obtain ⟨W0, hW0⟩ : ∃ W0, W0 = ((w.alloc (.cells #[.pointer (some ⟨d, 0, none⟩)] 23)).alloc (.cells #[.string s] 9)) := ⟨_, rfl⟩
  have hB : Below w.heap.size w W0 := by
    rw [hW0]
    exact ((Below.refl _ _).alloc (Nat.le_refl _) _).alloc (by simp) _
  have s1 : (w.alloc (.cells #[.pointer (some ⟨d, 0, none⟩)] 23)).heap.size = w.heap.size + 1 := World.size_alloc _ _
  have x1 : Box W0 w.heap.size (.pointer (some ⟨d, 0, none⟩)) := by
    rw [hW0]
    exact (box_new w _ _).below ((Below.refl _ _).alloc (Nat.le_refl _) _)
  have x2 : Box W0 (w.heap.size + 1) (.string s) := by
    rw [hW0, ← s1]
    exact (box_new _ _ _)
  have hlt : ∀ j, w.heap.size ≤ j → ¬ S j := fun j hj hS => by have := h.lt hS; omega
  have hok := h.okk
  have HD0 := h.below hB
  have HST := Lib.hid (step_any W0 d N S k HD0 (Nat.le_of_lt hN) 61 60 #[.pointer (some ⟨w.heap.size, 0, none⟩), .pointer (some ⟨w.heap.size + 1, 0, none⟩)] #[] (fun args w => by kernel_rfl) (fun args w => by kernel_rfl) (syncD s.data.toList) (fun k _ => k)
    (fun W hT hD => sync1_any W d (N + 1) S (inc k) s _ _ hD hs (x1.later hT (hlt _ (Nat.le_refl _))) (x2.later hT (hlt _ (by omega))))
    (fun W n hn hT hD => nothing_q n hD))
  have HB := Lib.hid hB
  have HX1 := Lib.hid x1
  rw [hW0] at HX1 HST HB
  clear hB x1 x2 hlt hok HD0 h s1 hW0
  go_enter Try.func30, Try.ntmps30
  go_wp2_with (go_at_call 42; refine HST.out.mono ?_; rintro e w2 ⟨S', rfl, hD2, hT2, hS2⟩)
  go_ret
  exact ⟨S', rfl, hD2, (Tch.of_below HB.out).trans hT2, fun b hb => (hS2 b hb).imp_right (fun h => Nat.le_trans HB.out.size h)⟩

set_option maxRecDepth 100000 in
set_option maxHeartbeats 1000000 in
theorem remove_any (w : World) (d N : Nat) (S : Nat → Prop) (k : Dk) (s : ByteArray) (h : Disk w d S k N) (hN : N < 1000000000000) (hs : s.size ≤ maxLen) :
    Calls Try.prog 66 #[.pointer (some ⟨d, 0, none⟩), .string s] w (SPost S d (N + 1) w (stepD (removeD s.data.toList) (fun k _ => k) k)) := by
  have HD := Lib.hid h
  obtain ⟨W0, hW0⟩ : ∃ W0, W0 = ((w.alloc (.cells #[.pointer (some ⟨d, 0, none⟩)] 23)).alloc (.cells #[.string s] 9)) := ⟨_, rfl⟩
  have hB : Below w.heap.size w W0 := by
    rw [hW0]
    exact ((Below.refl _ _).alloc (Nat.le_refl _) _).alloc (by simp) _
  have s1 : (w.alloc (.cells #[.pointer (some ⟨d, 0, none⟩)] 23)).heap.size = w.heap.size + 1 := World.size_alloc _ _
  have x1 : Box W0 w.heap.size (.pointer (some ⟨d, 0, none⟩)) := by
    rw [hW0]
    exact (box_new w _ _).below ((Below.refl _ _).alloc (Nat.le_refl _) _)
  have x2 : Box W0 (w.heap.size + 1) (.string s) := by
    rw [hW0, ← s1]
    exact (box_new _ _ _)
  have hlt : ∀ j, w.heap.size ≤ j → ¬ S j := fun j hj hS => by have := h.lt hS; omega
  have hok := h.okk
  have HD0 := h.below hB
  have HST := Lib.hid (step_any W0 d N S k HD0 (Nat.le_of_lt hN) 76 60 #[.pointer (some ⟨w.heap.size, 0, none⟩), .pointer (some ⟨w.heap.size + 1, 0, none⟩)] #[] (fun args w => by kernel_rfl) (fun args w => by kernel_rfl) (removeD s.data.toList) (fun k _ => k)
    (fun W hT hD => remove1_any W d (N + 1) S (inc k) s _ _ hD hs (x1.later hT (hlt _ (Nat.le_refl _))) (x2.later hT (hlt _ (by omega))))
    (fun W n hn hT hD => nothing_q n hD))
  have HB := Lib.hid hB
  have HX1 := Lib.hid x1
  rw [hW0] at HX1 HST HB
  clear hB x1 x2 hlt hok HD0 h s1 hW0
  go_enter Try.func66, Try.ntmps66
  go_wp2_with (go_at_call 42; refine HST.out.mono ?_; rintro e w2 ⟨S', rfl, hD2, hT2, hS2⟩)
  go_ret
  exact ⟨S', rfl, hD2, (Tch.of_below HB.out).trans hT2, fun b hb => (hS2 b hb).imp_right (fun h => Nat.le_trans HB.out.size h)⟩
end Go.Proofs.Ytkhopknpadncdaa
