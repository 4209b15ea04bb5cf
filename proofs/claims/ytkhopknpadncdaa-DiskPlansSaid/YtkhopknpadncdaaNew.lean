/- disk.New, Plan. -/
import Derived.Test.YtkhopknpadncdaaAll
import Derived.Carry
namespace Go.Proofs.Ytkhopknpadncdaa
open Go Go.RowKit Go.Maps Go.Proofs.YtkhopknpadncdaaW.PrintWords Go.Proofs.Ytkhopknpadncdaa.PDiskMemory Go.Proofs.YtkhopknpadncdaaW.PrintMore
set_option linter.unusedVariables false
attribute [local go_sem] max2_int min2_int max_two min_two max_three min_three

def newD (room : Int) : Dk := ⟨[], min (max room 0) 16777216, [], 0, false⟩
theorem newD_ok (room : Int) : (newD room).ok 0 := by
  refine ⟨fun p hp => (nomatch hp), ?_, ?_, Nat.zero_le _, Int.le_refl _, Int.le_refl _⟩
  · show 0 ≤ min (max room 0) 16777216
    omega
  · show min (max room 0) 16777216 ≤ 16777216
    omega
/-- A call that makes a disk. -/
def MadeP (w : World) (k : Dk) (N : Nat) (e : Ending) (w' : World) : Prop := ∃ d S, e = .returned (.pointer (some ⟨d, 0, none⟩)) ∧ Disk w' d S k N ∧ (∀ b, S b → w.heap.size ≤ b) ∧ Below w.heap.size w w'
theorem new_disk (w : World) (room r : Int) (hr : r = min (max room 0) 16777216) : MadeP w (newD room) 0 (.returned (.pointer (some ⟨w.heap.size + 1, 0, none⟩))) ((w.alloc (.map #[] 0)).alloc (.cells #[.map (some w.heap.size), .int .i64 r, .slice none 0 0, .int .i64 0, .bool false] 77)) := by
  have hs : ((w.alloc (.map #[] 0)).alloc (.cells #[.map (some w.heap.size), .int .i64 r, .slice none 0 0, .int .i64 0, .bool false] 77)).heap.size = w.heap.size + 2 := by simp
  have hb : Below w.heap.size w ((w.alloc (.map #[] 0)).alloc (.cells #[.map (some w.heap.size), .int .i64 r, .slice none 0 0, .int .i64 0, .bool false] 77)) := ((Below.refl w.heap.size w).alloc (Nat.le_refl _) _).alloc (by simp) _
  have hc := heap_alloc_new (w.alloc (.map #[] 0)) (.cells #[.map (some w.heap.size), .int .i64 r, .slice none 0 0, .int .i64 0, .bool false] 77)
  rw [World.size_alloc] at hc
  obtain ⟨O, hO⟩ : ∃ O : Nat → Own, O = fun b => if b = w.heap.size + 1 then .disk else if b = w.heap.size then .map else .none := ⟨_, rfl⟩
  have hO2 : ∀ b, O b ≠ .none → b = w.heap.size + 1 ∨ b = w.heap.size := fun b h => by
    rw [hO] at h
    simp only at h
    by_cases h1 : b = w.heap.size + 1
    · exact .inl h1
    · by_cases h2 : b = w.heap.size
      · exact .inr h2
      · rw [if_neg h1, if_neg h2] at h; exact absurd rfl h
  refine ⟨w.heap.size + 1, fun b => O b ≠ .none, rfl, ⟨w.heap.size, O, .slice none 0 0, [], ⟨?_, ?_, ?_, ?_, Kd.R_nil _ _ _ _ _, rfl, fun x p f hz => (nomatch hz), fun b h => ?_, newD_ok room⟩, fun b => Iff.rfl⟩, fun b h => ?_, hb⟩
  · rw [hc, hr]; rfl
  · rw [hO]; simp
  · rw [hO]; simp
  · exact (ML.made w).kept (Below.heap_alloc _ _ _ (by simp))
  · rw [hs]
    rcases hO2 b h with h | h <;> omega
  · rcases hO2 b h with h | h <;> omega
set_option maxRecDepth 100000 in
theorem new_any (w : World) (room : Int) : Calls Try.prog 8 #[.int .i64 room] w (MadeP w (newD room) 0) := by
  have hmm := @run_makeMap Try.prog
  have HN := Lib.hid (new_disk w room)
  by_cases h1 : room < 0
  · have hr : (0 : Int) = min (max room 0) 16777216 := by omega
    have HE := Lib.hid (HN.out 0 hr)
    clear hr HN
    go_enter Try.func8, Try.ntmps8
    go_wp2_with fail
    go_ret
    exact HE.out
  · by_cases h2 : 16777216 < room
    · have hr : (16777216 : Int) = min (max room 0) 16777216 := by omega
      have HE := Lib.hid (HN.out 16777216 hr)
      clear hr HN
      go_enter Try.func8, Try.ntmps8
      go_wp2_with fail
      go_ret
      exact HE.out
    · have hr : room = min (max room 0) 16777216 := by omega
      have HE := Lib.hid (HN.out room hr)
      clear hr HN
      go_enter Try.func8, Try.ntmps8
      go_wp2_with fail
      go_ret
      exact HE.out

def planD (k : Dk) (p : List Fat) : Dk := { k with plan := p }
theorem plan_end {w w1 : World} {d m N : Nat} {O : Nat → Own} {S : Nat → Prop} {k : Dk} {pv v : Value} {Z : List (Nm × (Nat × Fil))} {p : List Fat} (h : DA w d m O k N pv Z) (hS : ∀ b, S b ↔ O b ≠ .none) (hr : kFat.R 26 w1 0 (fun b => w.heap.size ≤ b) v p) (hb : Below w.heap.size w w1) :
    QPost S d N w (planD k p) (.returned (.tuple #[])) (w1.setCell ⟨d, 2, none⟩ v) := by
  have hdl := h.lt d (by rw [h.od]; exact Own.noConfusion)
  have hn := h.below hb
  have hml := h.mp.lt
  obtain ⟨O', hO'⟩ : ∃ O', O' = paint O w.heap.size w1.heap.size .plan := ⟨_, rfl⟩
  have hold : ∀ b, b < w.heap.size → O' b = O b := fun b hb => by rw [hO']; exact paint_old hb
  have hs : (w1.setCell ⟨d, 2, none⟩ v).heap.size = w1.heap.size := set_size _ _ _
  have hb1 : ∀ b, b ≠ d → (w1.setCell ⟨d, 2, none⟩ v).heap[b]? = w1.heap[b]? := fun b hb => set_block w1 ⟨d, 2, none⟩ v hb
  have hod : O' d = .disk := (hold d hdl).trans h.od
  have hom : O' m = .map := (hold m hml).trans h.om
  have hmd : m ≠ d := fun e => by rw [e, hod] at hom; cases hom
  have hp1 : kFat.R 26 w1 0 (fun b => O' b = .plan) v p := Kd.R_mono (Kd.R_bound hr) (fun b hb => by rw [hO']; exact paint_new hb.1 hb.2.2.1)
  refine ⟨fun b => O' b ≠ .none, rfl, ⟨m, O', v, Z, ⟨blk_put hn.blk 2 v rfl, hod, hom, hn.mp.kept (hb1 m hmd), Kd.R_step hp1 (fun b hob _ => hb1 b (fun e => by rw [e, hod] at hob; cases hob)), h.files, fun x q f hz => ?_, fun b hob => ?_, h.ok⟩, fun b => Iff.rfl⟩, ?_, fun b hb => ?_⟩
  · obtain ⟨sv, nv, cv, hf⟩ := h.file x q f hz
    refine ⟨sv, nv, cv, ((hf.own_ (O' := O') hold).below hb).step (fun b _ hob => hb1 b (fun e => by rw [e, hod] at hob; rcases hob with hob | hob | hob | hob <;> cases hob))⟩
  · rw [hs]
    by_cases hl : b < w.heap.size
    · exact Nat.lt_of_lt_of_le hl hb.size
    · rw [hO'] at hob
      unfold paint at hob
      by_cases hc : w.heap.size ≤ b ∧ b < w1.heap.size
      · exact hc.2
      · rw [if_neg hc] at hob
        have := h.lt b hob
        omega
  · exact (Tch.of_below hb).trans (Tch.set _ ⟨d, 2, none⟩ _ ((hS d).2 (by rw [h.od]; exact Own.noConfusion)))
  · by_cases hl : b < w.heap.size
    · left
      rw [hS b, ← hold b hl]
      exact hb
    · right
      omega
set_option maxRecDepth 100000 in
theorem plan_any (w : World) (d N : Nat) (S : Nat → Prop) (k : Dk) (A : Option Addr) (n c : Nat) (p : List Fat) (h : Disk w d S k N) (hC : kFat.C w A n p) (hl : n * 24 ≤ 140737488355328) :
    Calls Try.prog 9 #[.pointer (some ⟨d, 0, none⟩), .slice A n c] w (QPost S d N w (planD k p)) := by
  obtain ⟨m, O, pv, Z, h, hS⟩ := h
  have H := Lib.hid h
  have HS := Lib.hid hS
  have HC := Lib.hid (clone_fates A n c p w hC hl)
  clear h hS hC hl
  go_enter Try.func9, Try.ntmps9
  go_wp2_with (go_at_call 41; refine HC.out.mono ?_; rintro r w1 ⟨v, rfl, hv, hb⟩; obtain ⟨N5, B5, q5, rfl⟩ : ∃ n A q, v = .slice A n q := (by obtain ⟨A_, q_, e_⟩ := Kd.R_slice hv; exact ⟨_, A_, q_, e_⟩); have HE := Lib.hid (plan_end H.out HS.out hv hb); obtain ⟨⟨c0, c1, c2, c3, c4⟩, hdl⟩ := (H.out.below hb).cells; have f2 := (H.out.below hb).free 2; clear hv hb)
  go_end0
  exact HE.out
end Go.Proofs.Ytkhopknpadncdaa
