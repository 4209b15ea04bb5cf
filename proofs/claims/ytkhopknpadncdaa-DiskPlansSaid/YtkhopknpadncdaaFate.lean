/- (*Disk).fate: a step more; the fate of this step. -/
import Derived.Test.YtkhopknpadncdaaC
namespace Go.Proofs.Ytkhopknpadncdaa
open Go Go.RowKit Go.Maps Go.Proofs.YtkhopknpadncdaaW.PrintWords Go.Proofs.Ytkhopknpadncdaa.PDiskMemory
set_option linter.unusedVariables false

theorem results_cell1 {fn : Func} {p : Tmp} {ty : TypeId} (h : fn.results = #[.cell p ty]) (tmps : Array Value) (P : Program) (w : World) :
    (results fn tmps).run P w = ((asAddr (tmps.getD p undef)).run P w).andThen fun a w₁ => (loadVar ty a).run P w₁ := by
  simp only [results, h]
  simp [Sem.run_bind, Result.andThen]
theorem addr_zero (g j : Nat) : (⟨g, 0, none⟩ : Addr).add j = ⟨g, j, none⟩ := by unfold Addr.add; split <;> simp_all
def Fat.val (f : Fat) : Value := .agg #[.int .i64 f.step, .int .i64 f.kind, .int .i64 f.n]
theorem DA.cells {w : World} {d m : Nat} {O : Nat → Own} {k : Dk} {N : Nat} {pv : Value} {Z : List (Nm × (Nat × Fil))} (h : DA w d m O k N pv Z) :
    (w.cell? ⟨d, 0, none⟩ = some (.map (some m)) ∧ w.cell? ⟨d, 1, none⟩ = some (.int .i64 k.room) ∧ w.cell? ⟨d, 2, none⟩ = some pv ∧ w.cell? ⟨d, 3, none⟩ = some (.int .i64 k.steps) ∧ w.cell? ⟨d, 4, none⟩ = some (.bool k.off)) ∧ d < w.heap.size :=
  ⟨⟨(blk_cell h.blk 0).trans rfl, (blk_cell h.blk 1).trans rfl, (blk_cell h.blk 2).trans rfl, (blk_cell h.blk 3).trans rfl, (blk_cell h.blk 4).trans rfl⟩, blk_lt h.blk⟩
theorem DA.free {w : World} {d m : Nat} {O : Nat → Own} {k : Dk} {N : Nat} {pv : Value} {Z : List (Nm × (Nat × Fil))} (h : DA w d m O k N pv Z) (j : Nat) : w.frozen? ⟨d, j, none⟩ = false := blk_frozen h.blk j
/-- A field of the disk's own block is written. -/
theorem DA.put {w : World} {d m : Nat} {O : Nat → Own} {k k' : Dk} {N N' : Nat} {pv : Value} {Z : List (Nm × (Nat × Fil))} (h : DA w d m O k N pv Z) (j : Nat) (v : Value)
    (hv : (#[Value.map (some m), .int .i64 k.room, pv, .int .i64 k.steps, .bool k.off]).setIfInBounds j v = #[.map (some m), .int .i64 k'.room, pv, .int .i64 k'.steps, .bool k'.off]) (hf : k'.files = k.files) (hp : k'.plan = k.plan) (ho : k'.ok N') (hN : N ≤ N') :
    DA (w.setCell ⟨d, j, none⟩ v) d m O k' N' pv Z := by
  have hs : (w.setCell ⟨d, j, none⟩ v).heap.size = w.heap.size := by simp [World.setCell]
  have hb : ∀ b, b ≠ d → (w.setCell ⟨d, j, none⟩ v).heap[b]? = w.heap[b]? := fun b hb => Below.heap_setCell w ⟨d, j, none⟩ v b hb
  refine ⟨?_, h.od, h.om, h.mp.kept (hb m (fun e => by have h1 := h.om; rw [e, h.od] at h1; cases h1)), by rw [hp]; exact Kd.R_step h.plan (fun b hob _ => hb b (fun e => by rw [e, h.od] at hob; cases hob)), by rw [hf]; exact h.files, fun x p f hz => (h.file x p f hz).step (fun b _ hob => hb b (fun e => by rw [e, h.od] at hob; rcases hob with hob | hob | hob | hob <;> cases hob)), fun b hob => by rw [hs]; exact h.lt b hob, ho⟩
  exact blk_put h.blk j v hv
theorem Dk.ok.mono {k : Dk} {N N' : Nat} (h : k.ok N) (hN : N ≤ N') : k.ok N' := ⟨fun p hp => ⟨(h.1 p hp).1, Nat.le_trans (h.1 p hp).2.1 hN, (h.1 p hp).2.2⟩, h.2.1, h.2.2.1, h.2.2.2.1, h.2.2.2.2.1, by have := h.2.2.2.2.2; omega⟩
theorem Dk.ok.step {k : Dk} {N : Nat} (h : k.ok N) : Dk.ok { k with steps := k.steps + 1 } (N + 1) := ⟨fun p hp => ⟨(h.1 p hp).1, Nat.le_succ_of_le (h.1 p hp).2.1, (h.1 p hp).2.2⟩, h.2.1, h.2.2.1, h.2.2.2.1, by have := h.2.2.2.2.1; show 0 ≤ k.steps + 1; omega, by have := h.2.2.2.2.2; show k.steps + 1 ≤ ((N + 1 : Nat) : Int); omega⟩
theorem Dk.ok.turn {k : Dk} {N : Nat} (h : k.ok N) (b : Bool) : Dk.ok { k with off := b } N := h

/-- A fate of the plan, read. -/
theorem plan_at {w : World} {ok : Nat → Prop} {A : Option Addr} {n c i : Nat} {L : List Fat} {f : Fat} (h : kFat.R 26 w 0 ok (.slice A n c) L) (hf : L[i]? = some f) :
    ∃ g, A = some ⟨g, 0, none⟩ ∧ ok g ∧ g < w.heap.size ∧ w.cell? ⟨g, i * 3, none⟩ = some (.int .i64 f.step) ∧ w.cell? ⟨g, i * 3 + 1, none⟩ = some (.int .i64 f.kind) ∧ w.cell? ⟨g, i * 3 + 2, none⟩ = some (.int .i64 f.n) := by
  have hn := (Kd.R_reads' h).1
  have hi := (List.getElem?_eq_some_iff.1 hf).1
  obtain ⟨g, cap, e, _⟩ := Kd.R_form h (by omega)
  injection e with e1 e2 e3
  subst e1
  obtain ⟨c', hcl, hM, hcc⟩ := Kd.R_getA h z (i : Int) (by omega) (by omega)
  rw [Int.toNat_natCast] at hM hcc
  rw [List.getD_eq_getElem?_getD, hf, Option.getD_some] at hM
  obtain ⟨c0, c1, e, h0, c2, c3, e2, h2, h3⟩ := hM
  have h0' : c0 = [Value.int .i64 f.step] := h0
  have h2' : c2 = [Value.int .i64 f.kind] := h2
  have h3' : c3 = [Value.int .i64 f.n] := h3
  subst h0' h2' h3' e2 e
  have e0 : ∀ j, (⟨g, 0, none⟩ : Addr).add (i * kFat.sz + j) = ⟨g, i * 3 + j, none⟩ := fun j => by rw [addr_zero]; rfl
  exact ⟨g, rfl, h.1 g (by simp [Value.ownBlock]), (by have := World.block_lt_of_cell? w _ (hcc 0 _ rfl); rwa [e0] at this), by have := hcc 0 _ rfl; rw [e0] at this; exact this, by have := hcc 1 _ rfl; rw [e0] at this; exact this, by have := hcc 2 _ rfl; rw [e0] at this; exact this⟩

theorem DA.below {w w' : World} {d m : Nat} {O : Nat → Own} {k : Dk} {N : Nat} {pv : Value} {Z : List (Nm × (Nat × Fil))} (h : DA w d m O k N pv Z) (hb : Below w.heap.size w w') : DA w' d m O k N pv Z := h.step hb.size (fun b hl _ => hb.block b hl)
theorem DA.new {w : World} {d m : Nat} {O : Nat → Own} {k : Dk} {N : Nat} {pv : Value} {Z : List (Nm × (Nat × Fil))} (h : DA w d m O k N pv Z) {b : Nat} (hb : w.heap.size ≤ b) : O b = .none := by
  cases ho : O b with
  | none => rfl
  | _ => exact absurd (h.lt b (by rw [ho]; exact Own.noConfusion)) (by omega)
/-- A store elsewhere. -/
theorem DA.far {w : World} {d m : Nat} {O : Nat → Own} {k : Dk} {N : Nat} {pv : Value} {Z : List (Nm × (Nat × Fil))} (h : DA w d m O k N pv Z) {p : Addr} (hp : O p.block = .none) (v : Value) : DA (w.setCell p v) d m O k N pv Z :=
  h.step (by simp [World.setCell]) (fun b _ ho => Below.heap_setCell w p v b (fun e => ho (by rw [e]; exact hp)))
/-- The fate that the loop is still to find. -/
theorem fate_next {L : List Fat} {i : Nat} {f : Fat} {s : Int} (hf : L[i]? = some f) : fateOf (L.drop i) s = if f.step = s then f else fateOf (L.drop (i + 1)) s := by
  have hi := (List.getElem?_eq_some_iff.1 hf)
  obtain ⟨h1, h2⟩ := hi
  rw [List.drop_eq_getElem_cons h1, h2]
  unfold fateOf
  rw [List.find?_cons]
  by_cases h : f.step = s
  · rw [if_pos h, show (f.step == s) = true by simpa using h]; rfl
  · rw [if_neg h, show (f.step == s) = false by simpa using h]
theorem fate_end (s : Int) : fateOf [] s = z := rfl

set_option maxRecDepth 100000 in
set_option maxHeartbeats 1000000 in
theorem fate_any (w : World) (d m N : Nat) (O : Nat → Own) (k : Dk) (pv : Value) (Z : List (Nm × (Nat × Fil))) (h : DA w d m O k N pv Z) (hN : N ≤ 1000000000000) :
    Calls Try.prog 67 #[.pointer (some ⟨d, 0, none⟩)] w fun e w' => e = .returned (fateOf k.plan (k.steps + 1)).val ∧ DA w' d m O { k with steps := k.steps + 1 } (N + 1) pv Z ∧ Tch (fun b => b = d) w w' := by
  obtain ⟨A, np, c, hnp, hpv⟩ : ∃ A np c, np = k.plan.length ∧ pv = .slice A np c := by
    obtain ⟨A, c, e⟩ := Kd.R_slice h.plan
    exact ⟨A, _, c, rfl, e⟩
  subst hpv
  obtain ⟨⟨c0, c1, c2, c3, c4⟩, hdl⟩ := h.cells
  have f3 := h.free 3
  have hst := h.ok.2.2.2.2
  have hpl := (Kd.R_reads' h.plan).2.2.2.1
  obtain ⟨s, hs⟩ : ∃ s, s = k.steps := ⟨_, rfl⟩
  rw [← hs] at c3 hst
  have HA := Lib.hid h
  have HS := Lib.hid hs
  have hnb : np ≤ 9223372036854775807 := by rw [hnp]; exact hpl
  have HNP := Lib.hid hnp
  have HON := Lib.hid (h.new (Nat.le_refl _))
  have HP := Lib.hid h.plan
  clear h hs hnp
  have HD1 : Hid (DA ((w.setCell ⟨d, 3, none⟩ (.int .i64 (s + 1))).alloc (.cells #[.int .i64 0, .int .i64 0, .int .i64 0] 26)) d m O { k with steps := k.steps + 1 } (N + 1) (.slice A np c) Z) :=
    (HA.out.put (k' := { k with steps := k.steps + 1 }) 3 (.int .i64 (s + 1)) (by rw [HS.out]; rfl) rfl rfl HA.out.ok.step (Nat.le_succ _)).below ((Below.refl _ _).alloc (Nat.le_refl _) _)
  have HT1 : Hid (Tch (fun b => b = d) w ((w.setCell ⟨d, 3, none⟩ (.int .i64 (s + 1))).alloc (.cells #[.int .i64 0, .int .i64 0, .int .i64 0] 26))) := (Tch.set (S := fun b => b = d) w ⟨d, 3, none⟩ _ rfl).alloc _
  have hsz : (w.setCell ⟨d, 3, none⟩ (.int .i64 (s + 1))).heap.size = w.heap.size := by simp [World.setCell]
  have HB1 : Hid (((w.setCell ⟨d, 3, none⟩ (.int .i64 (s + 1))).alloc (.cells #[.int .i64 0, .int .i64 0, .int .i64 0] 26)).heap[w.heap.size]? = some (.cells #[.int .i64 0, .int .i64 0, .int .i64 0] 26 (0, 0))) := by
    have := heap_alloc_new (w.setCell ⟨d, 3, none⟩ (.int .i64 (s + 1))) (.cells #[.int .i64 0, .int .i64 0, .int .i64 0] 26)
    rw [hsz] at this
    exact this
  have hdw : ¬ w.heap.size = d := by omega
  clear hsz
  go_enter Try.func67, Try.ntmps67
  go_wp2_with fail
  clear c0 c1 c2 c3 c4 f3
  generalize (w.setCell ⟨d, 3, none⟩ (.int .i64 (s + 1))).alloc (.cells #[.int .i64 0, .int .i64 0, .int .i64 0] 26) = W1 at HD1 HT1 HB1 ⊢
  go_loopw [4, 17] (fun _ i wr => ∃ j : Nat, j ≤ np ∧ i = .int .i64 j ∧ Hid (fateOf (k.plan.drop j) (s + 1) = fateOf k.plan (s + 1)) ∧ Hid (DA wr d m O { k with steps := k.steps + 1 } (N + 1) (.slice A np c) Z) ∧ Hid (Tch (fun b => b = d) w wr) ∧ Hid (wr.heap[w.heap.size]? = some (.cells #[.int .i64 0, .int .i64 0, .int .i64 0] 26 (0, 0)))) (fun _ i _ => np - (intOf i).toNat)
  case atStart => exact ⟨0, Nat.zero_le _, rfl, rfl, HD1.out, HT1.out, HB1.out⟩
  case round =>
    clear HD1 HT1 HB1
    obtain ⟨j, hj, rfl, HF, HD, HT, HB⟩ := hrel
    by_cases hjn : j < np
    · obtain ⟨f, hf⟩ : ∃ f, k.plan[j]? = some f := ⟨_, List.getElem?_eq_getElem (by have := HNP.out; omega)⟩
      obtain ⟨g, rfl, hog, hgl, p0, p1, p2⟩ := plan_at HD.out.plan hf
      have HNX := Lib.hid (fate_next (s := s + 1) hf)
      clear hog hf
      obtain ⟨⟨c0, c1, c2, c3, c4⟩, hdl2⟩ := HD.out.cells
      have d3 : wr.cell? ⟨d, 3, none⟩ = some (.int .i64 (s + 1)) := by rw [HS.out]; exact c3
      have b0 := (blk_cell HB.out 0).trans rfl
      have b1 := (blk_cell HB.out 1).trans rfl
      have b2 := (blk_cell HB.out 2).trans rfl
      have f0 := blk_frozen HB.out 0
      have f1 := blk_frozen HB.out 1
      have f2 := blk_frozen HB.out 2
      have hwl := blk_lt HB.out
      clear c0 c1 c2 c3 c4
      have HDa : Hid (DA (wr.alloc (.cells #[.int .i64 f.step, .int .i64 f.kind, .int .i64 f.n] 26)) d m O { k with steps := k.steps + 1 } (N + 1) (.slice (some ⟨g, 0, none⟩) np c) Z) := HD.out.below ((Below.refl _ _).alloc (Nat.le_refl _) _)
      have HTa : Hid (Tch (fun b => b = d) w (wr.alloc (.cells #[.int .i64 f.step, .int .i64 f.kind, .int .i64 f.n] 26))) := HT.out.alloc _
      have HBa := Lib.hid (blk_alloc HB.out (.cells #[.int .i64 f.step, .int .i64 f.kind, .int .i64 f.n] 26))
      by_cases he : f.step = s + 1
      · have ee : ((f.step : Int) == s + 1) = true := by rw [beq_iff_eq]; exact he
        have HE := Lib.hid he
        clear he
        go_wp2_with fail
        go_quiet (fail)
        go_wp2_with fail
        have HE2 : Hid (fateOf k.plan (k.steps + 1) = f) := by
          have := HNX.out
          rw [if_pos HE.out] at this
          rw [← HS.out]
          exact HF.out.symm.trans this
        refine bodyPost_ret (v := f.val) ?_ rfl ⟨by rw [HE2.out], ?_, ?_⟩
        · rw [results_cell1 rfl]
          go_simp
          rfl
        · exact (((HDa.out.below (pw_below_drewN (Below.refl _ _) _)).far (p := ⟨w.heap.size, 0, none⟩) HON.out _).far (p := ⟨w.heap.size, 1, none⟩) HON.out _).far (p := ⟨w.heap.size, 2, none⟩) HON.out _
        · exact ((((HTa.out.trans (Tch.of_below (pw_below_drewN (Below.refl _ _) _))).then_ (Tch.set (S := fun b => b = w.heap.size) _ ⟨w.heap.size, 0, none⟩ _ rfl) (fun i hi => .inr (Nat.le_of_eq hi.symm))).then_ (Tch.set (S := fun b => b = w.heap.size) _ ⟨w.heap.size, 1, none⟩ _ rfl) (fun i hi => .inr (Nat.le_of_eq hi.symm))).then_ (Tch.set (S := fun b => b = w.heap.size) _ ⟨w.heap.size, 2, none⟩ _ rfl) (fun i hi => .inr (Nat.le_of_eq hi.symm)))
      · have ee : ((f.step : Int) == s + 1) = false := by rw [beq_eq_false_iff_ne]; exact he
        have HE := Lib.hid he
        clear he
        go_wp2_with fail
        go_quiet (fail)
        go_wp2_with fail
        go_roundw
        case rel => exact ⟨j + 1, by omega, by go_num, by have := HNX.out; rw [if_neg HE.out] at this; rw [← this]; exact HF.out, HDa.out.below (pw_below_drewN (Below.refl _ _) _), HTa.out.trans (Tch.of_below (pw_below_drewN (Below.refl _ _) _)), HBa.out⟩
        case measure => simp [intOf]; omega
    · obtain rfl : j = np := by omega
      have HZ : Hid (z.val = (fateOf k.plan (s + 1)).val) := by
        have := HF.out
        rw [List.drop_of_length_le (by have := HNP.out; omega), fate_end] at this
        exact congrArg Fat.val this
      obtain ⟨⟨c0, c1, c2, c3, c4⟩, hdl2⟩ := HD.out.cells
      have b0 := (blk_cell HB.out 0).trans rfl
      have b1 := (blk_cell HB.out 1).trans rfl
      have b2 := (blk_cell HB.out 2).trans rfl
      have f0 := blk_frozen HB.out 0
      have f1 := blk_frozen HB.out 1
      have f2 := blk_frozen HB.out 2
      have hwl := blk_lt HB.out
      clear c0 c1 c2 c3 c4
      go_wp2_with fail
      refine bodyPost_ret (v := z.val) ?_ rfl ⟨by rw [HZ.out, HS.out], ?_, ?_⟩
      · rw [results_cell1 rfl]
        go_simp
        rfl
      · exact ((HD.out.far (p := ⟨w.heap.size, 0, none⟩) HON.out _).far (p := ⟨w.heap.size, 1, none⟩) HON.out _).far (p := ⟨w.heap.size, 2, none⟩) HON.out _
      · exact (((HT.out.then_ (Tch.set (S := fun b => b = w.heap.size) _ ⟨w.heap.size, 0, none⟩ _ rfl) (fun i hi => .inr (Nat.le_of_eq hi.symm))).then_ (Tch.set (S := fun b => b = w.heap.size) _ ⟨w.heap.size, 1, none⟩ _ rfl) (fun i hi => .inr (Nat.le_of_eq hi.symm))).then_ (Tch.set (S := fun b => b = w.heap.size) _ ⟨w.heap.size, 2, none⟩ _ rfl) (fun i hi => .inr (Nat.le_of_eq hi.symm)))
end Go.Proofs.Ytkhopknpadncdaa
