/- Remove's function: what a step of it does. -/
import Derived.Test.YtkhopknpadncdaaSync1
namespace Go.Proofs.Ytkhopknpadncdaa
open Go Go.RowKit Go.Maps Go.Proofs.YtkhopknpadncdaaW.PrintWords Go.Proofs.Ytkhopknpadncdaa.PDiskMemory Go.Proofs.YtkhopknpadncdaaW.PrintMore
set_option linter.unusedVariables false
/-- 'delete' in a region that draws. -/
theorem step_del {ops : Array Oper} {o : Oper} {a : Act} {K : Act → World → Prop} {Q : Exit → Act → World → Prop} {E : Prop} (w : World) (hg : o.guard = none) (m x : Operand) (hop : o.op = Op.call { callee := Callee.builtin Builtin.delete, args := #[m, x], argTypes := #[75, 9] })
    (b : Nat) (L : List (Nm × Nat)) (hm : a.eval m = .map (some b)) (hown : ML w b L) (s : ByteArray) (hs : s.size ≤ maxLen) (hx : a.eval x = .string s)
    (hK : ∀ w', ML w' b (del L s.data.toList) → w.grownBy w' (some b) → K (a.put o.dst (.tuple #[])) w') :
    if Region.wanted o (yielded ops a.tmps) = true then Oper.wp Try.prog o a w K Q else E := by
  rw [if_pos (by simp [Region.wanted, hg])]
  obtain ⟨w', hrun, r1, r2⟩ := hown.del_run hs o.type
  unfold Oper.wp
  simp [execOp, hop, resolve, invoke, builtin, hm, hx, hrun, Result.andThen]
  exact hK w' r1 r2
/-- A file of the disk goes. -/
theorem DA.remove {w w' : World} {d m : Nat} {O : Nat → Own} {k : Dk} {N : Nat} {pv : Value} {Z : List (Nm × (Nat × Fil))} {x : Nm} (h : DA w d m O k N pv Z) (hm : ML w' m (del (mapV (·.1) Z) x)) (hg : w.grownBy w' (some m)) :
    DA w' d m O { k with files := del k.files x } N pv (del Z x) := by
  have hb : ∀ b, b < w.heap.size → O b ≠ .map → w'.heap[b]? = w.heap[b]? := fun b hl ho => hg.block b hl (fun e => ho (by rw [← Option.some.inj e.symm]; exact h.om))
  refine ⟨(hb d (blk_lt h.blk) (by rw [h.od]; exact Own.noConfusion)).trans h.blk, h.od, h.om, by rw [mapV_del]; exact hm, Kd.R_step h.plan (fun b ho hl => hb b hl (by rw [ho]; exact Own.noConfusion)), by rw [mapV_del, ← h.files], fun y p f hy => ?_, fun b ho => Nat.lt_of_lt_of_le (h.lt b ho) hg.size, ⟨fun q hq => h.ok.1 q (mem_del.1 hq).1, h.ok.2.1, h.ok.2.2.1, ?_, h.ok.2.2.2.2⟩⟩
  · exact (h.file y p f (mem_del.1 hy).1).step (fun b hl ho => hb b hl (by rcases ho with ho | ho | ho | ho <;> rw [ho] <;> exact Own.noConfusion))
  · exact Nat.le_trans (List.length_filter_le _ _) h.ok.2.2.2.1
theorem some_m {w1 w2 : World} {m : Nat} (hg : w1.grownBy w2 (some m)) {S : Nat → Prop} (hm : S m) : Tch S w1 w2 := Tch.of_grown hg (fun k hk => by rw [← Option.some.inj hk]; exact hm)

set_option maxRecDepth 100000 in
set_option maxHeartbeats 2000000 in
theorem remove1_any (w : World) (d N : Nat) (S : Nat → Prop) (k : Dk) (s : ByteArray) (bd bn : Nat) (h : Disk w d S k N) (hs : s.size ≤ maxLen)
    (x1 : Box w bd (.pointer (some ⟨d, 0, none⟩))) (x2 : Box w bn (.string s)) :
    Calls Try.prog 76 #[.pointer (some ⟨bd, 0, none⟩), .pointer (some ⟨bn, 0, none⟩)] w (SPost S d N w (removeD s.data.toList k)) := by
  obtain ⟨m, O, pv, Z, h, hS⟩ := h
  obtain ⟨⟨c0, c1, _, _, _⟩, hdl⟩ := h.cells
  have l1 := x1.lt
  have l2 := x2.lt
  unfold Box at x1 x2
  have LK := h.look hs
  have HD := Lib.hid (show Disk w d S k N from ⟨m, O, pv, Z, h, hS⟩)
  have H := Lib.hid h
  have HS := Lib.hid hS
  have HLF := Lib.hid (h.look_files s.data.toList)
  cases hz : look Z s.data.toList with
  | none =>
    rw [hz] at LK HLF
    have HLK := Lib.hid LK
    simp only [Option.map_none, optr] at LK
    have HR : Hid (removeD s.data.toList k = (k, 183)) := by show _ = _; unfold removeD; rw [HLF.out]; rfl
    clear h hS hz
    go_enter Try.func76, Try.ntmps76
    go_wp2_with fail
    go_quiet (fail)
    go_wp2_with fail
    go_ret
    exact ⟨S, by rw [HR.out]; rfl, by rw [HR.out]; exact HD.out.below (pw_below_drewN (Below.refl _ _) _), Tch.of_below (pw_below_drewN (Below.refl _ _) _), fun b hb => .inl hb⟩
  | some pf =>
    obtain ⟨p, f⟩ := pf
    have hzm := look_mem hz
    rw [hz] at LK HLF
    simp only [Option.map_some, optr, fptr] at LK
    have HZ := Lib.hid hz
    have HR : Hid (removeD s.data.toList k = ({ k with files := del k.files s.data.toList }, 0)) := by show _ = _; unfold removeD; rw [HLF.out]; rfl
    clear h hS hz hzm
    go_enter Try.func76, Try.ntmps76
    go_upto_region 1 with fail
    go_cut [9] from 3 to 9 (fun v wx => v = .bool false ∧ Below w.heap.size w wx)
    case first =>
      go_quiet (fail)
      go_wp2_with fail
      go_meet
      exact ⟨rfl, pw_below_drewN (Below.refl _ _) _⟩
    case rest =>
    obtain ⟨rfl, hb1⟩ := hcut
    rename World => w1
    have HB1 := Lib.hid hb1
    have y1 := keep_cell hb1 l1 x1
    have y2 := keep_cell hb1 l2 x2
    have d0 := keep_cell hb1 hdl c0
    have HM := Lib.hid ((H.out.below hb1).mp.kept (w' := w1.drew) rfl)
    have HH := Lib.hid ((H.out.below hb1).below (below_drew (Below.refl _ _)))
    clear hb1 LK
    go_upto_region 3 with fail
    go_region_law (refine step_del w1.drew rfl (.tmp 13) (.tmp 14) rfl m _ rfl HM.out s hs rfl ?_; intro w4 hm4 hg4; have HE := Lib.hid (HH.out.remove hm4 hg4); have HT := Lib.hid (some_m hg4 (S := S) ((HS.out m).2 (by rw [H.out.om]; exact Own.noConfusion))); clear hm4 hg4)
    all_goals
      go_wp2_with fail
      go_ret
      rw [HR.out]
      exact ⟨S, rfl, ⟨m, O, pv, _, HE.out, HS.out⟩, (Tch.of_below (HB1.out.trans (below_drew (Below.refl _ _)))).trans HT.out, fun b hb => .inl hb⟩
end Go.Proofs.Ytkhopknpadncdaa
