/- (*file).put: bytes behind what is seen, and a change more. -/
import Derived.Test.YtkhopknpadncdaaFile
import Derived.Deep.RegionLaw
namespace Go.Proofs.Ytkhopknpadncdaa
open Go Go.RowKit Go.Maps Go.Proofs.YtkhopknpadncdaaW.PrintWords Go.Proofs.Ytkhopknpadncdaa.PDiskMemory Go.Proofs.YtkhopknpadncdaaW.PrintMore
set_option linter.unusedVariables false

theorem chg_M {w : World} {c : Chg} {v : Value} {ok : Nat → Prop} (h : RB w ok v c.add) : kChg.M w 0 ok c [.bool c.cuts, .int .i64 c.to, v] :=
  ⟨[.bool c.cuts], [.int .i64 c.to, v], rfl, rfl, [.int .i64 c.to], [v], rfl, rfl, v, rfl, h⟩
/-- A call that turns the file x alone. -/
def FPost (w : World) (O : Nat → Own) (x : Nm) (p : Nat) (f : Fil) (v : Value) (e : Ending) (w' : World) : Prop :=
  ∃ O', e = .returned v ∧ File w' O' x p f ∧ Tch (OfFile O x) w w' ∧ Grew O O' x w.heap.size w'.heap.size
theorem FA.below {w w' : World} {O : Nat → Own} {x : Nm} {p : Nat} {f : Fil} {sv nv cv : Value} (h : FA w O x p f sv nv cv) (hb : Below w.heap.size w w') : FA w' O x p f sv nv cv := h.step (fun b hl _ => hb.block b hl)
/-- append of a change, within a region that draws its order. -/
theorem step_chg {ops : Array Oper} {o : Oper} {a : Act} {K : Act → World → Prop} {Q : Exit → Act → World → Prop} {E : Prop} (hgd : o.guard = none) (s x : Operand) (t : TypeId)
    (ho : o.op = .call { callee := .builtin .append, args := #[s, x], argTypes := #[t, t] }) (ht : Try.prog.underlying t = some (.slice 98))
    (W : World) (v : Value) (cs : List Chg) (c : Chg) (av : Value) (ok okp : Nat → Prop) (hs : a.eval s = v) (hx : a.eval x = .slice (some ⟨W.heap.size, 0, none⟩) 1 1)
    (hp : RB W okp av c.add) (hokp : ∀ k, okp k → ok k ∧ some k ≠ v.ownBlock) (hfresh : ∀ k, W.heap.size ≤ k → ok k) (HO : RC W ok v cs) (hl : (cs.length + 1) * 40 ≤ 140737488355328)
    (h : ∀ v1 w1, RC w1 ok v1 (cs ++ [c]) → W.grownBy w1 v.ownBlock → K (a.put o.dst v1) w1) :
    if Region.wanted o (yielded ops a.tmps) = true then Oper.wp Try.prog o a (W.alloc (.cells #[.bool c.cuts, .int .i64 c.to, av] 98)) K Q else E := by
  have hw : Region.wanted o (yielded ops a.tmps) = true := by simp [Region.wanted, hgd]
  rw [if_pos hw]
  have hst := Kd.R_append_step (P := Try.prog) (ops := ops) (o := o) (a := a) (Q := Q) (Kc := K) kChg (w0 := W) (W := W) 0 hw s x t 98 (.agg #[.bool false, .int .i64 0, .slice none 0 0]) 40 ho ht info_chg rfl (by decide) (by decide) v cs c [.bool c.cuts, .int .i64 c.to, av] ok okp hs hx (chg_M hp) hokp hfresh HO (Below.refl 0 W) (Nat.zero_le _) hl (fun v1 w1 hr hb hg _ => h v1 w1 hr hg)
  rw [if_pos hw] at hst
  exact hst

set_option maxRecDepth 100000 in
set_option maxHeartbeats 2000000 in
theorem put_any (w : World) (O : Nat → Own) (x : Nm) (p : Nat) (f : Fil) (sv nv cv : Value) (h : FA w O x p f sv nv cv) (hnew : ∀ b, w.heap.size ≤ b → O b = .none) (A : Option Addr) (n c : Nat) (b : List Int)
    (hC : ∀ W, Tch (OfFile O x) w W → (Kd.int .u8).C W A n b) (hl : f.seen.length + n ≤ big) (hc : f.chs.length ≤ 1000000000000) :
    Calls Try.prog 45 #[fptr p, .slice A n c] w (FPost w O x p (putF f b) (.tuple #[])) := by
  have H := Lib.hid h
  have HC := Lib.hid hC
  have HW := Lib.hid hnew
  have HL : Hid ((f.seen.length + n) * 1 ≤ 140737488355328) := by show _ ≤ _; unfold big at hl; omega
  have HN : Hid ((f.chs.length + 1) * 40 ≤ 140737488355328) := by show _ ≤ _; omega
  have HNL : Hid (n * 1 ≤ 140737488355328) := by show _ ≤ _; unfold big at hl; omega
  obtain ⟨A1, q1, A2, q2, A3, q3, e1, e2, e3⟩ := h.lens
  obtain ⟨N2, hN2⟩ : ∃ N2, N2 = f.seen.length := ⟨_, rfl⟩
  obtain ⟨N3, hN3⟩ : ∃ N3, N3 = f.chs.length := ⟨_, rfl⟩
  rw [← hN2] at e2
  rw [← hN3] at e3
  subst e2
  subst e3
  obtain ⟨c0, c1, c2, f0, f1, f2, hpl⟩ := h.see
  clear h hC hnew hl hc hN2 hN3 e1
  unfold fptr
  go_enter Try.func45, Try.ntmps45
  go_upto_region 1 with (at_builtin; refine Kd.R_append_rows (Kd.int .u8) (w0 := w) 0 rfl (.tmp 8) (.tmp 9) 34 5 (.int .u8 0) 1 rfl Try.underlying34 info_u8 rfl (by decide) (by decide) (.slice A2 N2 q2) f.seen b A n c (fun k => O k = .seen x ∨ w.heap.size ≤ k) (fun _ => False) rfl rfl (Kd.R_mono H.out.seen (fun _ h => .inl h)) (HC.out _ (Tch.refl _ _)) (fun x cs h => h) (fun _ h => h.elim) (fun k h => .inr h) (Below.refl 0 w) (Nat.zero_le _) HL.out ?_; intro v1 w1 hr hb hg hat; obtain ⟨N4, B4, q4, rfl⟩ : ∃ n A q, v1 = .slice A n q := (by obtain ⟨A_, q_, e_⟩ := Kd.R_slice hr; exact ⟨_, A_, q_, e_⟩); obtain ⟨⟨d0, d1, d2, g0, g1, g2, hpl1⟩, ho⟩ := H.out.put_seen hr hg; have HO := Lib.hid ho; have HT : Hid (Tch (OfFile O x) w (w1.setCell ⟨p, 1, none⟩ (.slice B4 N4 q4))) := (Tch.of_grown hg (fun k hk => .inr (.inr (.inl (H.out.seen.1 k hk))))).trans (Tch.set _ ⟨p, 1, none⟩ _ (.inl H.out.own)); have HZ : Hid (w.heap.size ≤ w1.heap.size) := hg.size; clear hr hb hg hat ho)
  clear c0 c1 c2 f0 f1 f2 d0 d1 d2 g0 g1 g2
  have HZ2 : Hid ((w1.setCell ⟨p, 1, none⟩ (.slice B4 N4 q4)).heap.size = w1.heap.size) := set_size _ _ _
  generalize w1.setCell ⟨p, 1, none⟩ (.slice B4 N4 q4) = W2 at HO HT HZ2 ⊢
  obtain ⟨c0, c1, c2, f0, f1, f2, hpl2⟩ := HO.out.see
  have HNW : Hid (∀ b, W2.heap.size ≤ b → paint O w.heap.size w1.heap.size (.seen x) b = .none) := fun b hb => by
    have h1 := HZ2.out
    have h2 := HZ.out
    unfold paint
    rw [if_neg (by omega)]
    exact HW.out b (by omega)
  have HTC : Hid (∀ k, paint O w.heap.size w1.heap.size (.seen x) k = .chgs x → OfFile O x k ∨ w.heap.size ≤ k) := fun k hk => by
    by_cases hl : k < w.heap.size
    · rw [paint_old hl] at hk; exact .inl (.inr (.inr (.inr hk)))
    · exact .inr (by omega)
  go_region_law (first
    | (refine step_chg rfl (.tmp 17) (.tmp 21) 87 rfl Try.underlying87 w3 (.slice A3 N3 q3) f.chs ⟨false, 0, b⟩ (.slice B5 N5 q5) (fun k => paint O w.heap.size w1.heap.size (.seen x) k = .chgs x ∨ W2.heap.size ≤ k) (fun k => W2.heap.size ≤ k) rfl rfl HV3.out (fun k hk => ⟨.inr hk, fun e => by have := Kd.R_lt HO.out.chgs k e.symm; omega⟩) (fun k hk => .inr (Nat.le_trans HS3.out hk)) (Kd.R_mono HO3.out.chgs (fun _ h => .inl h)) HN.out ?_; intro v4 w4 hr hg; obtain ⟨N6, B6, q6, rfl⟩ : ∃ n A q, v4 = .slice A n q := (by obtain ⟨A_, q_, e_⟩ := Kd.R_slice hr; exact ⟨_, A_, q_, e_⟩); obtain ⟨⟨d0, d1, d2, g0, g1, g2, hpl4⟩, ho⟩ := HO3.out.put_chgs HNW.out hr hg; have HE := Lib.hid ho; have HZ4 : Hid (w3.heap.size ≤ w4.heap.size) := hg.size; have HT4 : Hid (Tch (OfFile O x) w (w4.setCell ⟨p, 2, none⟩ (.slice B6 N6 q6))) := ((HT.out.trans (Tch.of_below HB3.out)).then_ (Tch.of_grown (S := fun k => paint O w.heap.size w1.heap.size (.seen x) k = .chgs x) hg (fun k hk => HO3.out.chgs.1 k hk)) HTC.out).trans (Tch.set _ ⟨p, 2, none⟩ _ (.inl H.out.own)); clear hr hg ho)
    | (go_simp; go_at_call 58; refine (clone_bytes A n c b _ (HC.out _ HT.out.drew) HNL.out).mono ?_; rintro r w3 ⟨v3, rfl, hv, hb⟩; obtain ⟨N5, B5, q5, rfl⟩ : ∃ n A q, v3 = .slice A n q := (by obtain ⟨A_, q_, e_⟩ := Kd.R_slice hv; exact ⟨_, A_, q_, e_⟩); have HV3 := Lib.hid hv; have HB3 : Hid (Below W2.heap.size W2 w3) := (below_drew (Below.refl _ _)).trans hb; have HO3 := Lib.hid (HO.out.below HB3.out); obtain ⟨c0, c1, c2, f0, f1, f2, hpl2⟩ := HO3.out.see; have HS3 : Hid (W2.heap.size ≤ w3.heap.size) := HB3.out.size; clear hv hb))
  all_goals
    go_wp2_with fail
    go_end0
    exact ⟨_, rfl, ⟨_, _, _, HE.out⟩, HT4.out, by
      rw [set_size]
      exact ((Grew.refl (hi := w.heap.size) x HW.out).paint (lo' := w.heap.size) (hi' := w1.heap.size) (Nat.le_refl _) HZ.out (.inr (.inl rfl))).paint (lo' := W2.heap.size) (hi' := w4.heap.size) (by rw [HZ2.out]; exact HZ.out) (by have h1 := HZ4.out; have h2 := HS3.out; have h3 := HZ2.out; omega) (.inr (.inr rfl))⟩
end Go.Proofs.Ytkhopknpadncdaa
