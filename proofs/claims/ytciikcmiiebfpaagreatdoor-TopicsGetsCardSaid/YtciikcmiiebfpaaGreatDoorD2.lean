/- D2: Put, RangeP, Used, App1, App2, Cut1, Sync1, Remove1, one text (a claim holds at most 60 files). -/
import Derived.Test.YtciikcmiiebfpaaGreatDoorD1
import Derived.Deep.RegionLaw
import Derived.Deep.RegionHeld
import Derived.ChangeAlike
import Derived.RegionTactic

/- Put -/
section
/- (*file).put: bytes behind what is seen, and a change more. -/
namespace Go.Proofs.YtciikcmiiebfpaaGreatDoor
open Go Go.RowKit Go.Maps Go.Proofs.YtciikcmiiebfpaaGreatDoorW.PrintWords Go.Proofs.YtciikcmiiebfpaaGreatDoor.PTopicsGets Go.Proofs.YtciikcmiiebfpaaGreatDoorW.PrintMore
set_option linter.unusedVariables false

theorem chg_M {w : World} {c : Chg} {v : Value} {ok : Nat → Prop} (h : RB w ok v c.add) : kChg.M w 0 ok c [.bool c.cuts, .int .i64 c.to, v] :=
  ⟨[.bool c.cuts], [.int .i64 c.to, v], rfl, rfl, [.int .i64 c.to], [v], rfl, rfl, v, rfl, h⟩
/-- A call that turns the file x alone. -/
def FPost (w : World) (O : Nat → Own) (x : Nm) (p : Nat) (f : Fil) (v : Value) (e : Ending) (w' : World) : Prop :=
  ∃ O', e = .returned v ∧ File w' O' x p f ∧ Tch (OfFile O x) w w' ∧ Grew O O' x w.heap.size w'.heap.size
theorem FA.below {w w' : World} {O : Nat → Own} {x : Nm} {p : Nat} {f : Fil} {sv nv cv : Value} (h : FA w O x p f sv nv cv) (hb : Below w.heap.size w w') : FA w' O x p f sv nv cv := h.step (fun b hl _ => hb.block b hl)
/-- append of a change, within a region that draws its order. -/
theorem step_chg {ops : Array Oper} {o : Oper} {a : Act} {K : Act → World → Prop} {Q : Exit → Act → World → Prop} {E : Prop} (hgd : o.guard = none) (s x : Operand) (t : TypeId)
    (ho : o.op = .call { callee := .builtin .append, args := #[s, x], argTypes := #[t, t] }) (ht : Tryz.prog.underlying t = some (.slice 274))
    (W : World) (v : Value) (cs : List Chg) (c : Chg) (av : Value) (ok okp : Nat → Prop) (hs : a.eval s = v) (hx : a.eval x = .slice (some ⟨W.heap.size, 0, none⟩) 1 1)
    (hp : RB W okp av c.add) (hokp : ∀ k, okp k → ok k ∧ some k ≠ v.ownBlock) (hfresh : ∀ k, W.heap.size ≤ k → ok k) (HO : RC W ok v cs) (hl : (cs.length + 1) * 40 ≤ 140737488355328)
    (h : ∀ v1 w1, RC w1 ok v1 (cs ++ [c]) → W.grownBy w1 v.ownBlock → K (a.put o.dst v1) w1) :
    if Region.wanted o (yielded ops a.tmps) = true then Oper.wp Tryz.prog o a (W.alloc (.cells #[.bool c.cuts, .int .i64 c.to, av] 274)) K Q else E := by
  have hw : Region.wanted o (yielded ops a.tmps) = true := by simp [Region.wanted, hgd]
  rw [if_pos hw]
  have hst := Kd.R_append_step (P := Tryz.prog) (ops := ops) (o := o) (a := a) (Q := Q) (Kc := K) kChg (w0 := W) (W := W) 0 hw s x t 274 (.agg #[.bool false, .int .i64 0, .slice none 0 0]) 40 ho ht info_chg rfl (by decide) (by decide) v cs c [.bool c.cuts, .int .i64 c.to, av] ok okp hs hx (chg_M hp) hokp hfresh HO (Below.refl 0 W) (Nat.zero_le _) hl (fun v1 w1 hr hb hg _ => h v1 w1 hr hg)
  rw [if_pos hw] at hst
  exact hst

set_option maxRecDepth 100000 in
set_option maxHeartbeats 2000000 in
theorem put_any (w : World) (O : Nat → Own) (x : Nm) (p : Nat) (f : Fil) (sv nv cv : Value) (h : FA w O x p f sv nv cv) (hnew : ∀ b, w.heap.size ≤ b → O b = .none) (A : Option Addr) (n c : Nat) (b : List Int)
    (hC : ∀ W, Tch (OfFile O x) w W → (Kd.int .u8).C W A n b) (hl : f.seen.length + n ≤ big) (hc : f.chs.length ≤ 1000000000000) :
    Calls Tryz.prog 133 #[fptr p, .slice A n c] w (FPost w O x p (putF f b) (.tuple #[])) := by
  have H := Lib.hid h
  have HC := Lib.hid hC
  have HW := Lib.hid hnew
  have HL : Hid ((f.seen.length + n) * 1 ≤ 140737488355328) := by show _ ≤ _; unfold big at hl; omega
  have HN : Hid ((f.chs.length + 1) * 40 ≤ 140737488355328) := by show _ ≤ _; omega
  have HNL : Hid (n * 1 ≤ 140737488355328) := by show _ ≤ _; unfold big at hl; omega
  obtain ⟨A1, q1, A2, q2, A3, q3, e1, e2, e3⟩ := h.lens
  obtain ⟨N2, hN2⟩ : ∃ N2, N2 = f.seen.length := ⟨_, rfl⟩
  obtain ⟨N3, hN3⟩ : ∃ N3, N3 = f.chs.length := ⟨_, rfl⟩
  rw [← hN2] at e2
  rw [← hN3] at e3
  subst e2
  subst e3
  obtain ⟨c0, c1, c2, f0, f1, f2, hpl⟩ := h.see
  clear h hC hnew hl hc hN2 hN3 e1
  unfold fptr
  go_enter Tryz.func133, Tryz.ntmps133
  go_upto_region 1 with (at_builtin; refine Kd.R_append_rows (Kd.int .u8) (w0 := w) 0 rfl (.tmp 8) (.tmp 9) 51 5 (.int .u8 0) 1 rfl Tryz.underlying51 info_u8 rfl (by decide) (by decide) (.slice A2 N2 q2) f.seen b A n c (fun k => O k = .seen x ∨ w.heap.size ≤ k) (fun _ => False) rfl rfl (Kd.R_mono H.out.seen (fun _ h => .inl h)) (HC.out _ (Tch.refl _ _)) (fun x cs h => h) (fun _ h => h.elim) (fun k h => .inr h) (Below.refl 0 w) (Nat.zero_le _) HL.out ?_; intro v1 w1 hr hb hg hat; obtain ⟨N4, B4, q4, rfl⟩ : ∃ n A q, v1 = .slice A n q := (by obtain ⟨A_, q_, e_⟩ := Kd.R_slice hr; exact ⟨_, A_, q_, e_⟩); obtain ⟨⟨d0, d1, d2, g0, g1, g2, hpl1⟩, ho⟩ := H.out.put_seen hr hg; have HO := Lib.hid ho; have HT : Hid (Tch (OfFile O x) w (w1.setCell ⟨p, 1, none⟩ (.slice B4 N4 q4))) := (Tch.of_grown hg (fun k hk => .inr (.inr (.inl (H.out.seen.1 k hk))))).trans (Tch.set _ ⟨p, 1, none⟩ _ (.inl H.out.own)); have HZ : Hid (w.heap.size ≤ w1.heap.size) := hg.size; clear hr hb hg hat ho)
  clear c0 c1 c2 f0 f1 f2 d0 d1 d2 g0 g1 g2
  have HZ2 : Hid ((w1.setCell ⟨p, 1, none⟩ (.slice B4 N4 q4)).heap.size = w1.heap.size) := set_size _ _ _
  generalize w1.setCell ⟨p, 1, none⟩ (.slice B4 N4 q4) = W2 at HO HT HZ2 ⊢
  obtain ⟨c0, c1, c2, f0, f1, f2, hpl2⟩ := HO.out.see
  have HNW : Hid (∀ b, W2.heap.size ≤ b → paint O w.heap.size w1.heap.size (.seen x) b = .none) := fun b hb => by
    have h1 := HZ2.out
    have h2 := HZ.out
    unfold paint
    rw [if_neg (by omega)]
    exact HW.out b (by omega)
  have HTC : Hid (∀ k, paint O w.heap.size w1.heap.size (.seen x) k = .chgs x → OfFile O x k ∨ w.heap.size ≤ k) := fun k hk => by
    by_cases hl : k < w.heap.size
    · rw [paint_old hl] at hk; exact .inl (.inr (.inr (.inr hk)))
    · exact .inr (by omega)
  go_region_law (first
    | (refine step_chg rfl (.tmp 17) (.tmp 21) 250 rfl Tryz.underlying250 w3 (.slice A3 N3 q3) f.chs ⟨false, 0, b⟩ (.slice B5 N5 q5) (fun k => paint O w.heap.size w1.heap.size (.seen x) k = .chgs x ∨ W2.heap.size ≤ k) (fun k => W2.heap.size ≤ k) rfl rfl HV3.out (fun k hk => ⟨.inr hk, fun e => by have := Kd.R_lt HO.out.chgs k e.symm; omega⟩) (fun k hk => .inr (Nat.le_trans HS3.out hk)) (Kd.R_mono HO3.out.chgs (fun _ h => .inl h)) HN.out ?_; intro v4 w4 hr hg; obtain ⟨N6, B6, q6, rfl⟩ : ∃ n A q, v4 = .slice A n q := (by obtain ⟨A_, q_, e_⟩ := Kd.R_slice hr; exact ⟨_, A_, q_, e_⟩); obtain ⟨⟨d0, d1, d2, g0, g1, g2, hpl4⟩, ho⟩ := HO3.out.put_chgs HNW.out hr hg; have HE := Lib.hid ho; have HZ4 : Hid (w3.heap.size ≤ w4.heap.size) := hg.size; have HT4 : Hid (Tch (OfFile O x) w (w4.setCell ⟨p, 2, none⟩ (.slice B6 N6 q6))) := ((HT.out.trans (Tch.of_below HB3.out)).then_ (Tch.of_grown (S := fun k => paint O w.heap.size w1.heap.size (.seen x) k = .chgs x) hg (fun k hk => HO3.out.chgs.1 k hk)) HTC.out).trans (Tch.set _ ⟨p, 2, none⟩ _ (.inl H.out.own)); clear hr hg ho)
    | (go_simp; go_at_call 114; refine (clone_bytes A n c b _ (HC.out _ HT.out.drew) HNL.out).mono ?_; rintro r w3 ⟨v3, rfl, hv, hb⟩; obtain ⟨N5, B5, q5, rfl⟩ : ∃ n A q, v3 = .slice A n q := (by obtain ⟨A_, q_, e_⟩ := Kd.R_slice hv; exact ⟨_, A_, q_, e_⟩); have HV3 := Lib.hid hv; have HB3 : Hid (Below W2.heap.size W2 w3) := (below_drew (Below.refl _ _)).trans hb; have HO3 := Lib.hid (HO.out.below HB3.out); obtain ⟨c0, c1, c2, f0, f1, f2, hpl2⟩ := HO3.out.see; have HS3 : Hid (W2.heap.size ≤ w3.heap.size) := HB3.out.size; clear hv hb))
  all_goals
    go_wp2_with fail
    go_end0
    exact ⟨_, rfl, ⟨_, _, _, HE.out⟩, HT4.out, by
      rw [set_size]
      exact ((Grew.refl (hi := w.heap.size) x HW.out).paint (lo' := w.heap.size) (hi' := w1.heap.size) (Nat.le_refl _) HZ.out (.inr (.inl rfl))).paint (lo' := W2.heap.size) (hi' := w4.heap.size) (by rw [HZ2.out]; exact HZ.out) (by have h1 := HZ4.out; have h2 := HS3.out; have h3 := HZ2.out; omega) (.inr (.inr rfl))⟩
end Go.Proofs.YtciikcmiiebfpaaGreatDoor
end

/- RangeP -/
section
/- What of a map has been met, as a function of what is left: sums and names. -/
namespace Go.Proofs.YtciikcmiiebfpaaGreatDoor
open Go Go.RowKit Go.Maps
set_option linter.unusedVariables false

/-- The sum over what is no longer to come. -/
def doneSum (len : Fil → Nat) (L : List (Nm × Fil)) (P : Nm → Bool) : Nat := ((L.filter fun p => !P p.1).map fun p => len p.2).sum
theorem doneSum_start (len : Fil → Nat) {L : List (Nm × Fil)} {P : Nm → Bool} (h : ∀ p ∈ L, P p.1 = true) : doneSum len L P = 0 := by
  unfold doneSum
  rw [List.filter_eq_nil_iff.2 (fun p hp => by rw [h p hp]; decide)]
  rfl
theorem doneSum_end (len : Fil → Nat) {L : List (Nm × Fil)} {P : Nm → Bool} (h : ∀ p ∈ L, P p.1 = false) : doneSum len L P = (L.map fun p => len p.2).sum := by
  unfold doneSum
  rw [List.filter_eq_self.2 (fun p hp => by rw [h p hp]; rfl)]
theorem doneSum_step (len : Fil → Nat) {L : List (Nm × Fil)} (hn : L.Pairwise fun a b => a.1 ≠ b.1) {P : Nm → Bool} {x : Nm} {f : Fil} (hx : (x, f) ∈ L) (hP : P x = true) :
    doneSum len L (fun z => P z && !(z == x)) = doneSum len L P + len f := by
  induction L with
  | nil => cases hx
  | cons y r ih =>
    have h1 := List.pairwise_cons.1 hn
    unfold doneSum
    rcases List.mem_cons.1 hx with e | e
    · subst e
      have hr : r.filter (fun p => !(P p.1 && !(p.1 == x))) = r.filter fun p => !P p.1 := List.filter_congr fun p hp => by
        have : p.1 ≠ x := fun e => h1.1 p hp e.symm
        rw [show (p.1 == x) = false by simpa using this]
        simp
      rw [List.filter_cons_of_pos (by simp), List.filter_cons_of_neg (by simp [hP]), List.map_cons, List.sum_cons, hr]
      simp only
      omega
    · have ih' := ih h1.2 e
      unfold doneSum at ih'
      have hne : y.1 ≠ x := h1.1 _ e
      have e3 : (!(P y.1 && !(y.1 == x))) = !P y.1 := by rw [show (y.1 == x) = false by simpa using hne]; simp
      by_cases hy : P y.1 = true
      · rw [List.filter_cons_of_neg (by rw [e3]; simp [hy]), List.filter_cons_of_neg (by simp [hy])]
        exact ih'
      · have hy' : P y.1 = false := by simpa using hy
        rw [List.filter_cons_of_pos (by rw [e3]; simp [hy']), List.filter_cons_of_pos (by simp [hy']), List.map_cons, List.map_cons, List.sum_cons, List.sum_cons, ih']
        omega
theorem doneSum_le (len : Fil → Nat) (L : List (Nm × Fil)) (P : Nm → Bool) (B : Nat) (h : ∀ p ∈ L, len p.2 ≤ B) : doneSum len L P ≤ L.length * B := by
  induction L with
  | nil => simp [doneSum]
  | cons y r ih =>
    have h1 := ih (fun p hp => h p (List.mem_cons_of_mem _ hp))
    have h2 := h y (List.mem_cons_self ..)
    unfold doneSum at h1 ⊢
    rw [List.length_cons, Nat.succ_mul]
    rw [List.filter_cons]
    split
    · rw [List.map_cons, List.sum_cons]; omega
    · omega
/-- An entry that has come. -/
theorem dat_came {L : List (Nm × Nat)} {x : Nm} {c : Value} (h : ∀ zd, (dat L).atKey (.string x) zd = .held c) : ∃ p, look L x = some p ∧ c = fptr p := by
  have h1 := h (.held (.pointer none))
  rw [dat_at] at h1
  injection h1 with h1
  cases hl : look L x with
  | some p => rw [hl] at h1; exact ⟨p, rfl, h1.symm⟩
  | none =>
    have h2 := h (.held (.bool true))
    unfold dat DataW.atKey look at *
    simp only at h2 hl
    rw [List.find?_map] at h2
    have e : ((fun p : Lit × DataW Value => p.1.sameKey (.string x)) ∘ fun p : Nm × Nat => (Lit.string p.1, DataW.held (fptr p.2))) = fun p => p.1 == x := rfl
    rw [e] at h2
    rw [Option.map_eq_none_iff] at hl
    rw [hl] at h2 h1
    simp only [Option.map_none] at h2 h1
    injection h2 with h2
    rw [← h2] at h1
    cases h1
theorem dat_has (L : List (Nm × Nat)) {p : Nm × Nat} (hp : p ∈ L) : Maps.has (dat L) (.string p.1) = true := by
  unfold dat
  rw [has_eq, List.any_map, List.any_eq_true]
  exact ⟨p, hp, by simp [Lit.sameKey]⟩
end Go.Proofs.YtciikcmiiebfpaaGreatDoor
end

/- Used -/
section
/- (*Disk).Used: the seen bytes of all files, in whatever order the map is met. -/
namespace Go.Proofs.YtciikcmiiebfpaaGreatDoor
open Go Go.RowKit Go.Maps Go.Proofs.YtciikcmiiebfpaaGreatDoorW.PrintWords Go.Proofs.YtciikcmiiebfpaaGreatDoor.PTopicsGets Go.Proofs.YtciikcmiiebfpaaGreatDoorW.PrintMore
set_option linter.unusedVariables false

theorem look_Z {Z : List (Nm × (Nat × Fil))} {x : Nm} {p : Nat} (h : look (mapV (·.1) Z) x = some p) : ∃ f, (x, (p, f)) ∈ Z ∧ look Z x = some (p, f) := by
  rw [look_mapV] at h
  cases hz : look Z x with
  | none => rw [hz] at h; cases h
  | some q =>
    rw [hz] at h
    injection h with h
    obtain ⟨a, f⟩ := q
    simp only at h
    subst h
    exact ⟨f, look_mem hz, rfl⟩
theorem mem_Z {Z : List (Nm × (Nat × Fil))} {x : Nm} {p : Nat} {f : Fil} (h : (x, (p, f)) ∈ Z) : (x, f) ∈ mapV (·.2) Z := by
  unfold mapV
  exact List.mem_map.2 ⟨_, h, rfl⟩

theorem DA.apartF {w : World} {d m : Nat} {O : Nat → Own} {k : Dk} {N : Nat} {pv : Value} {Z : List (Nm × (Nat × Fil))} (h : DA w d m O k N pv Z) : k.files.Pairwise fun a b => a.1 ≠ b.1 := by
  rw [h.files]
  unfold mapV
  exact List.pairwise_map.2 (h.apart.imp fun h => h)
set_option maxRecDepth 100000 in
set_option maxHeartbeats 2000000 in
theorem used_any (w : World) (d N : Nat) (S : Nat → Prop) (k : Dk) (h : Disk w d S k N) :
    Calls Tryz.prog 132 #[.pointer (some ⟨d, 0, none⟩)] w fun e w' => e = .returned (.int .i64 (used k.files)) ∧ Below w.heap.size w w' := by
  obtain ⟨m, O, pv, Z, h, hS⟩ := h
  obtain ⟨⟨c0, _, _, _, _⟩, hdl⟩ := h.cells
  have H := Lib.hid h
  have HM := Lib.hid h.mp
  have hsum : ∀ P, doneSum (fun f => f.seen.length) k.files P ≤ 256 * big := fun P => Nat.le_trans (doneSum_le _ _ _ big (fun p hp => (Wf.stop (h.ok.1 p hp).1).1)) (Nat.mul_le_mul_right _ h.ok.2.2.2.1)
  have HSUM := Lib.hid hsum
  have HAS : Hid (∀ p ∈ k.files, Maps.has (dat (mapV (·.1) Z)) (.string p.1) = true) := fun p hp => by
    rw [h.files] at hp
    unfold mapV at hp
    obtain ⟨z, hz, rfl⟩ := List.mem_map.1 hp
    exact dat_has _ (p := (z.1, z.2.1)) (List.mem_map.2 ⟨z, hz, rfl⟩)
  clear h hS hsum
  go_enter Tryz.func132, Tryz.ntmps132
  go_wp2_with (at_range; refine wpList_range_own _ rfl _ 55 rfl 9 206 keyed Tryz.underlying55 raw m _ _ rfl HM.out ?_; intro w0 hrg0 hg0 hs0; have HR0 := Lib.hid hrg0; have HB0 : Hid (Below w.heap.size w w0) := grown_new (Below.refl _ _) hg0 (fun k hk => by cases hk); clear hrg0 hg0 hs0)
  go_frame
  go_loopw [3, 5] (fun v _ wr => ∃ (left : Lit → Bool) (cnt : Nat), v = .int .i64 (doneSum (fun f => f.seen.length) k.files (fun x => left (.string x)) : Nat) ∧ Hid (wr.ranges Tryz.prog 9 raw m w.heap.size (mapV (·.1) Z).length (dat (mapV (·.1) Z)) left cnt) ∧ Hid (Below w.heap.size w wr)) (fun _ _ wr => wr.rangeLeft m w.heap.size)
  case atStart => exact ⟨_, _, by rw [doneSum_start _ HAS.out]; rfl, HR0.out, HB0.out⟩
  case round =>
    clear HR0 HB0
    obtain ⟨left, cnt, rfl, HR, HB⟩ := hrel
    have hs0 := HSUM.out (fun x => left (.string x))
    obtain ⟨q, hq⟩ : ∃ q, q = doneSum (fun f => f.seen.length) k.files (fun x => left (.string x)) := ⟨_, rfl⟩
    rw [← hq] at hs0 ⊢
    have HQ := Lib.hid hq
    unfold big at hs0
    clear hq
    go_wp2_with (at_next; refine wpList_next_ranges _ rfl _ rfl 9 keyed raw encStr (fun v => v) (fun key kl hk => by obtain ⟨x, hx, _⟩ := Maps.keyOf_str Tryz.underlying9 hk; exact ⟨x, hx⟩) (fun v y hv => ⟨v, rfl⟩) m w.heap.size _ _ left cnt rfl HR.out ?_ ?_)
    · intro _ hl0
      have HE : Hid (q = used k.files) := by
        have h1 := HQ.out
        rw [doneSum_end _ (fun p _ => hl0 _)] at h1
        exact h1
      clear hl0
      go_wp2_with fail
      go_ret
      exact ⟨by rw [HE.out]; rfl, HB.out⟩
    · intro x c kl yd yp w2 cnt2 hkey hlk hv hat hrg2 hlt hg2 hs2 hen
      clear hs2
      obtain ⟨x', ex, rfl, _⟩ := Maps.keyOf_str Tryz.underlying9 hkey
      obtain rfl : x = x' := encStr_inj ex
      unfold raw at hv
      simp only [Option.some.injEq, Prod.mk.injEq] at hv
      obtain ⟨rfl, rfl⟩ := hv
      obtain ⟨p, hp, rfl⟩ := dat_came hat
      obtain ⟨f, hz, _⟩ := look_Z hp
      have hB2 : Below w.heap.size w w2 := HB.out.trans ((Tch.of_grown (S := fun b => b = w.heap.size) hg2 (fun b hb => (Option.some.inj hb).symm)).below HB.out.size (fun b hb => Nat.le_of_eq hb.symm))
      obtain ⟨sv, nv, cv, hF⟩ := (H.out.file x p f hz)
      have hF2 := hF.below hB2
      obtain ⟨A1, q1, A2, q2, A3, q3, e1, e2, e3⟩ := hF2.lens
      subst e2
      have hlb := (Wf.stop (H.out.ok.1 (x, f) (by rw [H.out.files]; exact mem_Z hz)).1).1
      unfold big at hlb
      have HST : Hid (doneSum (fun f => f.seen.length) k.files (fun y => left (.string y) && !(Lit.string y).sameKey (.string x)) = q + f.seen.length) := by
        show _ = _
        rw [HQ.out]
        exact doneSum_step _ H.out.apartF (by rw [H.out.files]; exact mem_Z hz) hlk
      obtain ⟨n2, hn2⟩ : ∃ n2, n2 = f.seen.length := ⟨_, rfl⟩
      rw [← hn2] at hlb hF2 HST
      obtain ⟨_, d1, _, _, _, _, hpl⟩ := hF2.see
      have HRG := Lib.hid hrg2
      have HB2 := Lib.hid hB2
      have HME : Hid (w2.rangeLeft m w.heap.size < wr.rangeLeft m w.heap.size) := by show _ < _; rw [hrg2.left_eq, HR.out.left_eq]; exact hlt
      clear hkey hlk hat hp hz hB2 hF hF2 hn2 hg2 hrg2 hlt ex e1 e3
      unfold fptr at hen ⊢
      go_wp2_with fail
      go_roundw
      case rel => exact ⟨_, _, by rw [HST.out]; go_num, HRG.out, HB2.out⟩
      case measure => exact HME.out
end Go.Proofs.YtciikcmiiebfpaaGreatDoor
end

/- App1 -/
section
/- Append's first function: what a step of it does. -/
namespace Go.Proofs.YtciikcmiiebfpaaGreatDoor
open Go Go.RowKit Go.Maps Go.Proofs.YtciikcmiiebfpaaGreatDoorW.PrintWords Go.Proofs.YtciikcmiiebfpaaGreatDoor.PTopicsGets Go.Proofs.YtciikcmiiebfpaaGreatDoorW.PrintMore
set_option linter.unusedVariables false
attribute [local go_sem] max2_int min2_int max_two min_two max_three min_three

theorem step_bel {w0 w w' : World} {B : Nat} (h : Below B w0 w) (hb : Below w.heap.size w w') (hB : B ≤ w.heap.size) : Below B w0 w' := h.trans (hb.mono hB)
theorem keep_cell {w0 w : World} {b o : Nat} {v : Value} {B : Nat} (h : Below B w0 w) (hb : b < B) (hc : w0.cell? ⟨b, o, none⟩ = some v) : w.cell? ⟨b, o, none⟩ = some v := (h.cell (p := ⟨b, o, none⟩) hb).trans hc
/-- A box of one cell. -/
def Box (w : World) (b : Nat) (v : Value) : Prop := w.cell? ⟨b, 0, none⟩ = some v
theorem Box.lt {w : World} {b : Nat} {v : Value} (h : Box w b v) : b < w.heap.size := World.block_lt_of_cell? w _ h
/-- The look-up of a file's name in a disk, as an equation of the run in whatever world behind some draws. -/
theorem DA.look {w : World} {d m : Nat} {O : Nat → Own} {k : Dk} {N : Nat} {pv : Value} {Z : List (Nm × (Nat × Fil))} (h : DA w d m O k N pv Z) {s : ByteArray} (hs : s.size ≤ maxLen) :
    ∀ q, (Instr.lookup 55 (.map (some m)) (.string s) false).run Tryz.prog (w.drewN q) = .ok (optr ((look Z s.data.toList).map (·.1))) (w.drewN q) := fun q => by
  have := (h.below (pw_below_drewN (Below.refl _ _) q)).mp.look_run hs
  rw [look_mapV] at this
  exact this
theorem DA.look_files {w : World} {d m : Nat} {O : Nat → Own} {k : Dk} {N : Nat} {pv : Value} {Z : List (Nm × (Nat × Fil))} (h : DA w d m O k N pv Z) (x : Nm) : Go.Proofs.YtciikcmiiebfpaaGreatDoor.look k.files x = (Go.Proofs.YtciikcmiiebfpaaGreatDoor.look Z x).map (·.2) := by
  rw [h.files, look_mapV]

theorem seen_le {L : List (Nm × Fil)} {p : Nm × Fil} (h : p ∈ L) : p.2.seen.length ≤ used L := by
  unfold used
  induction L with
  | nil => cases h
  | cons y r ih =>
    rw [List.map_cons, List.sum_cons]
    rcases List.mem_cons.1 h with e | e
    · rw [e]; omega
    · have := ih e; omega
/-- The owners' change of a file's turn, as the disk's footprint. -/
theorem turn_foot {S : Nat → Prop} {O O' : Nat → Own} {x : Nm} {lo hi : Nat} (hS : ∀ b, S b ↔ O b ≠ .none) (hG : Grew O O' x lo hi) : ∀ b, O' b ≠ .none → S b ∨ lo ≤ b := fun b hb => by
  by_cases hl : b < lo
  · rw [hG.old b hl] at hb; exact .inl ((hS b).2 hb)
  · exact .inr (by omega)
theorem of_own {S : Nat → Prop} {O : Nat → Own} {x : Nm} (hS : ∀ b, S b ↔ O b ≠ .none) : ∀ b, OfFile O x b → S b := fun b hb => (hS b).2 (by rcases hb with h | h | h | h <;> rw [h] <;> exact Own.noConfusion)
/-- Bytes put behind a file, seen from the disk. -/
theorem put_disk {w : World} {d m N : Nat} {O : Nat → Own} {k : Dk} {pv : Value} {Z : List (Nm × (Nat × Fil))} {S : Nat → Prop} {x : Nm} {p : Nat} {f : Fil} (h : DA w d m O k N pv Z) (hS : ∀ b, S b ↔ O b ≠ .none) (hz : Go.Proofs.YtciikcmiiebfpaaGreatDoor.look Z x = some (p, f)) (hl : Go.Proofs.YtciikcmiiebfpaaGreatDoor.look k.files x = some f)
    (b : List Int) (n : Nat) (hbig : f.seen.length + n ≤ big) (hnl : b.length ≤ n) (hb : Byt b) (hch : f.chs.length + 1 ≤ N) (hN : N ≤ 1000000000000) (A : Option Addr) (c : Nat) (hC : ∀ W, Tch S w W → (Kd.int .u8).C W A n b) :
    Calls Tryz.prog 133 #[.pointer (some ⟨p, 0, none⟩), .slice A n c] w (QPost S d N w { k with files := upd k.files x (putF f b) }) := by
  obtain ⟨sv, nv, cv, hF⟩ := h.file x p f (look_mem hz)
  have hfo := h.ok.1 (x, f) (look_mem hl)
  refine (put_any w O x p f sv nv cv hF (fun b hb => h.new hb) A n c b (fun W hW => hC W (hW.mono (of_own hS))) hbig (by have := hfo.2.1; simp only at this; omega)).mono ?_
  rintro e w' ⟨O', he, hF', hT, hG⟩
  refine ⟨fun b => O' b ≠ .none, he, ⟨m, O', pv, _, h.turn_file hl hz hF' hT.size (fun b hl hb => hT.block b hl hb) hG ⟨fun q hq => ?_, h.ok.2.1, h.ok.2.2.1, by show (upd k.files x _).length ≤ 256; rw [upd_length]; exact h.ok.2.2.2.1, h.ok.2.2.2.2⟩, fun b => Iff.rfl⟩, hT.mono (of_own hS), turn_foot hS hG⟩
  rcases mem_upd.1 hq with ⟨e, _⟩ | ⟨hq, _⟩
  · subst e
    refine ⟨?_, by show (f.chs ++ [_]).length ≤ N; rw [List.length_append]; exact hch, hfo.2.2⟩
    have := Wf.snoc (c := ⟨false, 0, b⟩) hfo.1 (by rw [if_neg (by simp)]; exact ⟨hb, by simp only; omega⟩)
    exact this
  · exact h.ok.1 q hq
theorem used_le {w : World} {d m : Nat} {O : Nat → Own} {k : Dk} {N : Nat} {pv : Value} {Z : List (Nm × (Nat × Fil))} (h : DA w d m O k N pv Z) : used k.files ≤ 256 * big := by
  have h1 := doneSum_le (fun f => f.seen.length) k.files (fun _ => false) big (fun p hp => (Wf.stop (h.ok.1 p hp).1).1)
  rw [doneSum_end _ (fun _ _ => rfl)] at h1
  exact Nat.le_trans h1 (Nat.mul_le_mul_right _ h.ok.2.2.2.1)
set_option maxRecDepth 100000 in
set_option maxHeartbeats 2000000 in
theorem append1_any (w : World) (d N : Nat) (S : Nat → Prop) (k : Dk) (s : ByteArray) (A : Option Addr) (n c : Nat) (b : List Int) (bd bn bb : Nat) (h : Disk w d S k N) (hk : ∀ p ∈ k.files, p.2.chs.length + 1 ≤ N) (hN : N ≤ 1000000000000) (hs : s.size ≤ maxLen)
    (x1 : Box w bd (.pointer (some ⟨d, 0, none⟩))) (x2 : Box w bn (.string s)) (x3 : Box w bb (.slice A n c)) (hC : ∀ W, Tch S w W → (Kd.int .u8).C W A n b) (hb : Byt b) (hbl : n ≤ big) :
    Calls Tryz.prog 131 #[.pointer (some ⟨bd, 0, none⟩), .pointer (some ⟨bn, 0, none⟩), .pointer (some ⟨bb, 0, none⟩)] w (SPost S d N w (appendD b s.data.toList k)) := by
  obtain ⟨m, O, pv, Z, h, hS⟩ := h
  obtain ⟨⟨c0, c1, _, _, _⟩, hdl⟩ := h.cells
  have l1 := x1.lt
  have l2 := x2.lt
  have l3 := x3.lt
  unfold Box at x1 x2 x3
  have LK := h.look hs
  have HD := Lib.hid (show Disk w d S k N from ⟨m, O, pv, Z, h, hS⟩)
  have H := Lib.hid h
  have HS := Lib.hid hS
  have HC := Lib.hid hC
  have HK := Lib.hid hk
  have HB := Lib.hid hb
  have HLF := Lib.hid (h.look_files s.data.toList)
  cases hz : look Z s.data.toList with
  | none =>
    rw [hz] at LK HLF
    have HLK := Lib.hid LK
    simp only [Option.map_none, optr] at LK
    have HR : Hid (appendD b s.data.toList k = (k, 183)) := by show _ = _; unfold appendD; rw [HLF.out]; rfl
    clear h hS hC hk hb hz
    go_enter Tryz.func131, Tryz.ntmps131
    go_wp2_with fail
    go_quiet (fail)
    go_wp2_with fail
    go_ret
    exact ⟨S, by rw [HR.out]; rfl, by rw [HR.out]; exact HD.out.below (pw_below_drewN (Below.refl _ _) _), Tch.of_below (pw_below_drewN (Below.refl _ _) _), fun b hb => .inl hb⟩
  | some pf =>
    obtain ⟨p, f⟩ := pf
    have hzm := look_mem hz
    rw [hz] at LK HLF
    simp only [Option.map_some, optr, fptr] at LK
    obtain ⟨U, hU⟩ : ∃ U, U = used k.files := ⟨_, rfl⟩
    have hub := used_le h
    rw [← hU] at hub
    have HU := Lib.hid hU
    have hrm := h.ok.2.1
    have hrm2 := h.ok.2.2.1
    obtain ⟨R, hR⟩ : ∃ R, R = k.room := ⟨_, rfl⟩
    rw [← hR] at c1 hrm hrm2
    have HRM := Lib.hid hR
    have hnl := (hC w (Tch.refl _ _)).1
    have HNL := Lib.hid hnl
    have HZ := Lib.hid hz
    have HZM := Lib.hid hzm
    have HUS := Lib.hid (fun (W : World) (hW : Below w.heap.size w W) => used_any W d N S k (HD.out.below hW))
    unfold big at hub hbl
    clear h hS hC hk hb hz hzm hU hR hnl
    go_enter Tryz.func131, Tryz.ntmps131
    go_upto_region 1 with fail
    go_cut [4] from 5 to 10 (fun v wx => v = .pointer (some ⟨p, 0, none⟩) ∧ Below w.heap.size w wx)
    case first =>
      go_quiet (fail)
      go_wp2_with fail
      go_meet
      exact ⟨rfl, pw_below_drewN (Below.refl _ _) _⟩
    case rest =>
    obtain ⟨rfl, hb1⟩ := hcut
    rename World => w1
    have HB1 := Lib.hid hb1
    have y1 := keep_cell hb1 l1 x1
    have y2 := keep_cell hb1 l2 x2
    have y3 := keep_cell hb1 l3 x3
    have d0 := keep_cell hb1 hdl c0
    have d1 := keep_cell hb1 hdl c1
    clear hb1 LK
    go_upto_region 4 with fail
    obtain ⟨B, hB⟩ : ∃ B, B = decide (R - (U : Int) < (n : Int)) := ⟨_, rfl⟩
    go_cut [14] from 15 to 24 (fun v wx => v = .bool B ∧ Below w.heap.size w wx)
    case first =>
      have hd : Below w.heap.size w w1.drew := HB1.out.trans (Below.drew (Below.refl _ _))
      go_region_held3 (fun w' => w'.cell? ⟨bd, 0, none⟩ = some (.pointer (some ⟨d, 0, none⟩)) ∧ w'.cell? ⟨bb, 0, none⟩ = some (.slice A n c) ∧ w'.cell? ⟨d, 1, none⟩ = some (.int .i64 R) ∧ Below w.heap.size w w') (go_keep)
        (first
          | (go_at_call 132; refine (HUS.out _ (‹_ ∧ _ ∧ _ ∧ Below w.heap.size w _›).2.2.2).mono ?_; rintro r wA ⟨rfl, hA⟩; rw [← HU.out]; have hA1 : Below w.heap.size w wA := step_bel (‹_ ∧ _ ∧ _ ∧ Below w.heap.size w _›).2.2.2 hA (by have := (‹_ ∧ _ ∧ _ ∧ Below w.heap.size w _›).2.2.2.size; omega); have p0 := keep_cell hA1 l1 x1; have p1 := keep_cell hA1 l3 x3; have p2 := keep_cell hA1 hdl c1))
      all_goals
        go_wp2_with fail
        go_meet
        exact ⟨by rw [hB, IntWalk.i64_in _ (by omega)], by assumption⟩
    case rest =>
    obtain ⟨rfl, hb2⟩ := hcut
    rename World => w2
    have HB2 := Lib.hid hb2
    have y1 := keep_cell hb2 l1 x1
    have y2 := keep_cell hb2 l2 x2
    have y3 := keep_cell hb2 l3 x3
    have HD2 := Lib.hid (H.out.below hb2)
    clear hb2
    by_cases hfit : R - (U : Int) < n
    · have hBt : B = true := by rw [hB]; exact decide_eq_true hfit
      have HR : Hid (appendD b s.data.toList k = (k, 182)) := by show _ = _; unfold appendD; rw [HLF.out]; simp only [Option.map_some]; rw [if_pos (by rw [← HRM.out, ← HU.out, HNL.out]; exact hfit)]
      subst hBt
      clear hfit hB
      go_wp2_with fail
      go_ret
      exact ⟨S, by rw [HR.out]; rfl, by rw [HR.out]; exact HD.out.below HB2.out, Tch.of_below HB2.out, fun b hb => .inl hb⟩
    · have hBf : B = false := by rw [hB]; exact decide_eq_false hfit
      have HR : Hid (appendD b s.data.toList k = ({ k with files := upd k.files s.data.toList (putF f b) }, 0)) := by show _ = _; unfold appendD; rw [HLF.out]; simp only [Option.map_some]; rw [if_neg (by rw [← HRM.out, ← HU.out, HNL.out]; exact hfit)]
      have hfb : f.seen.length ≤ U := by
        rw [HU.out]
        exact seen_le (look_mem (by rw [HLF.out]; rfl))
      have hbig : f.seen.length + n ≤ big := by unfold big; omega
      have HPUT := Lib.hid (put_disk HD2.out HS.out HZ.out HLF.out b n hbig (by rw [HNL.out]; exact Nat.le_refl _) HB.out (HK.out _ (look_mem (by rw [HLF.out]; rfl))) hN A c (fun W hW => HC.out W ((Tch.of_below HB2.out).trans hW)))
      subst hBf
      clear hfit hB hfb hbig
      go_wp2_with fail
      refine HPUT.out.mono ?_
      rintro e w3 ⟨S', rfl, hD3, hT3, hS3⟩
      have HD3 := Lib.hid hD3
      have HT3 := Lib.hid ((Tch.of_below HB2.out : Tch S w w2).trans hT3)
      have HS3 : Hid (∀ b, S' b → S b ∨ w.heap.size ≤ b) := fun b hb => (hS3 b hb).imp_right (fun h => by have := HB2.out.size; omega)
      clear hD3 hT3 hS3
      go_wp2_with fail
      go_ret
      exact ⟨S', by rw [HR.out]; rfl, by rw [HR.out]; exact HD3.out, HT3.out, HS3.out⟩
end Go.Proofs.YtciikcmiiebfpaaGreatDoor
end

/- App2 -/
section
/- Append's second function: what a step that the room ends does. -/
namespace Go.Proofs.YtciikcmiiebfpaaGreatDoor
open Go Go.RowKit Go.Maps Go.Proofs.YtciikcmiiebfpaaGreatDoorW.PrintWords Go.Proofs.YtciikcmiiebfpaaGreatDoor.PTopicsGets Go.Proofs.YtciikcmiiebfpaaGreatDoorW.PrintMore
set_option linter.unusedVariables false
attribute [local go_sem] max2_int min2_int max_two min_two max_three min_three

theorem C_take {α : Type} {d : Kd α} {w : World} {A : Option Addr} {n t : Nat} {l : List α} (h : d.C w A n l) (ht : t ≤ n) : d.C w A t (l.take t) := by
  refine ⟨by rw [List.length_take, h.1]; omega, Nat.le_trans ht h.2.1, fun h0 => ?_⟩
  obtain ⟨ad, e, hc⟩ := h.2.2 (by omega)
  refine ⟨ad, e, fun j p hj => hc j p ?_⟩
  rw [List.getElem?_take] at hj
  split at hj
  · exact hj
  · cases hj
/-- What is read beside a disk is as it was behind a call that turns the disk alone. -/
theorem put_keep {w W wB : World} {d N : Nat} {S : Nat → Prop} {k' : Dk} {bd bb : Nat} {v1 v2 : Value} {R : Int} {r : Ending} (n1 : ¬ S bd) (n2 : ¬ S bb) (l1 : bd < w.heap.size) (l2 : bb < w.heap.size) (x1 : w.cell? ⟨bd, 0, none⟩ = some v1) (x2 : w.cell? ⟨bb, 0, none⟩ = some v2) (hR : k'.room = R)
    (hW : Below w.heap.size w W) (hQ : QPost S d N W k' r wB) : r = .returned (.tuple #[]) ∧ wB.cell? ⟨bd, 0, none⟩ = some v1 ∧ wB.cell? ⟨bb, 0, none⟩ = some v2 ∧ wB.cell? ⟨d, 1, none⟩ = some (.int .i64 R) ∧ Hid (QPost S d N w k' (.returned (.tuple #[])) wB) := by
  obtain ⟨S', hr, hD, hT, hS⟩ := hQ
  have hz := hW.size
  refine ⟨hr, (hT.cell (a := ⟨bd, 0, none⟩) (by show bd < _; omega) n1).trans (keep_cell hW l1 x1), (hT.cell (a := ⟨bb, 0, none⟩) (by show bb < _; omega) n2).trans (keep_cell hW l2 x2), ?_, S', rfl, hD, (Tch.of_below hW).trans hT, fun b hb => (hS b hb).imp_right (fun h => by omega)⟩
  rw [← hR]
  exact hD.own4.c1
set_option maxRecDepth 100000 in
set_option maxHeartbeats 2000000 in
theorem append2_any (w : World) (d N : Nat) (S : Nat → Prop) (k : Dk) (s : ByteArray) (A : Option Addr) (n c : Nat) (b : List Int) (bd bn bb : Nat) (h : Disk w d S k N) (hk : ∀ p ∈ k.files, p.2.chs.length + 1 ≤ N) (hN : N ≤ 1000000000000) (hs : s.size ≤ maxLen)
    (x1 : Box w bd (.pointer (some ⟨d, 0, none⟩))) (x2 : Box w bn (.string s)) (x3 : Box w bb (.slice A n c)) (hC : ∀ W, Tch S w W → (Kd.int .u8).C W A n b) (hb : Byt b) (hbl : n ≤ big) (hnc : n ≤ c) (hnb : ¬ S bd ∧ ¬ S bb) (u : Int) (hu : 0 ≤ u) :
    Calls Tryz.prog 134 #[.int .i64 u, .pointer (some ⟨bd, 0, none⟩), .pointer (some ⟨bn, 0, none⟩), .pointer (some ⟨bb, 0, none⟩)] w (QPost S d N w (partD b s.data.toList k u)) := by
  obtain ⟨m, O, pv, Z, h, hS⟩ := h
  obtain ⟨⟨c0, c1, _, _, _⟩, hdl⟩ := h.cells
  have l1 := x1.lt
  have l2 := x2.lt
  have l3 := x3.lt
  unfold Box at x1 x2 x3
  have LK := h.look hs
  have HD := Lib.hid (show Disk w d S k N from ⟨m, O, pv, Z, h, hS⟩)
  have H := Lib.hid h
  have HS := Lib.hid hS
  have HC := Lib.hid hC
  have HK := Lib.hid hk
  have HB := Lib.hid hb
  have HNB := Lib.hid hnb
  have HLF := Lib.hid (h.look_files s.data.toList)
  cases hz : look Z s.data.toList with
  | none =>
    rw [hz] at LK HLF
    have HLK := Lib.hid LK
    simp only [Option.map_none, optr] at LK
    have HR : Hid (partD b s.data.toList k u = k) := by show _ = _; unfold partD; rw [HLF.out]; rfl
    clear h hS hC hk hb hz
    go_enter Tryz.func134, Tryz.ntmps134
    go_wp2_with fail
    go_quiet (fail)
    go_wp2_with fail
    go_end0
    exact ⟨S, rfl, by rw [HR.out]; exact HD.out.below (pw_below_drewN (Below.refl _ _) _), Tch.of_below (pw_below_drewN (Below.refl _ _) _), fun b hb => .inl hb⟩
  | some pf =>
    obtain ⟨p, f⟩ := pf
    have hzm := look_mem hz
    rw [hz] at LK HLF
    simp only [Option.map_some, optr, fptr] at LK
    obtain ⟨U, hU⟩ : ∃ U, U = used k.files := ⟨_, rfl⟩
    have hub := used_le h
    rw [← hU] at hub
    have HU := Lib.hid hU
    have hrm := h.ok.2.1
    have hrm2 := h.ok.2.2.1
    obtain ⟨R, hR⟩ : ∃ R, R = k.room := ⟨_, rfl⟩
    rw [← hR] at c1 hrm hrm2
    have HRM := Lib.hid hR
    have hnl := (hC w (Tch.refl _ _)).1
    have HNL := Lib.hid hnl
    have HZ := Lib.hid hz
    have HZM := Lib.hid hzm
    have HUS := Lib.hid (fun (W : World) (hW : Below w.heap.size w W) => used_any W d N S k (HD.out.below hW))
    unfold big at hub hbl
    clear h hS hC hk hb hz hzm hU hR hnl
    go_enter Tryz.func134, Tryz.ntmps134
    go_upto_region 0 with fail
    go_cut [5] from 6 to 11 (fun v wx => v = .pointer (some ⟨p, 0, none⟩) ∧ Below w.heap.size w wx)
    case first =>
      go_quiet (fail)
      go_wp2_with fail
      go_meet
      exact ⟨rfl, pw_below_drewN (Below.refl _ _) _⟩
    case rest =>
    obtain ⟨rfl, hb1⟩ := hcut
    rename World => w1
    have HB1 := Lib.hid hb1
    have y1 := keep_cell hb1 l1 x1
    have y2 := keep_cell hb1 l2 x2
    have y3 := keep_cell hb1 l3 x3
    have d0 := keep_cell hb1 hdl c0
    have d1 := keep_cell hb1 hdl c1
    clear hb1 LK
    go_upto_region 2 with fail
    obtain ⟨T, hT⟩ : ∃ T : Nat, (T : Int) = max 0 (min u (min (n : Int) (R - U))) := ⟨(max 0 (min u (min (n : Int) (R - U)))).toNat, by omega⟩
    have hTn : T ≤ n := by omega
    have hTR : (T : Int) ≤ max 0 (R - U) := by omega
    have hfb : f.seen.length ≤ U := by
      rw [HU.out]
      exact seen_le (look_mem (by rw [HLF.out]; rfl))
    have HBT : Hid (f.seen.length + T ≤ big) := by
      have h1 := (Wf.stop (H.out.ok.1 (s.data.toList, f) (look_mem (by rw [HLF.out]; rfl))).1).1
      show _ ≤ _
      simp only at h1
      unfold big at h1 ⊢
      omega
    have HR : Hid (partD b s.data.toList k u = { k with files := upd k.files s.data.toList (putF f (b.take T)) }) := by
      show _ = _
      unfold partD
      rw [HLF.out]
      simp only [Option.map_some]
      rw [← HRM.out, ← HU.out, HNL.out, ← hT, Int.toNat_natCast]
    have HTT := Lib.hid hT
    have HRP : Hid ((partD b s.data.toList k u).room = R) := by show _ = _; rw [HR.out, HRM.out]
    have HPUT : Hid (∀ (W : World), Below w.heap.size w W → ∀ t, t = T → Calls Tryz.prog 133 #[.pointer (some ⟨p, 0, none⟩), .slice A t c] W (QPost S d N W (partD b s.data.toList k u))) := fun W hW t ht => by
      subst ht
      rw [HR.out]
      exact put_disk (H.out.below hW) HS.out HZ.out HLF.out (b.take t) t HBT.out (List.length_take_le _ _) (fun v hv => HB.out v (List.mem_of_mem_take hv)) (HK.out _ (look_mem (by rw [HLF.out]; rfl))) hN A c (fun W' hW' => C_take (HC.out W' ((Tch.of_below hW).trans hW')) hTn)
    have hsb : IntKind.i64.wrap (R - (U : Int)) = R - U := IntWalk.i64_in _ (by omega)
    clear hT hTR hfb d0 y2
    have hd : Below w.heap.size w w1.drew := HB1.out.trans (Below.drew (Below.refl _ _))
    have hi1 : (0 : Int) ≤ (n : Int) ∧ (n : Int) ≤ (c : Int) := by omega
    by_cases a1 : (n : Int) < u
    · by_cases a2 : R - U < n
      · by_cases a3 : 0 < R - U
        · have i0 : (0 : Int) ≤ R - U := by omega
          have i1 : R - U ≤ (c : Int) := by omega
          go_region_held (fun w' => w'.cell? ⟨bd, 0, none⟩ = some (.pointer (some ⟨d, 0, none⟩)) ∧ w'.cell? ⟨bb, 0, none⟩ = some (.slice A n c) ∧ w'.cell? ⟨d, 1, none⟩ = some (.int .i64 R)) (go_keep)
            (first
              | (go_at_call 132; refine (HUS.out _ ?_).mono ?_; (· assumption); rintro r wA ⟨rfl, hA⟩; rw [← HU.out]; have hA1 : Below w.heap.size w wA := step_bel (by assumption) hA (by have := (‹Below w.heap.size w _›).size; omega); have p0 := keep_cell hA1 l1 x1; have p1 := keep_cell hA1 l3 x3; have p2 := keep_cell hA1 hdl c1)
              | (go_at_call 133; refine (HPUT.out _ ?_ _ (by have := HTT.out; omega)).mono ?_; (· assumption); rintro r wB hQ; obtain ⟨rfl, q0, q1, q2, HEND⟩ := put_keep HNB.out.1 HNB.out.2 l1 l3 x1 x3 HRP.out (by assumption) hQ))
          all_goals
            go_wp2_with fail
            go_end0
            exact HEND.out
        · have i0 : (0 : Int) ≤ (c : Int) := by omega
          go_region_held (fun w' => w'.cell? ⟨bd, 0, none⟩ = some (.pointer (some ⟨d, 0, none⟩)) ∧ w'.cell? ⟨bb, 0, none⟩ = some (.slice A n c) ∧ w'.cell? ⟨d, 1, none⟩ = some (.int .i64 R)) (go_keep)
            (first
              | (go_at_call 132; refine (HUS.out _ ?_).mono ?_; (· assumption); rintro r wA ⟨rfl, hA⟩; rw [← HU.out]; have hA1 : Below w.heap.size w wA := step_bel (by assumption) hA (by have := (‹Below w.heap.size w _›).size; omega); have p0 := keep_cell hA1 l1 x1; have p1 := keep_cell hA1 l3 x3; have p2 := keep_cell hA1 hdl c1)
              | (go_at_call 133; refine (HPUT.out _ ?_ _ (by have := HTT.out; omega)).mono ?_; (· assumption); rintro r wB hQ; obtain ⟨rfl, q0, q1, q2, HEND⟩ := put_keep HNB.out.1 HNB.out.2 l1 l3 x1 x3 HRP.out (by assumption) hQ))
          all_goals
            go_wp2_with fail
            go_end0
            exact HEND.out
      · by_cases a3 : 0 < (n : Int)
        · have i0 : (0 : Int) ≤ (n : Int) := by omega
          have i1 : (n : Int) ≤ (c : Int) := by omega
          go_region_held (fun w' => w'.cell? ⟨bd, 0, none⟩ = some (.pointer (some ⟨d, 0, none⟩)) ∧ w'.cell? ⟨bb, 0, none⟩ = some (.slice A n c) ∧ w'.cell? ⟨d, 1, none⟩ = some (.int .i64 R)) (go_keep)
            (first
              | (go_at_call 132; refine (HUS.out _ ?_).mono ?_; (· assumption); rintro r wA ⟨rfl, hA⟩; rw [← HU.out]; have hA1 : Below w.heap.size w wA := step_bel (by assumption) hA (by have := (‹Below w.heap.size w _›).size; omega); have p0 := keep_cell hA1 l1 x1; have p1 := keep_cell hA1 l3 x3; have p2 := keep_cell hA1 hdl c1)
              | (go_at_call 133; refine (HPUT.out _ ?_ _ (by have := HTT.out; omega)).mono ?_; (· assumption); rintro r wB hQ; obtain ⟨rfl, q0, q1, q2, HEND⟩ := put_keep HNB.out.1 HNB.out.2 l1 l3 x1 x3 HRP.out (by assumption) hQ))
          all_goals
            go_wp2_with fail
            go_end0
            exact HEND.out
        · have i0 : (0 : Int) ≤ (c : Int) := by omega
          go_region_held (fun w' => w'.cell? ⟨bd, 0, none⟩ = some (.pointer (some ⟨d, 0, none⟩)) ∧ w'.cell? ⟨bb, 0, none⟩ = some (.slice A n c) ∧ w'.cell? ⟨d, 1, none⟩ = some (.int .i64 R)) (go_keep)
            (first
              | (go_at_call 132; refine (HUS.out _ ?_).mono ?_; (· assumption); rintro r wA ⟨rfl, hA⟩; rw [← HU.out]; have hA1 : Below w.heap.size w wA := step_bel (by assumption) hA (by have := (‹Below w.heap.size w _›).size; omega); have p0 := keep_cell hA1 l1 x1; have p1 := keep_cell hA1 l3 x3; have p2 := keep_cell hA1 hdl c1)
              | (go_at_call 133; refine (HPUT.out _ ?_ _ (by have := HTT.out; omega)).mono ?_; (· assumption); rintro r wB hQ; obtain ⟨rfl, q0, q1, q2, HEND⟩ := put_keep HNB.out.1 HNB.out.2 l1 l3 x1 x3 HRP.out (by assumption) hQ))
          all_goals
            go_wp2_with fail
            go_end0
            exact HEND.out
    · have i2 : u ≤ (c : Int) := by omega
      by_cases a2 : R - U < u
      · by_cases a3 : 0 < R - U
        · have i0 : (0 : Int) ≤ R - U := by omega
          have i1 : R - U ≤ (c : Int) := by omega
          go_region_held (fun w' => w'.cell? ⟨bd, 0, none⟩ = some (.pointer (some ⟨d, 0, none⟩)) ∧ w'.cell? ⟨bb, 0, none⟩ = some (.slice A n c) ∧ w'.cell? ⟨d, 1, none⟩ = some (.int .i64 R)) (go_keep)
            (first
              | (go_at_call 132; refine (HUS.out _ ?_).mono ?_; (· assumption); rintro r wA ⟨rfl, hA⟩; rw [← HU.out]; have hA1 : Below w.heap.size w wA := step_bel (by assumption) hA (by have := (‹Below w.heap.size w _›).size; omega); have p0 := keep_cell hA1 l1 x1; have p1 := keep_cell hA1 l3 x3; have p2 := keep_cell hA1 hdl c1)
              | (go_at_call 133; refine (HPUT.out _ ?_ _ (by have := HTT.out; omega)).mono ?_; (· assumption); rintro r wB hQ; obtain ⟨rfl, q0, q1, q2, HEND⟩ := put_keep HNB.out.1 HNB.out.2 l1 l3 x1 x3 HRP.out (by assumption) hQ))
          all_goals
            go_wp2_with fail
            go_end0
            exact HEND.out
        · have i0 : (0 : Int) ≤ (c : Int) := by omega
          go_region_held (fun w' => w'.cell? ⟨bd, 0, none⟩ = some (.pointer (some ⟨d, 0, none⟩)) ∧ w'.cell? ⟨bb, 0, none⟩ = some (.slice A n c) ∧ w'.cell? ⟨d, 1, none⟩ = some (.int .i64 R)) (go_keep)
            (first
              | (go_at_call 132; refine (HUS.out _ ?_).mono ?_; (· assumption); rintro r wA ⟨rfl, hA⟩; rw [← HU.out]; have hA1 : Below w.heap.size w wA := step_bel (by assumption) hA (by have := (‹Below w.heap.size w _›).size; omega); have p0 := keep_cell hA1 l1 x1; have p1 := keep_cell hA1 l3 x3; have p2 := keep_cell hA1 hdl c1)
              | (go_at_call 133; refine (HPUT.out _ ?_ _ (by have := HTT.out; omega)).mono ?_; (· assumption); rintro r wB hQ; obtain ⟨rfl, q0, q1, q2, HEND⟩ := put_keep HNB.out.1 HNB.out.2 l1 l3 x1 x3 HRP.out (by assumption) hQ))
          all_goals
            go_wp2_with fail
            go_end0
            exact HEND.out
      · by_cases a3 : 0 < u
        · have i0 : (0 : Int) ≤ (c : Int) := by omega
          go_region_held (fun w' => w'.cell? ⟨bd, 0, none⟩ = some (.pointer (some ⟨d, 0, none⟩)) ∧ w'.cell? ⟨bb, 0, none⟩ = some (.slice A n c) ∧ w'.cell? ⟨d, 1, none⟩ = some (.int .i64 R)) (go_keep)
            (first
              | (go_at_call 132; refine (HUS.out _ ?_).mono ?_; (· assumption); rintro r wA ⟨rfl, hA⟩; rw [← HU.out]; have hA1 : Below w.heap.size w wA := step_bel (by assumption) hA (by have := (‹Below w.heap.size w _›).size; omega); have p0 := keep_cell hA1 l1 x1; have p1 := keep_cell hA1 l3 x3; have p2 := keep_cell hA1 hdl c1)
              | (go_at_call 133; refine (HPUT.out _ ?_ _ (by have := HTT.out; omega)).mono ?_; (· assumption); rintro r wB hQ; obtain ⟨rfl, q0, q1, q2, HEND⟩ := put_keep HNB.out.1 HNB.out.2 l1 l3 x1 x3 HRP.out (by assumption) hQ))
          all_goals
            go_wp2_with fail
            go_end0
            exact HEND.out
        · have i0 : (0 : Int) ≤ (c : Int) := by omega
          go_region_held (fun w' => w'.cell? ⟨bd, 0, none⟩ = some (.pointer (some ⟨d, 0, none⟩)) ∧ w'.cell? ⟨bb, 0, none⟩ = some (.slice A n c) ∧ w'.cell? ⟨d, 1, none⟩ = some (.int .i64 R)) (go_keep)
            (first
              | (go_at_call 132; refine (HUS.out _ ?_).mono ?_; (· assumption); rintro r wA ⟨rfl, hA⟩; rw [← HU.out]; have hA1 : Below w.heap.size w wA := step_bel (by assumption) hA (by have := (‹Below w.heap.size w _›).size; omega); have p0 := keep_cell hA1 l1 x1; have p1 := keep_cell hA1 l3 x3; have p2 := keep_cell hA1 hdl c1)
              | (go_at_call 133; refine (HPUT.out _ ?_ _ (by have := HTT.out; omega)).mono ?_; (· assumption); rintro r wB hQ; obtain ⟨rfl, q0, q1, q2, HEND⟩ := put_keep HNB.out.1 HNB.out.2 l1 l3 x1 x3 HRP.out (by assumption) hQ))
          all_goals
            go_wp2_with fail
            go_end0
            exact HEND.out
end Go.Proofs.YtciikcmiiebfpaaGreatDoor
end

/- Cut1 -/
section
/- Cut's function: what a step of it does. -/
namespace Go.Proofs.YtciikcmiiebfpaaGreatDoor
open Go Go.RowKit Go.Maps Go.Proofs.YtciikcmiiebfpaaGreatDoorW.PrintWords Go.Proofs.YtciikcmiiebfpaaGreatDoor.PTopicsGets Go.Proofs.YtciikcmiiebfpaaGreatDoorW.PrintMore
set_option linter.unusedVariables false

end Go.Proofs.YtciikcmiiebfpaaGreatDoor
end

/- Sync1 -/
section
/- Sync's and Remove's functions: what a step of them does. -/
namespace Go.Proofs.YtciikcmiiebfpaaGreatDoor
open Go Go.RowKit Go.Maps Go.Proofs.YtciikcmiiebfpaaGreatDoorW.PrintWords Go.Proofs.YtciikcmiiebfpaaGreatDoor.PTopicsGets Go.Proofs.YtciikcmiiebfpaaGreatDoorW.PrintMore
set_option linter.unusedVariables false

theorem sync_end {w w' : World} {d m N : Nat} {O O' : Nat → Own} {k : Dk} {pv : Value} {Z : List (Nm × (Nat × Fil))} {S : Nat → Prop} {x : Nm} {p : Nat} {f : Fil} (h : DA w d m O k N pv Z) (hS : ∀ b, S b ↔ O b ≠ .none) (hz : Go.Proofs.YtciikcmiiebfpaaGreatDoor.look Z x = some (p, f)) (hl : Go.Proofs.YtciikcmiiebfpaaGreatDoor.look k.files x = some f)
    (hF : File w' O' x p ⟨f.seen, f.seen, []⟩) (hT : Tch (OfFile O x) w w') (hG : Grew O O' x w.heap.size w'.heap.size) :
    Disk w' d (fun b => O' b ≠ .none) { k with files := upd k.files x ⟨f.seen, f.seen, []⟩ } N ∧ Tch S w w' ∧ ∀ b, O' b ≠ .none → S b ∨ w.heap.size ≤ b := by
  have hfo := h.ok.1 (x, f) (look_mem hl)
  refine ⟨⟨m, O', pv, _, h.turn_file hl hz hF hT.size (fun b hl hb => hT.block b hl hb) hG ⟨fun q hq => ?_, h.ok.2.1, h.ok.2.2.1, by show (upd k.files x _).length ≤ 256; rw [upd_length]; exact h.ok.2.2.2.1, h.ok.2.2.2.2⟩, fun b => Iff.rfl⟩, hT.mono (of_own hS), turn_foot hS hG⟩
  rcases mem_upd.1 hq with ⟨e, _⟩ | ⟨hq, _⟩
  · subst e
    have h1 := Wf.stop hfo.1
    exact ⟨Wf.refl h1.1 h1.2, Nat.zero_le _, hfo.2.2⟩
  · exact h.ok.1 q hq
set_option maxRecDepth 100000 in
set_option maxHeartbeats 2000000 in
theorem sync1_any (w : World) (d N : Nat) (S : Nat → Prop) (k : Dk) (s : ByteArray) (bd bn : Nat) (h : Disk w d S k N) (hs : s.size ≤ maxLen)
    (x1 : Box w bd (.pointer (some ⟨d, 0, none⟩))) (x2 : Box w bn (.string s)) :
    Calls Tryz.prog 135 #[.pointer (some ⟨bd, 0, none⟩), .pointer (some ⟨bn, 0, none⟩)] w (SPost S d N w (syncD s.data.toList k)) := by
  obtain ⟨m, O, pv, Z, h, hS⟩ := h
  obtain ⟨⟨c0, c1, _, _, _⟩, hdl⟩ := h.cells
  have l1 := x1.lt
  have l2 := x2.lt
  unfold Box at x1 x2
  have LK := h.look hs
  have HD := Lib.hid (show Disk w d S k N from ⟨m, O, pv, Z, h, hS⟩)
  have H := Lib.hid h
  have HS := Lib.hid hS
  have HLF := Lib.hid (h.look_files s.data.toList)
  cases hz : look Z s.data.toList with
  | none =>
    rw [hz] at LK HLF
    have HLK := Lib.hid LK
    simp only [Option.map_none, optr] at LK
    have HR : Hid (syncD s.data.toList k = (k, 183)) := by show _ = _; unfold syncD; rw [HLF.out]; rfl
    clear h hS hz
    go_enter Tryz.func135, Tryz.ntmps135
    go_wp2_with fail
    go_quiet (fail)
    go_wp2_with fail
    go_ret
    exact ⟨S, by rw [HR.out]; rfl, by rw [HR.out]; exact HD.out.below (pw_below_drewN (Below.refl _ _) _), Tch.of_below (pw_below_drewN (Below.refl _ _) _), fun b hb => .inl hb⟩
  | some pf =>
    obtain ⟨p, f⟩ := pf
    have hzm := look_mem hz
    rw [hz] at LK HLF
    simp only [Option.map_some, optr, fptr] at LK
    obtain ⟨sv, nv, cv, hF⟩ := h.file _ p f hzm
    obtain ⟨A1, q1, A2, q2, A3, q3, e1, e2, e3⟩ := hF.lens
    have hbig := (Wf.stop (h.ok.1 (s.data.toList, f) (look_mem (by rw [HLF.out]; rfl))).1).1
    simp only at hbig
    obtain ⟨n, hn⟩ : ∃ n, n = f.seen.length := ⟨_, rfl⟩
    rw [← hn] at e2 hbig
    subst e2
    have HF := Lib.hid hF
    have HN := Lib.hid hn
    have HZ := Lib.hid hz
    have HNL : Hid (n * 1 ≤ 140737488355328) := by show _ ≤ _; unfold big at hbig; omega
    have HR : Hid (syncD s.data.toList k = ({ k with files := upd k.files s.data.toList ⟨f.seen, f.seen, []⟩ }, 0)) := by show _ = _; unfold syncD; rw [HLF.out]; rfl
    clear h hS hz hzm hF e1 e3 hn hbig
    go_enter Tryz.func135, Tryz.ntmps135
    go_upto_region 1 with fail
    go_cut [3] from 4 to 9 (fun v wx => v = .pointer (some ⟨p, 0, none⟩) ∧ Below w.heap.size w wx)
    case first =>
      go_quiet (fail)
      go_wp2_with fail
      go_meet
      exact ⟨rfl, pw_below_drewN (Below.refl _ _) _⟩
    case rest =>
    obtain ⟨rfl, hb1⟩ := hcut
    rename World => w1
    have HB1 := Lib.hid hb1
    have HF1 := Lib.hid (HF.out.step (fun b hl _ => hb1.block b hl))
    obtain ⟨g0, g1, g2, r0, r1, r2, gl⟩ := HF1.out.see
    have HCS : Hid ((Kd.int .u8).C w1 A2 n f.seen) := by rw [HN.out]; exact (Kd.R_reads' HF1.out.seen).2.2
    clear hb1 LK
    go_upto_region 5 with (go_at_call 114; refine (clone_bytes A2 n q2 f.seen w1 HCS.out HNL.out).mono ?_; rintro r w3 ⟨v3, rfl, hv, hb⟩; obtain ⟨N5, B5, q5, rfl⟩ : ∃ n A q, v3 = .slice A n q := (by obtain ⟨A_, q_, e_⟩ := Kd.R_slice hv; exact ⟨_, A_, q_, e_⟩); obtain ⟨⟨d0, d1, d2, z0, z1, z2, hpl4⟩, ho⟩ := HF1.out.put_safe hv hb; have HB3 := Lib.hid hb; have HO := Lib.hid ho; clear hv hb ho)
    go_wp2_with fail
    go_ret
    rw [HR.out]
    have HT : Tch (OfFile O s.data.toList) w ((w3.setCell ⟨p, 0, none⟩ (.slice B5 N5 q5)).setCell ⟨p, 2, none⟩ (.slice none 0 0)) := (((Tch.of_below HB1.out).trans (Tch.of_below HB3.out)).trans (Tch.set _ ⟨p, 0, none⟩ _ (.inl HF.out.own))).trans (Tch.set _ ⟨p, 2, none⟩ _ (.inl HF.out.own))
    have HG : Grew O (paint O w1.heap.size w3.heap.size (.safe s.data.toList)) s.data.toList w.heap.size w3.heap.size := (Grew.refl (hi := w.heap.size) s.data.toList (fun b hb => H.out.new hb)).paint (lo' := w1.heap.size) (hi' := w3.heap.size) HB1.out.size (Nat.le_trans HB1.out.size HB3.out.size) (.inl rfl)
    have HQ := sync_end H.out HS.out HZ.out (by rw [HLF.out]; rfl) ⟨_, _, _, HO.out⟩ HT (by rw [set_size, set_size]; exact HG)
    exact ⟨_, rfl, HQ⟩

end Go.Proofs.YtciikcmiiebfpaaGreatDoor
end

/- Remove1 -/
section
/- Remove's function: what a step of it does. -/
namespace Go.Proofs.YtciikcmiiebfpaaGreatDoor
open Go Go.RowKit Go.Maps Go.Proofs.YtciikcmiiebfpaaGreatDoorW.PrintWords Go.Proofs.YtciikcmiiebfpaaGreatDoor.PTopicsGets Go.Proofs.YtciikcmiiebfpaaGreatDoorW.PrintMore
set_option linter.unusedVariables false
theorem some_m {w1 w2 : World} {m : Nat} (hg : w1.grownBy w2 (some m)) {S : Nat → Prop} (hm : S m) : Tch S w1 w2 := Tch.of_grown hg (fun k hk => by rw [← Option.some.inj hk]; exact hm)

end Go.Proofs.YtciikcmiiebfpaaGreatDoor
end
