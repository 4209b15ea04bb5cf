/- Note of any arguments, over the whole table. -/
import Derived.Test.YtnooekflmjebiaaTab
namespace Go.Proofs.Ytnooekflmjebiaa
open Go Go.RowKit
set_option linter.unusedVariables false

set_option maxRecDepth 100000 in
set_option maxHeartbeats 1000000 in
theorem note_early (t : Nat) (p e s c base z : Int) (w : World) (h : (badI p e s c = true ∧ z = 3) ∨ (badI p e s c = false ∧ 0 ≤ p ∧ base < 0 ∧ z = 3) ∨ (badI p e s c = false ∧ p = -1 ∧ z = 0)) :
    Calls Try.prog 10 #[.pointer (some ⟨t, 0, none⟩), .int .i64 p, .int .i16 e, .int .i32 s, .int .i64 c, .int .i64 base] w fun r w' => r = .returned (.int .i64 z) ∧ w' = w := by
  rcases h with ⟨hb, rfl⟩ | ⟨hb, h1, h2, rfl⟩ | ⟨hb, rfl, rfl⟩
  all_goals
    have HBAD := Lib.hid hb
    clear hb
    go_enter Try.func10, Try.ntmps10
    go_wp2_with (go_at_call 18; refine (bad_any _ _ _ _ _).mono ?_; rintro r w' ⟨rfl, rfl⟩; rw [HBAD.out])
    go_ret
    exact ⟨rfl, rfl⟩

theorem Elem.mem {w : World} {v : Value} {m : Int × List Mk} (h : Elem w v m) (hm : 0 < m.2.length) : Mem w v m.1 m.2 := by
  obtain ⟨gb, go, cap, rfl, ⟨cs, hcs⟩, hat⟩ := h
  refine ⟨_, _, rfl, ⟨mkVals_length _, fun _ => ⟨_, rfl, (Array.getElem?_eq_some_iff.1 hcs).1, fun j u hu => ?_⟩⟩, fun h => (by cases h), fun a ha => by cases ha; exact ⟨cs, hcs⟩⟩
  have hj : j < m.2.length * 3 := by
    have := (List.getElem?_eq_some_iff.1 hu).1
    rwa [mkVals_length] at this
  obtain ⟨k, hk⟩ : ∃ k, m.2[j / 3]? = some k := ⟨_, List.getElem?_eq_getElem (by omega)⟩
  have hk' := hat _ _ hk
  have hv := mkVals_get m.2 (j / 3) k hk (j % 3) (by omega)
  rw [show j / 3 * 3 + j % 3 = j by omega, hu] at hv
  rw [add_off]
  have hj3 : j % 3 = 0 ∨ j % 3 = 1 ∨ j % 3 = 2 := by omega
  rcases hj3 with h3 | h3 | h3
  · rw [h3] at hv
    rw [show go + j = go + j / 3 * 3 by omega, hk'.c0]
    exact hv.symm
  · rw [h3] at hv
    rw [show go + j = go + j / 3 * 3 + 1 by omega, hk'.c1]
    exact hv.symm
  · rw [h3] at hv
    rw [show go + j = go + j / 3 * 3 + 2 by omega, hk'.c2]
    exact hv.symm
theorem Mem.elem {w : World} {v : Value} {e : Int} {ms : List Mk} (h : Mem w v e ms) (hm : 0 < ms.length) : Elem w v (e, ms) := by
  obtain ⟨A, c, rfl, hr, _, hty⟩ := h
  obtain ⟨a, rfl, hl, hx⟩ := hr.mk hm
  obtain ⟨cs, hcs⟩ := hty _ rfl
  obtain ⟨b, o, sp⟩ := a
  obtain ⟨k, hk⟩ : ∃ k, ms[0]? = some k := ⟨_, List.getElem?_eq_getElem hm⟩
  have h00 := (hx 0 k hk).1
  have hspot : sp = none := by simpa [Addr.add] using World.cell?_spot h00
  subst hspot
  refine ⟨b, o, c, rfl, ⟨cs, hcs⟩, fun j k hj => ?_⟩
  have := hx j k hj
  simp only [add_off] at this
  exact ⟨this.1, this.2.1, this.2.2⟩

theorem Tab.noted {w w' : World} {t b n : Nat} {f : Int → Option Value} {g : Int → Option (Int × List Mk)} {p : Int} {m : Int × List Mk} {v : Value} (hg : GOK g) (hf : ∀ x, (g x = none → f x = none) ∧ ∀ m, g x = some m → ∃ v, f x = some v ∧ Elem w v m)
    (hb : ∃ es c, w.heap[b]? = some (.map es c)) (hk : Kept (fun j => j = b) w w') (hT : TB w' t b n (fun y => if y = p then some v else f y)) (he : Elem w' v m) (hg' : GOK (fun x => if x = p then some m else g x)) : Tab w' t b n (fun x => if x = p then some m else g x) := by
  refine ⟨_, hT, hg', fun x => ?_⟩
  by_cases hx : x = p
  · simp only [hx, if_true]
    exact ⟨fun h => (by cases h), fun m' hm => by injection hm with hm; subst hm; exact ⟨v, rfl, he⟩⟩
  · simp only [hx, if_false]
    refine ⟨(hf x).1, fun m' hm => ?_⟩
    obtain ⟨v', h1, h2⟩ := (hf x).2 m' hm
    exact ⟨v', h1, h2.kept hk hb⟩

/-- Note of any arguments. -/
theorem note_any (t b n : Nat) (g : Int → Option (Int × List Mk)) (p ep s c base : Int) (w : World) (h : Tab w t b n g) (hp : wf64 p) (hep : ep ≤ 32767) (hs : s ≤ 2147483647) (hbase : base ≤ 9223372036854775807) (hn : n < maxLen) :
    Calls Try.prog 10 #[.pointer (some ⟨t, 0, none⟩), .int .i64 p, .int .i16 ep, .int .i32 s, .int .i64 c, .int .i64 base] w fun r w' =>
      r = .returned (.int .i64 (noteT g p ep s c base).2) ∧ Tab w' t b (n + 1) (noteT g p ep s c base).1 ∧ Kept (fun j => j = b) w w' := by
  have hok := noteT_ok h.choose_spec.2.1 hp.2 hep hs hbase (p := p) (c := c)
  obtain ⟨f, hT, hg, hf⟩ := h
  have hTn : Tab w t b (n + 1) g := ⟨f, ⟨hT.c, by obtain ⟨D, h1, h2⟩ := hT.mp; exact ⟨D, h1.mono (Nat.le_succ _), h2⟩, hT.ne, hT.ty⟩, hg, hf⟩
  unfold noteT at hok ⊢
  by_cases hbb : badI p ep s c = true ∨ (0 ≤ p ∧ base < 0)
  · rw [if_pos hbb]
    refine (note_early t p ep s c base 3 w ?_).mono fun r w' h => ⟨h.1, h.2 ▸ hTn, h.2 ▸ Kept.refl _ _⟩
    cases hb : badI p ep s c with
    | true => exact .inl ⟨rfl, rfl⟩
    | false =>
      rcases hbb with h | h
      · rw [hb] at h; cases h
      · exact .inr (.inl ⟨rfl, h.1, h.2, rfl⟩)
  · rw [if_neg hbb] at hok ⊢
    have hb : badI p ep s c = false := by
      cases hb : badI p ep s c
      · rfl
      · exact absurd (.inl hb) hbb
    by_cases hp1 : p = -1
    · rw [if_pos hp1]
      exact (note_early t p ep s c base 0 w (.inr (.inr ⟨hb, hp1, rfl⟩))).mono fun r w' h => ⟨h.1, h.2 ▸ hTn, h.2 ▸ Kept.refl _ _⟩
    · rw [if_neg hp1] at hok ⊢
      obtain ⟨h0, h1, h2, h3, h4⟩ := badI_no hb hp1
      have hb0 : 0 ≤ base := by
        rcases Int.lt_or_le base 0 with h | h
        · exact absurd (.inr ⟨h0, h⟩) hbb
        · exact h
      cases hgp : g p with
      | none =>
        have hfp : (f p).getD zmem = zmem := by rw [(hf p).1 hgp]; rfl
        rw [hgp] at hok
        simp only [noteM] at hok ⊢
        by_cases he : ep = 0
        · refine (note_same t b n f p ep s c base [] w hT hp h0 hb0 hb (by rw [hfp, he]; exact Mem.zero w) (by decide) hn).mono fun r w' ⟨e1, v, e2, e3, e4⟩ => ⟨e1, ?_, e4⟩
          exact Tab.noted hg hf hT.mp.is_map e4 e2 (e3.elem (by simp)) hok
        · refine (note_new t b n f p ep s c base 0 [] w hT hp h0 hb0 hb (by rw [hfp]; exact Mem.zero w) (fun h => he h.symm) hn).mono fun r w' ⟨e1, v, e2, e3, e4⟩ => ⟨e1, ?_, e4⟩
          exact Tab.noted hg hf hT.mp.is_map e4 e2 (e3.elem (by simp)) hok
      | some m =>
        obtain ⟨e, ms⟩ := m
        obtain ⟨v0, hv0, hel⟩ := (hf p).2 _ hgp
        obtain ⟨_, _, ok0, ok01, ok1, ok2, ok3⟩ := hg p _ hgp
        have hmem := hel.mem ok1
        rw [hgp] at hok
        simp only [noteM] at hok ⊢
        simp only at ok1 ok2 hmem
        by_cases he : e = ep
        · subst he
          simp only [ne_eq, not_true, if_false] at hok ⊢
          refine (note_same t b n f p e s c base ms w hT hp h0 hb0 hb (by rw [hv0]; exact hmem) ok2 hn).mono fun r w' ⟨e1, v, e2, e3, e4⟩ => ⟨e1, ?_, e4⟩
          exact Tab.noted hg hf hT.mp.is_map e4 e2 (e3.elem (by simp; omega)) hok
        · simp only [ne_eq, he, not_false_eq_true, if_true] at hok ⊢
          refine (note_new t b n f p ep s c base e ms w hT hp h0 hb0 hb (by rw [hv0]; exact hmem) he hn).mono fun r w' ⟨e1, v, e2, e3, e4⟩ => ⟨e1, ?_, e4⟩
          exact Tab.noted hg hf hT.mp.is_map e4 e2 (e3.elem (by simp)) hok
end Go.Proofs.Ytnooekflmjebiaa
