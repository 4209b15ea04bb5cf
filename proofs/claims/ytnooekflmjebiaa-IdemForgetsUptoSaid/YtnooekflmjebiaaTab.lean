/- The table as a whole: what it remembers as a function; Judge and Note of any arguments. -/
import Derived.Test.YtnooekflmjebiaaJudgeX
namespace Go.Proofs.Ytnooekflmjebiaa
open Go Go.RowKit Go.Shelf
set_option linter.unusedVariables false

/-- A remembered batch in its range. -/
def OkMk (k : Mk) : Prop := (0 ≤ k.seq ∧ k.seq ≤ 2147483647) ∧ (1 ≤ k.count ∧ k.count ≤ 256) ∧ 0 ≤ k.base ∧ k.base ≤ 9223372036854775807
def OkM (m : Int × List Mk) : Prop := 0 ≤ m.1 ∧ m.1 ≤ 32767 ∧ 0 < m.2.length ∧ m.2.length ≤ 5 ∧ ∀ k ∈ m.2, OkMk k
/-- What is remembered, in its range. -/
def GOK (g : Int → Option (Int × List Mk)) : Prop := ∀ x m, g x = some m → 0 ≤ x ∧ x ≤ 9223372036854775807 ∧ OkM m

def judgeT (g : Int → Option (Int × List Mk)) (p ep s c : Int) : Int × Bool × Int := if badI p ep s c = true then (0, false, 3) else if p = -1 then (0, false, 0) else judgeM (g p) ep s c
def noteT (g : Int → Option (Int × List Mk)) (p ep s c base : Int) : (Int → Option (Int × List Mk)) × Int :=
  if badI p ep s c = true ∨ (0 ≤ p ∧ base < 0) then (g, 3) else if p = -1 then (g, 0) else (fun x => if x = p then some (noteM (g p) ep ⟨s, c, base⟩) else g x, 0)

theorem badI_no {p ep s c : Int} (h : badI p ep s c = false) (hp : p ≠ -1) : 0 ≤ p ∧ 0 ≤ ep ∧ 0 ≤ s ∧ 1 ≤ c ∧ c ≤ 256 := by
  unfold badI at h
  split at h
  · simp [hp] at h
  · simp only [decide_eq_false_iff_not] at h
    omega
theorem noteM_ok {m : Option (Int × List Mk)} (hm : ∀ x, m = some x → OkM x) {ep : Int} {k : Mk} (he : 0 ≤ ep) (he2 : ep ≤ 32767) (hk : OkMk k) : OkM (noteM m ep k) := by
  cases m with
  | none => exact ⟨he, he2, by simp [noteM], by simp [noteM], fun x hx => by simp [noteM] at hx; rw [hx]; exact hk⟩
  | some m =>
    obtain ⟨e, ms⟩ := m
    obtain ⟨h0, h01, h1, h2, h3⟩ := hm _ rfl
    simp only [noteM]
    split
    · exact ⟨he, he2, by simp, by simp, fun x hx => by simp at hx; rw [hx]; exact hk⟩
    · simp only at h1 h2
      refine ⟨he, he2, by simp; omega, by simp; omega, fun x hx => ?_⟩
      rcases List.mem_append.1 (List.mem_of_mem_drop hx) with h | h
      · exact h3 x h
      · simp at h; rw [h]; exact hk
theorem noteT_ok {g : Int → Option (Int × List Mk)} (hg : GOK g) {p ep s c base : Int} (hp : p ≤ 9223372036854775807) (hep : ep ≤ 32767) (hs : s ≤ 2147483647) (hb : base ≤ 9223372036854775807) : GOK (noteT g p ep s c base).1 := by
  unfold noteT
  split
  · exact hg
  · rename_i h
    split
    · exact hg
    · rename_i hp1
      have hbad : badI p ep s c = false := by
        cases hb : badI p ep s c
        · rfl
        · exact absurd (.inl hb) h
      obtain ⟨h0, h1, h2, h3, h4⟩ := badI_no hbad hp1
      intro x m hx
      simp only at hx
      by_cases hxp : x = p
      · rw [if_pos hxp] at hx
        injection hx with hx
        subst hx
        exact ⟨by omega, by omega, noteM_ok (fun y hy => (hg _ _ hy).2.2) h1 hep ⟨⟨h2, hs⟩, ⟨h3, h4⟩, by show 0 ≤ base; omega, hb⟩⟩
      · rw [if_neg hxp] at hx
        exact hg _ _ hx

/-- An element of the map. -/
def Elem (w : World) (v : Value) (m : Int × List Mk) : Prop :=
  ∃ gb go cap, v = .agg #[.int .i16 m.1, .slice (some ⟨gb, go, none⟩) m.2.length cap] ∧ (∃ cs, w.heap[gb]? = some (.cells cs 66 (0, 0))) ∧ ∀ j k, m.2[j]? = some k → MkAt w gb (go + j * 3) k
/-- The table. -/
def Tab (w : World) (t b n : Nat) (g : Int → Option (Int × List Mk)) : Prop :=
  ∃ f, TB w t b n f ∧ GOK g ∧ ∀ x, (g x = none → f x = none) ∧ ∀ m, g x = some m → ∃ v, f x = some v ∧ Elem w v m

theorem Mp.is_map {w : World} {b n : Nat} {f : Int → Option Value} (h : Mp w b n f) : ∃ es c, w.heap[b]? = some (.map es c) := by
  obtain ⟨D, ⟨es, clock, h1, _⟩, _⟩ := h
  exact ⟨es, clock, h1⟩
theorem Elem.kept {w w' : World} {v : Value} {m : Int × List Mk} {b : Nat} (h : Elem w v m) (hk : Kept (fun j => j = b) w w') (hb : ∃ es c, w.heap[b]? = some (.map es c)) : Elem w' v m := by
  obtain ⟨gb, go, cap, rfl, ⟨cs, hc⟩, hat⟩ := h
  have hgb : gb < w.heap.size := (Array.getElem?_eq_some_iff.1 hc).1
  have hne : gb ≠ b := by
    rintro rfl
    obtain ⟨es, c, h2⟩ := hb
    rw [hc] at h2
    cases h2
  exact ⟨gb, go, cap, rfl, ⟨cs, (hk.block gb hgb hne).trans hc⟩, fun j k hj => ⟨(hk.cell (a := ⟨gb, go + j * 3, none⟩) hgb hne).trans (hat j k hj).c0, (hk.cell (a := ⟨gb, go + j * 3 + 1, none⟩) hgb hne).trans (hat j k hj).c1, (hk.cell (a := ⟨gb, go + j * 3 + 2, none⟩) hgb hne).trans (hat j k hj).c2⟩⟩
theorem Elem.below {w w' : World} {v : Value} {m : Int × List Mk} (h : Elem w v m) (hb : Below w.heap.size w w') : Elem w' v m := by
  obtain ⟨gb, go, cap, rfl, ⟨cs, hc⟩, hat⟩ := h
  have hgb : gb < w.heap.size := (Array.getElem?_eq_some_iff.1 hc).1
  exact ⟨gb, go, cap, rfl, ⟨cs, (hb.block gb hgb).trans hc⟩, fun j k hj => (hat j k hj).below hb hgb⟩
theorem Elem.blocks {w w' : World} {v : Value} {m : Int × List Mk} (h : Elem w v m) (hb : ∀ (k : Nat) (cs : Array Value), w.heap[k]? = some (Obj.cells cs 66 (0, 0)) → w'.heap[k]? = w.heap[k]?) : Elem w' v m := by
  obtain ⟨gb, go, cap, rfl, ⟨cs, hc⟩, hat⟩ := h
  have hbl := hb gb cs hc
  exact ⟨gb, go, cap, rfl, ⟨cs, hbl.trans hc⟩, fun j k hj => ⟨(World.cell?_of_block (w := w) (a := ⟨gb, go + j * 3, none⟩) hbl).trans (hat j k hj).c0, (World.cell?_of_block (w := w) (a := ⟨gb, go + j * 3 + 1, none⟩) hbl).trans (hat j k hj).c1, (World.cell?_of_block (w := w) (a := ⟨gb, go + j * 3 + 2, none⟩) hbl).trans (hat j k hj).c2⟩⟩
/-- A row of another type has grown. -/
theorem Tab.grown {w w' : World} {t b n : Nat} {g : Int → Option (Int × List Mk)} {row : Option Nat} (h : Tab w t b n g) (hg : w.grownBy w' row) (hr : ∀ k, row = some k → ∃ cs q, w.heap[k]? = some (.cells cs q (0, 0)) ∧ q ≠ 66 ∧ q ≠ 56) : Tab w' t b n g := by
  obtain ⟨f, hT, hgg, hf⟩ := h
  have h1 : ∀ (k : Nat) (cs : Array Value) (q : TypeId), w.heap[k]? = some (Obj.cells cs q (0, 0)) → (q = 66 ∨ q = 56) → w'.heap[k]? = w.heap[k]? := fun k cs q hk hq => hg.block k (Array.getElem?_eq_some_iff.1 hk).1 (fun e => by
    obtain ⟨cs', q', hk', n1, n2⟩ := hr k e.symm
    rw [hk] at hk'
    injection hk' with hk'
    injection hk' with _ hk'
    rcases hq with hq | hq
    · exact n1 (by rw [← hk', hq])
    · exact n2 (by rw [← hk', hq]))
  have h2 : w'.heap[b]? = w.heap[b]? := by
    obtain ⟨es, c, hb⟩ := hT.mp.is_map
    exact hg.block b hT.lt.2 (fun e => by
      obtain ⟨cs', q', hk', _⟩ := hr b e.symm
      rw [hb] at hk'
      cases hk')
  obtain ⟨cs, hcs⟩ := hT.ty
  have h3 := h1 t cs _ hcs (.inr rfl)
  exact ⟨f, ⟨(World.cell?_of_block (w := w) (a := ⟨t, 0, none⟩) h3).trans hT.c, hT.mp.kept h2, hT.ne, cs, h3.trans hcs⟩, hgg, fun x => ⟨(hf x).1, fun m hm => by obtain ⟨v, e1, e2⟩ := (hf x).2 m hm; exact ⟨v, e1, e2.blocks (fun k cs hk => h1 k cs _ hk (.inl rfl))⟩⟩⟩
theorem Tab.below {w w' : World} {t b n : Nat} {g : Int → Option (Int × List Mk)} (h : Tab w t b n g) (hb : Below w.heap.size w w') : Tab w' t b n g := by
  obtain ⟨f, hT, hg, hf⟩ := h
  exact ⟨f, ⟨(hb.cell (p := ⟨t, 0, none⟩) hT.lt.1).trans hT.c, hT.mp.below hb, hT.ne, by obtain ⟨cs, hc⟩ := hT.ty; exact ⟨cs, (hb.block t hT.lt.1).trans hc⟩⟩, hg, fun x => ⟨(hf x).1, fun m hm => by obtain ⟨v, h1, h2⟩ := (hf x).2 m hm; exact ⟨v, h1, h2.below hb⟩⟩⟩
/-- Another table has been written. -/
theorem Tab.other {w w' : World} {t b n b' n' : Nat} {g : Int → Option (Int × List Mk)} {f' : Int → Option Value} (h : Tab w t b n g) (hk : Kept (fun j => j = b') w w') (hb' : Mp w b' n' f') (hne : b' ≠ b) : Tab w' t b n g := by
  obtain ⟨f, hT, hg, hf⟩ := h
  have htb : t ≠ b' := by
    rintro rfl
    obtain ⟨es, c, h2⟩ := hb'.is_map
    have := hT.c
    unfold World.cell? at this
    simp only at this
    rw [h2] at this
    cases this
  exact ⟨f, hT.kept hk htb (fun e => hne e.symm), hg, fun x => ⟨(hf x).1, fun m hm => by obtain ⟨v, h1, h2⟩ := (hf x).2 m hm; exact ⟨v, h1, h2.kept hk hb'.is_map⟩⟩⟩
theorem Tab.mp {w : World} {t b n : Nat} {g : Int → Option (Int × List Mk)} (h : Tab w t b n g) : ∃ f, Mp w b n f := by obtain ⟨f, hT, _⟩ := h; exact ⟨f, hT.mp⟩

theorem jpost_of {x : Int × Bool × Int} {w : World} {r : Ending} {w' : World} (h1 : r = .returned (.tuple #[.int .i64 x.1, .bool x.2.1, .int .i64 x.2.2])) (h2 : Below w.heap.size w w') : jpost x w r w' := ⟨h1, h2⟩

/-- Judge of any arguments. -/
theorem judge_any (t b n : Nat) (g : Int → Option (Int × List Mk)) (p ep s c : Int) (w : World) (h : Tab w t b n g) (hp : wf64 p) :
    Calls Try.prog 9 #[.pointer (some ⟨t, 0, none⟩), .int .i64 p, .int .i16 ep, .int .i32 s, .int .i64 c] w (jpost (judgeT g p ep s c) w) := by
  obtain ⟨f, hT, hg, hf⟩ := h
  unfold judgeT
  cases hb : badI p ep s c with
  | true => rw [if_pos rfl]; exact judge_bad t b n f p ep s c w hb
  | false =>
    rw [if_neg (by decide)]
    by_cases hp1 : p = -1
    · rw [if_pos hp1]
      have hgn : g p = none := by
        cases hgp : g p with
        | none => rfl
        | some m => have := (hg p m hgp).1; omega
      exact judge_early t b n f p ep s c 0 w hT hp (.inl ⟨hp1, hb, (hf p).1 hgn, rfl⟩)
    · rw [if_neg hp1]
      obtain ⟨h0, h1, h2, h3, h4⟩ := badI_no hb hp1
      cases hgp : g p with
      | none => exact (judge_none t b n f p ep s c w hT hp h0 hb ((hf p).1 hgp)).mono fun r w' h => ⟨h.1, h.2⟩
      | some m =>
        obtain ⟨e, ms⟩ := m
        obtain ⟨v, hv, gb, go, cap, rfl, ⟨cs, hcs⟩, hat⟩ := (hf p).2 _ hgp
        have hgb : gb < w.heap.size := (Array.getElem?_eq_some_iff.1 hcs).1
        obtain ⟨_, _, ok0, ok01, ok1, ok2, ok3⟩ := hg p _ hgp
        by_cases he1 : ep < e
        · have : judgeM (some (e, ms)) ep s c = (0, false, 210) := by simp only [judgeM]; rw [if_pos he1]
          rw [this]
          exact judge_early t b n f p ep s c 210 w hT hp (.inr ⟨hp1, hb, e, _, _, _, hv, .inl ⟨he1, rfl⟩⟩)
        · by_cases he2 : e < ep
          · by_cases hs : s = 0
            · have : judgeM (some (e, ms)) ep s c = (0, false, 0) := by simp only [judgeM]; rw [if_neg he1, if_pos he2, if_neg (by simp [hs])]
              rw [this]
              exact judge_early t b n f p ep s c 0 w hT hp (.inr ⟨hp1, hb, e, _, _, _, hv, .inr (.inr ⟨he2, hs, rfl⟩)⟩)
            · have : judgeM (some (e, ms)) ep s c = (0, false, 211) := by simp only [judgeM]; rw [if_neg he1, if_pos he2, if_pos hs]
              rw [this]
              exact judge_early t b n f p ep s c 211 w hT hp (.inr ⟨hp1, hb, e, _, _, _, hv, .inr (.inl ⟨he2, hs, rfl⟩)⟩)
          · obtain rfl : e = ep := by omega
            exact judge_same t b n f p e s c ms w hT hp h0 hb _ hv gb go cap rfl ok2 ok1 hgb hat (fun m hm => ⟨(ok3 m hm).1, (ok3 m hm).2.1⟩)
end Go.Proofs.Ytnooekflmjebiaa
