/- topics: the map of logs; Size and Dead range over it. -/
import Derived.Test.YtciikcmiiebfpaaGreatDoorTopP
import Derived.Test.YtciikcmiiebfpaaGreatDoorTopC
import Derived.Test.YtciikcmiiebfpaaGreatDoorPlogA
namespace Go.Proofs.YtciikcmiiebfpaaGreatDoor
open Go Go.RowKit Go.Maps Go.WideMaps Go.Proofs.YtciikcmiiebfpaaGreatDoorW.PrintWords Go.Proofs.YtciikcmiiebfpaaGreatDoor.PTopicsGets Go.Proofs.YtciikcmiiebfpaaGreatDoorW.PrintMore
set_option linter.unusedVariables false
set_option linter.unusedSimpArgs false

/-- Block b is a map of parts that holds the list. -/
def PM (w : World) (b : Nat) (L : List (Nm × Nat)) : Prop := w.ownsMap Tryz.prog 67 raw b L.length (dat L)
theorem zeroL (w : World) : (zeroValue 41).run Tryz.prog w = .ok (.pointer none) w := by kernel_rfl
theorem PM.of {w : World} {b n : Nat} {L : List (Nm × Nat)} (h : w.ownsMap Tryz.prog 67 raw b n (dat L)) : PM w b L := by
  obtain ⟨es, clock, h1, h2, h3, h4⟩ := h
  refine ⟨es, clock, h1, h2, ?_, h4⟩
  unfold dat at h4
  injection h4 with h4
  have h5 : L.length = es.size := by
    have := congrArg List.length h4
    rw [length_sorted, List.length_map, List.length_map, Array.length_toList] at this
    exact this
  exact Nat.le_of_eq h5.symm
theorem PM.lt {w : World} {b : Nat} {L : List (Nm × Nat)} (h : PM w b L) : b < w.heap.size := World.ownsMap.lt h
theorem PM.kept {w w' : World} {b : Nat} {L : List (Nm × Nat)} (h : PM w b L) (hb : w'.heap[b]? = w.heap[b]?) : PM w' b L := by
  obtain ⟨es, clock, h1, h2⟩ := h
  exact ⟨es, clock, hb.trans h1, h2⟩
theorem PM.below {w w' : World} {b : Nat} {L : List (Nm × Nat)} (h : PM w b L) (hb : Below w.heap.size w w') : PM w' b L := h.kept (hb.block b h.lt)
theorem PM.is_map {w : World} {b : Nat} {L : List (Nm × Nat)} (h : PM w b L) : ∃ es c, w.heap[b]? = some (.map es c) := by
  obtain ⟨es, clock, h1, _⟩ := h
  exact ⟨es, clock, h1⟩
theorem PM.apart {w : World} {b : Nat} {L : List (Nm × Nat)} (h : PM w b L) : L.Pairwise fun p q => p.1 ≠ q.1 := by
  obtain ⟨es, e, hp⟩ := World.ownsMap.tidy h keyedP
  unfold dat at e
  injection e with e
  rw [← e] at hp
  refine (List.pairwise_map.1 hp).imp (fun h h2 => h ?_)
  simp only [h2]
theorem PM.made (w : World) : PM (w.alloc (.map #[] 0)) w.heap.size [] := World.ownsMap_made _ _ _ _
theorem has_look (L : List (Nm × Nat)) (x : Nm) : Maps.has (dat L) (.string x) = (look L x).isSome := by
  unfold dat look
  rw [has_eq, List.any_map, Option.isSome_map, Bool.eq_iff_iff, List.any_eq_true, List.find?_isSome]
  exact Iff.rfl
theorem PM.look_run {w : World} {b : Nat} {L : List (Nm × Nat)} (h : PM w b L) {s : ByteArray} (hs : s.size ≤ maxLen) {p : Int} (hp : -2147483648 ≤ p ∧ p ≤ 2147483647) :
    (Instr.lookup 59 (.map (some b)) (plc s p) true).run Tryz.prog w = .ok (.tuple #[optr (look L (pk s p)), .bool (look L (pk s p)).isSome]) w := by
  obtain ⟨v, ps, hrun, hv⟩ := World.ownsMap.look_ok h keyedP Tryz.underlying59 (zeroL w) (zd := .held (.pointer none)) (zp := []) rfl (hkeyP hs hp)
  rw [dat_at] at hv
  unfold raw at hv
  simp only [Option.some.injEq, Prod.mk.injEq, DataW.held.injEq] at hv
  rw [hrun, hv.1, has_look]
theorem PM.put_run {w : World} {b : Nat} {L : List (Nm × Nat)} (h : PM w b L) (hn : L.length < maxLen) {s : ByteArray} (hs : s.size ≤ maxLen) {p : Int} (hp : -2147483648 ≤ p ∧ p ≤ 2147483647) (l : Nat) :
    ∃ w', (Instr.mapUpdate 59 (.map (some b)) (plc s p) (fptr l)).run Tryz.prog w = .ok () w' ∧ PM w' b (put L (pk s p) l) ∧ w.grownBy w' (some b) := by
  obtain ⟨w', hrun, r1, r2⟩ := World.ownsMap.update h keyedP Tryz.underlying59 hn (val := fptr l) (d := .held (fptr l)) (ps := []) (hkeyP hs hp) rfl
  rw [dat_put] at r1
  exact ⟨w', hrun, PM.of r1, r2⟩
/-- What is met in a range. -/
theorem dat_met {L : List (Nm × Nat)} {kl : Lit} {c : Value} (h : ∀ zd, (dat L).atKey kl zd = .held c) : ∃ p ∈ L, kl = .string p.1 ∧ c = fptr p.2 := by
  unfold dat DataW.atKey at h
  simp only at h
  rw [List.find?_map] at h
  cases hf : L.find? ((fun p : Lit × DataW Value => p.1.sameKey kl) ∘ fun p : Nm × Nat => (Lit.string p.1, DataW.held (fptr p.2))) with
  | none =>
    rw [hf] at h
    have h1 := h (.held (.bool true))
    have h2 := h (.held (.bool false))
    simp at h1 h2
    rw [← h1] at h2
    cases h2
  | some p =>
    rw [hf] at h
    have h1 := h (.held (.bool true))
    have h2 := List.find?_some hf
    have h3 := WideAt.sameKey_eq (show (Lit.string p.1).sameKey kl = true from h2)
    simp at h1
    exact ⟨p, List.mem_of_find?_eq_some hf, h3.symm, h1.symm⟩
/-- The sum over what is not left. -/
def sumG (f : Nat → Int) (left : Lit → Bool) : List (Nm × Nat) → Int
  | [] => 0
  | p :: r => (if left (.string p.1) then 0 else f p.2) + sumG f left r
def sumL (f : Nat → Int) : List (Nm × Nat) → Int
  | [] => 0
  | p :: r => f p.2 + sumL f r
theorem sumG_all (f : Nat → Int) (left : Lit → Bool) (h : ∀ kl, left kl = false) : ∀ L, sumG f left L = sumL f L
  | [] => rfl
  | p :: r => by rw [sumG, sumL, sumG_all f left h r, h]; rfl
theorem sumG_none (f : Nat → Int) (left : Lit → Bool) : ∀ L : List (Nm × Nat), (∀ p ∈ L, left (.string p.1) = true) → sumG f left L = 0
  | [], _ => rfl
  | p :: r, h => by rw [sumG, sumG_none f left r (fun q hq => h q (List.mem_cons_of_mem _ hq)), h p (List.mem_cons_self ..)]; rfl
theorem sumG_same (f : Nat → Int) (left left' : Lit → Bool) : ∀ L : List (Nm × Nat), (∀ p ∈ L, left (.string p.1) = left' (.string p.1)) → sumG f left L = sumG f left' L
  | [], _ => rfl
  | p :: r, h => by rw [sumG, sumG, sumG_same f left left' r (fun q hq => h q (List.mem_cons_of_mem _ hq)), h p (List.mem_cons_self ..)]
theorem sumG_step (f : Nat → Int) (left : Lit → Bool) : ∀ (L : List (Nm × Nat)), L.Pairwise (fun p q => p.1 ≠ q.1) → ∀ p ∈ L, left (.string p.1) = true → sumG f (fun z => left z && !z.sameKey (.string p.1)) L = sumG f left L + f p.2
  | [], _, p, hp, _ => nomatch hp
  | q :: r, hap, p, hp, hl => by
    rw [List.pairwise_cons] at hap
    rw [sumG, sumG]
    rcases List.mem_cons.1 hp with rfl | hp
    · rw [sumG_same f _ left r (fun x hx => by
        have : (Lit.string x.1).sameKey (.string p.1) = false := by rw [same_str]; exact beq_eq_false_iff_ne.2 (fun e => hap.1 x hx e.symm)
        simp [this])]
      have : (Lit.string p.1).sameKey (.string p.1) = true := by rw [same_str]; exact beq_self_eq_true _
      simp [this, hl]
      omega
    · rw [sumG_step f left r hap.2 p hp hl]
      have : (Lit.string q.1).sameKey (.string p.1) = false := by rw [same_str]; exact beq_eq_false_iff_ne.2 (hap.1 p hp)
      simp [this]
      omega
theorem sumG_le (f : Nat → Int) (left : Lit → Bool) (M : Int) : ∀ L : List (Nm × Nat), (∀ p ∈ L, 0 ≤ f p.2 ∧ f p.2 ≤ M) → 0 ≤ sumG f left L ∧ sumG f left L ≤ L.length * M
  | [], _ => by simp [sumG]
  | p :: r, h => by
    have h1 := sumG_le f left M r (fun q hq => h q (List.mem_cons_of_mem _ hq))
    have h2 := h p (List.mem_cons_self ..)
    rw [sumG, List.length_cons]
    have e : ((r.length + 1 : Nat) : Int) * M = r.length * M + M := by rw [Int.natCast_add, Int.add_mul]; simp
    rw [e]
    split <;> omega
theorem has_dat {L : List (Nm × Nat)} {p : Nm × Nat} (hp : p ∈ L) : Maps.has (dat L) (.string p.1) = true := by
  unfold dat
  rw [has_eq, List.any_map, List.any_eq_true]
  exact ⟨p, hp, by simp only [Function.comp]; rw [same_str]; exact beq_self_eq_true _⟩
/-- The topics' block. -/
def TopB (w : World) (tb : Nat) (cv ov : Value) (m : Nat) : Prop := w.heap[tb]? = some (.cells #[cv, ov, .map (some m)] 62 (0, 0))

set_option maxRecDepth 100000 in
theorem tsize_any {w : World} {tb m : Nat} {cv ov : Value} {L : List (Nm × Nat)} (h : TopB w tb cv ov m) (hm : PM w m L) (f : Nat → Int) (hL : L.length ≤ 1000) (hf : ∀ p ∈ L, 0 ≤ f p.2 ∧ f p.2 ≤ 1000000000000)
    (hs : ∀ W, Below w.heap.size w W → ∀ p ∈ L, Calls Tryz.prog 37 #[.pointer (some ⟨p.2, 0, none⟩)] W fun r w' => r = .returned (.int .i64 (f p.2)) ∧ Below W.heap.size W w') :
    Calls Tryz.prog 14 #[.pointer (some ⟨tb, 0, none⟩)] w fun r w' => r = .returned (.int .i64 (sumL f L)) ∧ Below w.heap.size w w' := by
  have c2 : w.cell? ⟨tb, 2, none⟩ = some (.map (some m)) := blk_cell h 2
  have HM := Lib.hid hm
  have HS := Lib.hid hs
  have HF := Lib.hid hf
  have HL := Lib.hid hL
  have HAP := Lib.hid hm.apart
  have HNM : Hid (¬ w.heap.size < m) := by show ¬ _; have := hm.lt; omega
  clear h hm hs hf hL
  go_enter Tryz.func14, Tryz.ntmps14
  go_wp2_with (at_range; refine wpList_range_own _ rfl _ 59 rfl 67 41 keyedP Tryz.underlying59 raw m _ _ rfl HM.out ?_; intro w0 hrg0 hg0 hs0; have HR0 := Lib.hid hrg0; have HB0 : Hid (Below w.heap.size w w0) := grown_new (Below.refl _ _) hg0 (fun k hk => by cases hk); clear hrg0 hg0 hs0)
  go_frame
  go_loopw [3, 5] (fun v _ wr => ∃ (left : Lit → Bool) (cnt : Nat), v = .int .i64 (sumG f left L) ∧ Hid (wr.ranges Tryz.prog 67 raw m w.heap.size L.length (dat L) left cnt) ∧ Hid (Below w.heap.size w wr)) (fun _ _ wr => wr.rangeLeft m w.heap.size)
  case atStart => exact ⟨_, _, by rw [sumG_none f _ L (fun p hp => has_dat hp)], HR0.out, HB0.out⟩
  case round =>
    clear HR0 HB0
    obtain ⟨left, cnt, rfl, HR, HB⟩ := hrel
    have HSB := Lib.hid (sumG_le f left 1000000000000 L HF.out)
    go_wp2_with (at_next; refine wpList_next_ranges (α := Value) _ rfl _ rfl 67 keyedP raw (fun v => v) (fun v => v) (fun key kl hk => ⟨key, rfl⟩) (fun v y hv => ⟨v, rfl⟩) m w.heap.size _ _ left cnt rfl HR.out ?_ ?_)
    · intro _ hl0
      have HE := Lib.hid (sumG_all f left hl0 L)
      clear hl0
      go_wp2_with fail
      go_ret
      exact ⟨by rw [HE.out]; rfl, HB.out⟩
    · intro x c kl yd yp w2 cnt2 hkey hlk hv hat hrg2 hlt hg2 hs2 hen
      have hsz2 : w.heap.size < w2.heap.size := by rw [hs2]; exact HR.out.lt
      unfold raw at hv
      simp only [Option.some.injEq, Prod.mk.injEq] at hv
      obtain ⟨rfl, rfl⟩ := hv
      obtain ⟨p, hp, rfl, rfl⟩ := dat_met hat
      have HB2 : Hid (Below w.heap.size w w2) := HB.out.trans ((Tch.of_grown (S := fun b => b = w.heap.size) hg2 (fun b hb => (Option.some.inj hb).symm)).below HB.out.size (fun b hb => Nat.le_of_eq hb.symm))
      have HST := Lib.hid (sumG_step f left L HAP.out p hp hlk)
      have HRG := Lib.hid hrg2
      have HLT := Lib.hid hlt
      have HC := Lib.hid (HS.out w2 HB2.out p hp)
      have hfp := HF.out p hp
      have hsb := HSB.out
      have hll := HL.out
      have hmul : (L.length : Int) * 1000000000000 ≤ 1000000000000000 := by omega
      obtain ⟨q, hq⟩ : ∃ q, q = f p.2 := ⟨_, rfl⟩
      rw [← hq] at HC HST hfp
      obtain ⟨s, hs⟩ : ∃ s, s = sumG f left L := ⟨_, rfl⟩
      rw [← hs] at HST hsb ⊢
      have hb1 : 0 ≤ s := hsb.1
      have hb2 : s ≤ 1000000000000000 := by omega
      clear hkey hlk hat hp hg2 hrg2 hlt hs2 hsb hmul hq hs
      unfold fptr at hen
      unfold fptr
      go_wp2_with fail
      refine HC.out.mono ?_
      rintro r w3 ⟨rfl, hb3⟩
      have HB3 : Hid (Below w.heap.size w w3) := HB2.out.trans (hb3.mono HB2.out.size)
      have HRG3 : Hid (w3.ranges Tryz.prog 67 raw m w.heap.size L.length (dat L) (fun z => left z && !z.sameKey (.string p.1)) cnt2) :=
        HRG.out.kept (row := none) ⟨hb3.os, hb3.tape, hb3.output, hb3.size, fun k hk _ => hb3.block k hk⟩ (by simp) (by simp)
      clear hb3
      go_wp2_with fail
      go_roundw
      case rel => exact ⟨_, _, by rw [HST.out], HRG3.out, HB3.out⟩
      case measure =>
        have h1 := HLT.out
        rw [HRG3.out.left_eq, HR.out.left_eq]
        exact h1
set_option maxRecDepth 100000 in
theorem tdead_any {w : World} {tb m : Nat} {cv ov : Value} {L : List (Nm × Nat)} (h : TopB w tb cv ov m) (hm : PM w m L) (g : Nat → Bool) (hL : L.length ≤ 1000)
    (hs : ∀ W, Below w.heap.size w W → ∀ p ∈ L, Calls Tryz.prog 38 #[.pointer (some ⟨p.2, 0, none⟩)] W fun r w' => r = .returned (.bool (g p.2)) ∧ Below W.heap.size W w') :
    Calls Tryz.prog 16 #[.pointer (some ⟨tb, 0, none⟩)] w fun r w' => r = .returned (.int .i64 (sumL (fun l => if g l then 1 else 0) L)) ∧ Below w.heap.size w w' := by
  have c2 : w.cell? ⟨tb, 2, none⟩ = some (.map (some m)) := blk_cell h 2
  have HM := Lib.hid hm
  have HS := Lib.hid hs
  have HL := Lib.hid hL
  have HAP := Lib.hid hm.apart
  have HNM : Hid (¬ w.heap.size < m) := by show ¬ _; have := hm.lt; omega
  clear h hm hs hL
  obtain ⟨f, hf⟩ : ∃ f : Nat → Int, f = fun l => if g l then 1 else 0 := ⟨_, rfl⟩
  rw [← hf]
  have HF : Hid (∀ p ∈ L, 0 ≤ f p.2 ∧ f p.2 ≤ 1) := fun p _ => by rw [hf]; dsimp only; split <;> omega
  have HFE := Lib.hid hf
  clear hf
  go_enter Tryz.func16, Tryz.ntmps16
  go_wp2_with (at_range; refine wpList_range_own _ rfl _ 59 rfl 67 41 keyedP Tryz.underlying59 raw m _ _ rfl HM.out ?_; intro w0 hrg0 hg0 hs0; have HR0 := Lib.hid hrg0; have HB0 : Hid (Below w.heap.size w w0) := grown_new (Below.refl _ _) hg0 (fun k hk => by cases hk); clear hrg0 hg0 hs0)
  go_frame
  go_loopw [3, 5] (fun v _ wr => ∃ (left : Lit → Bool) (cnt : Nat), v = .int .i64 (sumG f left L) ∧ Hid (wr.ranges Tryz.prog 67 raw m w.heap.size L.length (dat L) left cnt) ∧ Hid (Below w.heap.size w wr)) (fun _ _ wr => wr.rangeLeft m w.heap.size)
  case atStart => exact ⟨_, _, by rw [sumG_none f _ L (fun p hp => has_dat hp)], HR0.out, HB0.out⟩
  case round =>
    clear HR0 HB0
    obtain ⟨left, cnt, rfl, HR, HB⟩ := hrel
    have HSB := Lib.hid (sumG_le f left 1 L HF.out)
    go_wp2_with (at_next; refine wpList_next_ranges (α := Value) _ rfl _ rfl 67 keyedP raw (fun v => v) (fun v => v) (fun key kl hk => ⟨key, rfl⟩) (fun v y hv => ⟨v, rfl⟩) m w.heap.size _ _ left cnt rfl HR.out ?_ ?_)
    · intro _ hl0
      have HE := Lib.hid (sumG_all f left hl0 L)
      clear hl0
      go_wp2_with fail
      go_ret
      exact ⟨by rw [HE.out]; rfl, HB.out⟩
    · intro x c kl yd yp w2 cnt2 hkey hlk hv hat hrg2 hlt hg2 hs2 hen
      have hsz2 : w.heap.size < w2.heap.size := by rw [hs2]; exact HR.out.lt
      unfold raw at hv
      simp only [Option.some.injEq, Prod.mk.injEq] at hv
      obtain ⟨rfl, rfl⟩ := hv
      obtain ⟨p, hp, rfl, rfl⟩ := dat_met hat
      have HB2 : Hid (Below w.heap.size w w2) := HB.out.trans ((Tch.of_grown (S := fun b => b = w.heap.size) hg2 (fun b hb => (Option.some.inj hb).symm)).below HB.out.size (fun b hb => Nat.le_of_eq hb.symm))
      have HST := Lib.hid (sumG_step f left L HAP.out p hp hlk)
      have HRG := Lib.hid hrg2
      have HLT := Lib.hid hlt
      have HC := Lib.hid (HS.out w2 HB2.out p hp)
      have hsb := HSB.out
      have hll := HL.out
      rw [HFE.out] at HST
      obtain ⟨q, hq⟩ : ∃ q, q = g p.2 := ⟨_, rfl⟩
      dsimp only at HST
      rw [← hq] at HC HST
      rw [← HFE.out] at HST
      obtain ⟨s, hs⟩ : ∃ s, s = sumG f left L := ⟨_, rfl⟩
      rw [← hs] at HST hsb ⊢
      have hb1 : 0 ≤ s := hsb.1
      have hb2 : s ≤ 1000000000000000 := by omega
      clear hkey hlk hat hp hg2 hrg2 hlt hs2 hsb hq hs
      unfold fptr at hen
      unfold fptr
      cases q
      all_goals
        go_wp2_with fail
        refine HC.out.mono ?_
        rintro r w3 ⟨rfl, hb3⟩
        have HB3 : Hid (Below w.heap.size w w3) := HB2.out.trans (hb3.mono HB2.out.size)
        have HRG3 : Hid (w3.ranges Tryz.prog 67 raw m w.heap.size L.length (dat L) (fun z => left z && !z.sameKey (.string p.1)) cnt2) :=
          HRG.out.kept (row := none) ⟨hb3.os, hb3.tape, hb3.output, hb3.size, fun k hk _ => hb3.block k hk⟩ (by simp) (by simp)
        clear hb3
        go_wp2_with fail
        go_roundw
        case rel => exact ⟨_, _, by rw [HST.out]; simp, HRG3.out, HB3.out⟩
        case measure =>
          have h1 := HLT.out
          rw [HRG3.out.left_eq, HR.out.left_eq]
          exact h1

def getE (L : List (Nm × Nat)) (s : ByteArray) (p : Int) : Int := if Lb.topicE s = 0 then (if (look L (pk s p)).isSome then 0 else 230) else 40
def getV (L : List (Nm × Nat)) (s : ByteArray) (p : Int) : Value := if Lb.topicE s = 0 then optr (look L (pk s p)) else .pointer none
set_option maxRecDepth 100000 in
theorem tget_any {w : World} {tb m : Nat} {cv ov : Value} {L : List (Nm × Nat)} (h : TopB w tb cv ov m) (hm : PM w m L) (s : ByteArray) (hs : s.size ≤ 140737488351232) (p : Int) (hp : -2147483648 ≤ p ∧ p ≤ 2147483647) :
    Calls Tryz.prog 10 #[.pointer (some ⟨tb, 0, none⟩), .string s, .int .i32 p] w fun r w' => r = .returned (.tuple #[getV L s p, .int .i64 (getE L s p)]) ∧ Below w.heap.size w w' := by
  have HT := Lib.hid (Lb.topic_any s w hs)
  have HH := Lib.hid h
  have HM := Lib.hid hm
  clear h hm
  by_cases ht : Lb.topicE s = 0
  · have HE : Hid (getE L s p = if (look L (pk s p)).isSome then 0 else 230) := by show _ = _; unfold getE; rw [if_pos ht]
    have HV : Hid (getV L s p = optr (look L (pk s p))) := by show _ = _; unfold getV; rw [if_pos ht]
    rw [ht] at HT
    have HLK : Hid (∀ W, Below w.heap.size w W → (Instr.lookup 59 (.map (some m)) (.agg #[.string s, .int .i32 p]) true).run Tryz.prog W = .ok (.tuple #[optr (look L (pk s p)), .bool (look L (pk s p)).isSome]) W) := fun W hb => (HM.out.below hb).look_run (by unfold maxLen; omega) hp
    obtain ⟨x, hx⟩ : ∃ x, x = look L (pk s p) := ⟨_, rfl⟩
    rw [← hx] at HE HV HLK
    clear hx ht
    cases x with
    | none =>
      go_enter Tryz.func10, Tryz.ntmps10
      go_wp2_with fail
      refine HT.out.mono ?_
      rintro r w1 ⟨rfl, hb⟩
      have hlk := HLK.out w1 hb
      have c2 : w1.cell? ⟨tb, 2, none⟩ = some (.map (some m)) := blk_cell (blk_below HH.out hb) 2
      have HB := Lib.hid hb
      clear hb
      simp only [optr, Option.isSome_none] at hlk
      go_wp2_with fail
      go_ret2
      exact ⟨by rw [HE.out, HV.out]; rfl, HB.out⟩
    | some l =>
      go_enter Tryz.func10, Tryz.ntmps10
      go_wp2_with fail
      refine HT.out.mono ?_
      rintro r w1 ⟨rfl, hb⟩
      have hlk := HLK.out w1 hb
      have c2 : w1.cell? ⟨tb, 2, none⟩ = some (.map (some m)) := blk_cell (blk_below HH.out hb) 2
      have HB := Lib.hid hb
      clear hb
      simp only [optr, Option.isSome_some] at hlk
      go_wp2_with fail
      go_ret2
      exact ⟨by rw [HE.out, HV.out]; rfl, HB.out⟩
  · have HE : Hid (getE L s p = 40) := by show _ = _; unfold getE; rw [if_neg ht]
    have HV : Hid (getV L s p = .pointer none) := by show _ = _; unfold getV; rw [if_neg ht]
    have hne : (((Lb.topicE s : Nat) : Int) != 0) = true := by rw [bne_iff_ne]; omega
    go_enter Tryz.func10, Tryz.ntmps10
    go_wp2_with fail
    refine HT.out.mono ?_
    rintro r w1 ⟨rfl, hb⟩
    have HB := Lib.hid hb
    clear hb
    go_wp2_with fail
    go_ret2
    exact ⟨by rw [HE.out, HV.out]; rfl, HB.out⟩
end Go.Proofs.YtciikcmiiebfpaaGreatDoor
