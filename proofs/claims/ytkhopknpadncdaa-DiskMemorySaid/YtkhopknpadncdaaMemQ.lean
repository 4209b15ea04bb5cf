/- DiskMemory without memory: what the reference's adds, units, with, After answer at units that put bytes behind. -/
import Derived.Test.YtkhopknpadncdaaMemP
import Derived.Test.YtkhopknpadncdaaPDiskMemoryx12
import Derived.Test.YtkhopknpadncdaaPDiskMemoryx13
namespace Go.Proofs.Ytkhopknpadncdaa
open Go Go.RowKit Go.Proofs.YtkhopknpadncdaaW.PrintWords Go.Proofs.Ytkhopknpadncdaa.PDiskMemory
set_option linter.unusedVariables false

theorem rd109_at {l : List S109} {i : Nat} {x : S109} (h : l[i]? = some x) : rd_T109 l (i : Int) = x := by
  unfold rd_T109
  rw [Int.toNat_natCast, List.getD_eq_getElem?_getD, h, Option.getD_some]
theorem rdM94_at {l : List S94} {i : Nat} {x : S94} (h : l[i]? = some x) : rd_T94 l (i : Int) = x := by
  unfold rd_T94
  rw [Int.toNat_natCast, List.getD_eq_getElem?_getD, h, Option.getD_some]
/-- A unit that puts a byte behind. -/
def addU (x : Int) : S109 := ⟨false, 0, x⟩
theorem adds_l : ∀ (k : Nat) (l : List Int) (i : Nat), l.length ≤ 5864062014804 → l.length < k + i → i ≤ l.length → leatref18_adds.l0 k l ((l.take i).map addU) i = some (l.map addU)
  | 0, l, i, hb, hk, hi => by omega
  | k + 1, l, i, hb, hk, hi => by
    unfold leatref18_adds.l0
    by_cases h : i < l.length
    · rw [if_pos (by omega), if_pos (by omega), if_pos (by rw [List.length_map, List.length_take]; omega), rdM_at (List.getElem?_eq_getElem h), w64M (by omega)]
      have hs : (l.take i).map addU ++ [(⟨false, 0, l[i]⟩ : S109)] = (l.take (i + 1)).map addU := by
        rw [← List.take_append_getElem h, List.map_append]
        rfl
      rw [hs]
      exact adds_l k l (i + 1) hb (by omega) h
    · rw [if_neg (by omega), List.take_of_length_le (by omega)]
theorem adds_f {k : Nat} {l : List Int} (hb : l.length ≤ 5864062014804) (hk : l.length < k) : leatref18_adds.f k l = some (l.map addU) :=
  adds_l k l 0 hb (by omega) (by omega)
theorem after_l : ∀ (k : Nat) (b s : List Int) (x : ByteArray) (i : Nat), s.length + b.length ≤ 140737488355328 → 2 * b.length + 1 < k + 2 * i → i ≤ b.length → leatref18_After.l0 k b.length (s ++ b.take i) i x s (b.map addU) = some (s ++ b)
  | 0, b, s, x, i, hb, hk, hi => by omega
  | 1, b, s, x, i, hb, hk, hi => by omega
  | k + 2, b, s, x, i, hb, hk, hi => by
    rw [leatref18_After.l0]
    have hml : (b.map addU).length = b.length := List.length_map _
    by_cases h : i < b.length
    · have hm : (b.map addU)[i]? = some (addU b[i]) := by rw [List.getElem?_map, List.getElem?_eq_getElem h]; rfl
      rw [if_pos (by rw [hml]; omega), decide_eq_true (by omega), leatref18_After.j1, if_pos rfl, if_pos (by omega), if_pos (by rw [hml]; omega), rd109_at hm, if_neg (by unfold addU; simp), if_pos (by rw [List.length_append, List.length_take]; omega), w64M (by omega)]
      rw [show s ++ b.take i ++ [(addU b[i]).f2] = s ++ b.take (i + 1) by rw [List.append_assoc, show (addU b[i]).f2 = b[i] from rfl, List.take_append_getElem h]]
      exact after_l k b s x (i + 1) hb (by omega) h
    · rw [if_neg (by rw [hml]; omega), leatref18_After.j1, if_neg (by simp), List.take_of_length_le (by omega)]
/-- A file of the reference: its name, what is safe, what was put behind. -/
structure GF where
  nm : ByteArray
  safe : List Int
  add : List Int
def GF.ref (g : GF) : S94 := ⟨g.nm, g.safe, g.add.map addU⟩
def GF.seen (g : GF) : List Int := g.safe ++ g.add
theorem with_l : ∀ (k : Nat) (F : List S94) (g : S94) (n i : Nat) (r : Int) (p : List S26) (st : Int) (o : Bool), F.length ≤ 256 → F.length < k + i → i ≤ F.length → leatref18_with.l0 k n ((F.set n g).take i) i F r p st o g.f0 g.f1 g.f2 = some (F.set n g, r, p, st, o)
  | 0, F, g, n, i, r, p, st, o, hb, hk, hi => by omega
  | k + 1, F, g, n, i, r, p, st, o, hb, hk, hi => by
    have hl : (F.set n g).length = F.length := List.length_set
    unfold leatref18_with.l0
    by_cases h : i < F.length
    · have hs : i < (F.set n g).length := by omega
      have htk : ((F.set n g).take i).length < 2199023255552 := by rw [List.length_take]; omega
      have ih := with_l k F g n (i + 1) r p st o hb (by omega) h
      rw [← List.take_append_getElem hs] at ih
      rw [if_pos (by omega), w64M (by omega)]
      by_cases hn : i = n
      · subst hn
        rw [if_pos rfl, if_pos htk]
        rw [List.getElem_set_self] at ih
        exact ih
      · rw [if_neg (by omega), if_pos (by omega), if_pos htk, rdM94_at (List.getElem?_eq_getElem h)]
        rw [List.getElem_set_ne (fun e => hn e.symm)] at ih
        exact ih
    · rw [if_neg (by omega), List.take_of_length_le (by omega)]
theorem with_f {k : Nat} {F : List S94} (g : S94) (n : Nat) (r : Int) (p : List S26) (st : Int) (o : Bool) (hb : F.length ≤ 256) (hk : F.length < k) : leatref18_with.f k F r p st o n g.f0 g.f1 g.f2 = some (F.set n g, r, p, st, o) :=
  with_l k F g n 0 r p st o hb (by omega) (by omega)
theorem seen_f {k : Nat} {g : GF} (hb : g.safe.length + g.add.length ≤ 140737488355328) (hk : g.safe.length + 2 * g.add.length + 2 < k) : leatref18_Seen.f k g.nm g.safe (g.add.map addU) = some g.seen := by
  unfold leatref18_Seen.f leatref18_After.f
  rw [copyM_f (by omega) (by omega), Option.bind_some, List.length_map]
  have := after_l k g.add g.safe g.nm 0 hb (by omega) (by omega)
  rw [List.take_zero, List.append_nil] at this
  have h0 : ((0 : Nat) : Int) = 0 := rfl
  rw [h0] at this
  rw [this]
  rfl
def usedG (L : List GF) : Nat := (L.map fun g => g.seen.length).sum
theorem usedG_step {L : List GF} {i : Nat} (h : i < L.length) : usedG (L.take (i + 1)) = usedG (L.take i) + L[i].seen.length := by
  unfold usedG
  rw [← List.take_append_getElem h, List.map_append, List.sum_append]
  simp
theorem usedG_le (L : List GF) (i : Nat) : usedG (L.take i) ≤ usedG L := by
  have : usedG L = usedG (L.take i) + usedG (L.drop i) := by
    unfold usedG
    rw [← List.sum_append, ← List.map_append, List.take_append_drop]
  omega
def GF.Ok (g : GF) : Prop := g.safe.length + g.add.length ≤ 140737488355328
theorem used_l : ∀ (k : Nat) (L : List GF) (i : Nat) (r : Int) (p : List S26) (st : Int) (o : Bool), L.length ≤ 256 → (∀ g ∈ L, g.Ok) → usedG L ≤ 4611686018427387904 → 422212465065984 + L.length + 8 < k + i → i ≤ L.length → leatref18_Used.l0 k (usedG (L.take i)) i (L.map GF.ref) r p st o = some ((usedG L : Nat) : Int)
  | 0, L, i, r, p, st, o, hb, ho, hu, hk, hi => by omega
  | k + 1, L, i, r, p, st, o, hb, ho, hu, hk, hi => by
    have hl : (L.map GF.ref).length = L.length := List.length_map _
    unfold leatref18_Used.l0
    by_cases h : i < L.length
    · have hg : (L.map GF.ref)[i]? = some (L[i]).ref := by rw [List.getElem?_map, List.getElem?_eq_getElem h]; rfl
      have hok := ho L[i] (List.getElem_mem h)
      unfold GF.Ok at hok
      have hle := usedG_le L (i + 1)
      have hst := usedG_step h
      rw [if_pos (by rw [hl]; omega), if_pos (by omega), rdM94_at hg, show (L[i]).ref.f0 = L[i].nm from rfl, show (L[i]).ref.f1 = L[i].safe from rfl, show (L[i]).ref.f2 = L[i].add.map addU from rfl, seen_f hok (by omega), Option.bind_some, w64M (by omega)]
      rw [show wrap64 ((usedG (L.take i) : Int) + (L[i].seen.length : Int)) = (usedG (L.take (i + 1)) : Int) by unfold wrap64; omega]
      exact used_l k L (i + 1) r p st o hb ho hu (by omega) h
    · rw [if_neg (by rw [hl]; omega), List.take_of_length_le (by omega)]
/-- The files as the reference tells them. -/
def GF.file (safe : Bool) (g : GF) : S45 := ⟨g.nm, if safe = true then g.safe else g.seen⟩
theorem all_l : ∀ (k : Nat) (L : List GF) (sf : Bool) (i : Nat) (r : Int) (p : List S26) (st : Int) (o : Bool), L.length ≤ 256 → (∀ g ∈ L, g.Ok) → 422212465065984 + L.length + 8 < k + i → i ≤ L.length → leatref18_All.l0 k sf ((L.take i).map (GF.file sf)) i (L.map GF.ref) r p st o = some (L.map (GF.file sf))
  | 0, L, sf, i, r, p, st, o, hb, ho, hk, hi => by omega
  | k + 1, L, sf, i, r, p, st, o, hb, ho, hk, hi => by
    have hl : (L.map GF.ref).length = L.length := List.length_map _
    unfold leatref18_All.l0
    by_cases h : i < L.length
    · have hg : (L.map GF.ref)[i]? = some (L[i]).ref := by rw [List.getElem?_map, List.getElem?_eq_getElem h]; rfl
      have hok := ho L[i] (List.getElem_mem h)
      unfold GF.Ok at hok
      have hlen : ((L.take i).map (GF.file sf)).length < 3518437208883 := by rw [List.length_map, List.length_take]; omega
      have ih := all_l k L sf (i + 1) r p st o hb ho (by omega) h
      rw [← List.take_append_getElem h, List.map_append] at ih
      rw [if_pos (by rw [hl]; omega), if_pos (by omega), rdM94_at hg, show (L[i]).ref.f0 = L[i].nm from rfl, show (L[i]).ref.f1 = L[i].safe from rfl, show (L[i]).ref.f2 = L[i].add.map addU from rfl, seen_f hok (by omega), Option.bind_some, w64M (by omega)]
      cases sf with
      | true =>
        rw [if_pos rfl, copyM_f (by omega) (by omega), Option.bind_some, if_pos hlen]
        exact ih
      | false =>
        rw [if_neg (by simp), if_pos hlen]
        exact ih
    · rw [if_neg (by rw [hl]; omega), List.take_of_length_le (by omega)]
end Go.Proofs.Ytkhopknpadncdaa
