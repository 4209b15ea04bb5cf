/- The keys of the table's map. -/
import Derived.Test.YtnooekflmjebiaaShelf
import Derived.Test.YtnooekflmjebiaaNoteX
namespace Go.Proofs.Ytnooekflmjebiaa
open Go Go.RowKit Go.Maps Go.Sort Go.Shelf
set_option linter.unusedVariables false

/-- The map's keys. -/
theorem Mp.keys {w : World} {b n : Nat} {f : Int → Option Value} (h : Mp w b n f) :
    ∃ D : DataW Value, w.ownsMap Try.prog 2 raw b n D ∧ (intKeys D).Nodup ∧ (∀ x, x ∈ intKeys D ↔ (f x).isSome = true) ∧ (∀ x ∈ intKeys D, wf64 x) ∧ (intKeys D).length = Maps.size D ∧ Maps.size D ≤ n ∧
      ∀ x z, Maps.has D (.int .i64 x) = (f x).isSome ∧ D.atKey (.int .i64 x) (.held z) = .held ((f x).getD z) := by
  obtain ⟨D, hD, hv⟩ := h
  obtain ⟨es, hDe, hpw, _⟩ := hD.entries keyed
  obtain ⟨es', hD', hko⟩ := hD.keysOf
  have hes : es = es' := by rw [hDe] at hD'; simpa using hD'
  subst hes
  have hk : ∀ p ∈ es, ∃ x, p.1 = .int .i64 x ∧ (Lit.int .i64 x).wf = true := fun p hp => by
    obtain ⟨v, hv⟩ := hko p hp
    obtain ⟨x, _, hx, hw⟩ := Maps.keyOf_i64 Try.underlying2 hv
    exact ⟨x, hx, hw⟩
  refine ⟨D, hD, ?_, fun x => ?_, fun x hx => ?_, ?_, hD.size_le, hv⟩
  · rw [hDe]
    show (es.map fun p => Go.intOf p.1).Nodup
    refine List.pairwise_map.2 (hpw.imp_of_mem fun {p q} hp' hq' hne e => hne ?_)
    obtain ⟨a, ha, _⟩ := hk p hp'
    obtain ⟨b, hb, _⟩ := hk q hq'
    rw [ha, hb] at e ⊢
    exact congrArg _ e
  · rw [← (hv x zmem).1, hDe, has_eq, List.any_eq_true]
    show x ∈ es.map (fun p => Go.intOf p.1) ↔ _
    rw [List.mem_map]
    constructor
    · rintro ⟨p, hp', rfl⟩
      obtain ⟨a, ha, _⟩ := hk p hp'
      exact ⟨p, hp', by rw [ha]; simp [Lit.sameKey, Go.intOf]⟩
    · rintro ⟨p, hp', hs⟩
      obtain ⟨a, ha, _⟩ := hk p hp'
      rw [ha] at hs
      exact ⟨p, hp', by rw [ha]; simpa [Lit.sameKey, Go.intOf] using hs⟩
  · rw [hDe] at hx
    obtain ⟨p, hp', rfl⟩ := List.mem_map.1 hx
    obtain ⟨a, ha, hw⟩ := hk p hp'
    rw [ha]
    simp [Lit.wf, IntKind.min, IntKind.max, IntKind.signed, IntKind.bits] at hw
    unfold wf64
    simp only [Go.intOf]
    omega
  · rw [hDe]
    show (es.map fun p => Go.intOf p.1).length = _
    rw [List.length_map]
    rfl

/-- A list of numbers, strictly ascending. -/
def Asc (ks : List Int) : Prop := ks.Pairwise (· < ·)
theorem asc_sort {l : List Int} (h : l.Nodup) : Asc (l.mergeSort (fun x y => decide (x ≤ y))) := by
  have tr : ∀ a b c : Int, decide (a ≤ b) = true → decide (b ≤ c) = true → decide (a ≤ c) = true := fun a b c h1 h2 => by simp only [decide_eq_true_eq] at *; exact Int.le_trans h1 h2
  have to : ∀ a b : Int, (decide (a ≤ b) || decide (b ≤ a)) = true := fun a b => by simp only [Bool.or_eq_true, decide_eq_true_eq]; exact Int.le_total a b
  have h1 := List.pairwise_mergeSort tr to l
  have h2 : (l.mergeSort (fun x y => decide (x ≤ y))).Nodup := (List.mergeSort_perm l _).symm.nodup h
  refine (h1.and h2).imp fun {a b} h => ?_
  simp only [decide_eq_true_eq] at h
  have := h.2
  omega

/-- slices.Sort's two contracts at this program. -/
theorem sortsA (m : Nat) : AnyZI.SortsIn Try.prog Try.sortedA_ren Fence.wide m :=
  ⟨fun blk off cap ss W hH hblk hsz => callsIn_wide.2 (AnyM.slices_Sort_int Try.sortA blk off cap ss W hH hblk hsz),
   fun p cap W => callsIn_wide.2 (AnyM.slices_Sort_int_none Try.sortA p cap W)⟩

/-- The function value that maps.Keys hands back. -/
def keysV (w : World) : Value := .func (.func 38) #[] #[.pointer (some ⟨w.heap.size, 0, none⟩)]
theorem keys_any (b : Nat) (w : World) : Calls Try.prog 29 #[.map (some b)] w fun e w' => e = .returned (keysV w) ∧ w' = w.alloc (.cells #[.map (some b)] 54) := by
  refine (callsIn_wide (n := 5)).1 ?_
  have cK : CallsIn Fence.wide 5 Try.prog 29 #[.map (some b)] w fun e w' => e = .returned (keysV w) ∧ w' = w.alloc (.cells #[.map (some b)] 54) := AnyZI.keys_in Try.keysA Fence.wide 5 trivial rfl (some b) w
  exact cK
theorem Mp.seq {w : World} {b n : Nat} {D : DataW Value} (hD : w.ownsMap Try.prog 2 raw b n D) (m : Nat) (hm : 1 ≤ m) :
    SeqGives Fence.wide m Try.prog 38 #[.pointer (some ⟨w.heap.size, 0, none⟩)] encZ (fun ss => ss.Perm (intKeys D)) (Maps.size D) (w.alloc (.cells #[.map (some b)] 54)) :=
  AnyZI.keys_gives (ρ := Try.keysA_ren) { Try.keysA with } Fence.wide _ trivial rfl hm w.heap.size b n D _ (by simp) (by simp) (by
    obtain ⟨es, clock, hb, Ft, hs, hD⟩ := hD
    exact ⟨es, clock, (Below.heap_alloc _ _ b (Array.getElem?_eq_some_iff.1 hb).1).trans hb, Ft, hs, hD⟩)

/-- slices.Sorted(maps.Keys(m)), its second call: the keys ascending. -/
theorem sorted_any (b n : Nat) (f : Int → Option Value) (w : World) (h : Mp w b n f) (hn : n * 8 ≤ 140737488355328) :
    Calls Try.prog 33 #[keysV w] (w.alloc (.cells #[.map (some b)] 54)) fun e w' => ∃ (v : Value) (ks : List Int), e = .returned v ∧ Asc ks ∧ (∀ x, x ∈ ks ↔ (f x).isSome = true) ∧ ks.length ≤ n ∧
      w'.ownsRow (w.heap.size + 1) 2 1 v ks.length (ks.map encZ) ∧ Below (w.heap.size + 1) (w.alloc (.cells #[.map (some b)] 54)) w' := by
  obtain ⟨D, hD, hnd, hmem, hwf, hlen, hsz, _⟩ := h.keys
  refine (callsIn_wide (n := 5)).1 ?_
  have cS := AnyZI.sorted_in Try.sortedA Fence.wide 5 trivial trivial trivial trivial rfl (by omega) (sortsA _) (enters_of Try.func39 (by kernel_rfl) rfl) 38 #[.pointer (some ⟨w.heap.size, 0, none⟩)] trivial (enters_of Try.func38 (by kernel_rfl) rfl) _ (Maps.size D) (by unfold maxLen; omega) (by omega) _ (Mp.seq hD _ (by omega))
  change CallsIn _ _ Try.prog 33 _ _ _ at cS
  refine CallsIn.mono cS ?_
  rintro e w' ⟨v, ss, rfl, hS, hrow, _, hb⟩
  rw [World.size_alloc] at hrow hb
  refine ⟨v, ss.mergeSort (fun x y => decide (x ≤ y)), rfl, asc_sort (hS.symm.nodup hnd), fun x => ?_, ?_, ?_, hb⟩
  · rw [(List.mergeSort_perm ss _).mem_iff, hS.mem_iff, hmem]
  · rw [(List.mergeSort_perm ss _).length_eq, hS.length_eq, hlen]
    exact hsz
  · rw [(List.mergeSort_perm ss _).length_eq]
    exact hrow

/-- slices.Collect(maps.Keys(m)), its second call: the keys in some order. -/
theorem collect_any (b n : Nat) (f : Int → Option Value) (w : World) (h : Mp w b n f) (hn : n * 8 ≤ 140737488355328) :
    Calls Try.prog 28 #[keysV w] (w.alloc (.cells #[.map (some b)] 54)) fun e w' => ∃ (v : Value) (ks : List Int), e = .returned v ∧ ks.Nodup ∧ (∀ x, x ∈ ks ↔ (f x).isSome = true) ∧ ks.length ≤ n ∧
      w'.ownsRow (w.heap.size + 1) 2 1 v ks.length (ks.map encZ) ∧ Below (w.heap.size + 1) (w.alloc (.cells #[.map (some b)] 54)) w' := by
  obtain ⟨D, hD, hnd, hmem, hwf, hlen, hsz, _⟩ := h.keys
  refine (callsIn_wide (n := 5)).1 ?_
  have cS := AnyZI.collect_in (ρ := Try.sortedA_ren) { Try.sortedA with } Fence.wide 5 trivial trivial rfl (by omega) 38 #[.pointer (some ⟨w.heap.size, 0, none⟩)] trivial (enters_of Try.func38 (by kernel_rfl) rfl) _ (Maps.size D) (by unfold maxLen; omega) (by omega) _ (Mp.seq hD _ (by omega))
  change CallsIn _ _ Try.prog 28 _ _ _ at cS
  refine CallsIn.mono cS ?_
  rintro e w' ⟨v, ss, rfl, hS, hrow, _, hb⟩
  rw [World.size_alloc] at hrow hb
  exact ⟨v, ss, rfl, hS.symm.nodup hnd, fun x => by rw [hS.mem_iff, hmem], by rw [hS.length_eq, hlen]; exact hsz, hrow, hb⟩
end Go.Proofs.Ytnooekflmjebiaa
