/- TMap, TopP as one text (a claim holds at most 60 files). -/
import Derived.Test.YtciikcmiiebfpaaGreatDoorD1
import Derived.DeepKeys4
import Derived.Test.YtciikcmiiebfpaaGreatDoorTopC
import Derived.ChangeKeys

/- TMap -/
section
/- A map keyed by a part (a name and a number), its elements pointers: over the lists of D1, a key's bytes as the name. -/
namespace Go.Proofs.YtciikcmiiebfpaaGreatDoor
open Go Go.RowKit Go.Maps Go.WideMaps Go.Proofs.YtciikcmiiebfpaaGreatDoorW.PrintWords Go.Proofs.YtciikcmiiebfpaaGreatDoor.PTopicsGets
set_option linter.unusedVariables false

/-- A part's key. -/
def pk (s : ByteArray) (p : Int) : Nm := keyBytes [.string s.data.toList, .int .i32 p]
def plc (s : ByteArray) (p : Int) : Value := .agg #[.string s, .int .i32 p]
theorem plaidOut : laidOutB Tryz.prog = true := by kernel_rfl
theorem prow : (67 : TypeId) < Tryz.prog.types.size := of_decide_eq_true (by kernel_rfl)
theorem pwide : (match Tryz.prog.underlying 67 with | some (.array _ _) | some (.struct _) => true | _ => false) = true := by kernel_rfl
set_option maxRecDepth 100000 in
theorem klaw : KeyLaw Tryz.prog 67 := deep_law_laid plaidOut (m := 2) (by omega) prow (by kernel_rfl) pwide
theorem keyedP : Keyed Tryz.prog 67 := Keyed.of_law klaw
theorem pcells : Tryz.prog.cellsOf 67 = 2 := by kernel_rfl
theorem pkeyt : Tryz.prog.keyType 67 = true := by kernel_rfl
theorem hkeyP {s : ByteArray} (hs : s.size ≤ maxLen) {p : Int} (hp : -2147483648 ≤ p ∧ p ≤ 2147483647) : keyOf Tryz.prog 67 (plc s p) = some (.string (pk s p)) := by
  have hw : (Lit.int .i32 p).wf = true := by
    simp [Lit.wf, IntKind.min, IntKind.max, IntKind.signed, IntKind.bits]
    omega
  have hf : (plc s p).formed Tryz.prog 67 = true := by simp [plc, Value.formed, Tryz.underlying67, pcells]
  unfold keyOf
  rw [Tryz.underlying67]
  simp only
  rw [if_pos (by rw [pkeyt, hf]; rfl)]
  obtain ⟨n, hn⟩ : ∃ n, Tryz.prog.types.size = n + 1 := Nat.exists_eq_succ_of_ne_zero (fun h => by have h2 := prow; rw [h] at h2; exact absurd h2 (Nat.not_lt_zero _))
  rw [hn]
  have c1 : Tryz.prog.cellsOf 9 = 1 := by kernel_rfl
  have c2 : Tryz.prog.cellsOf 21 = 1 := by kernel_rfl
  simp [Program.keyLits, plc, Value.cells, Tryz.underlying67, pcells, Tryz.underlying9, Tryz.underlying21, c1, c2, hw, hs, pk]
end Go.Proofs.YtciikcmiiebfpaaGreatDoor
end

/- TopP -/
section
/- Plain: the parts of a configuration; the map of their logs. -/
namespace Go.Proofs.YtciikcmiiebfpaaGreatDoor
open Go Go.RowKit Go.Maps Go.WideMaps Go.Proofs.YtciikcmiiebfpaaGreatDoorW.PrintWords Go.Proofs.YtciikcmiiebfpaaGreatDoor.PTopicsGets
set_option linter.unusedVariables false

theorem pk_inj {s s' : ByteArray} {p p' : Int} (hs : s.size ≤ maxLen) (hs' : s'.size ≤ maxLen) (hp : -2147483648 ≤ p ∧ p ≤ 2147483647) (hp' : -2147483648 ≤ p' ∧ p' ≤ 2147483647) (h : pk s p = pk s' p') : s = s' ∧ p = p' := by
  have wf : ∀ q : Int, (-2147483648 ≤ q ∧ q ≤ 2147483647) → (Lit.int .i32 q).wf = true := fun q hq => by
    simp [Lit.wf, IntKind.min, IntKind.max, IntKind.signed, IntKind.bits]
    omega
  have hw : ∀ (t : ByteArray) (q : Int), t.size ≤ maxLen → (-2147483648 ≤ q ∧ q ≤ 2147483647) → ∀ a ∈ [Lit.string t.data.toList, Lit.int .i32 q], a.keyWf := by
    intro t q ht hq a ha
    rcases List.mem_cons.1 ha with rfl | ha
    · show t.data.toList.length ≤ maxLen
      rw [Array.length_toList]
      exact ht
    · obtain rfl := List.mem_singleton.1 ha
      exact wf q hq
  have e := keyBytes_inj (l := [Lit.string s.data.toList, Lit.int .i32 p]) (l' := [Lit.string s'.data.toList, Lit.int .i32 p']) ⟨by simp [Lit.sameKind], by simp [Lit.sameKind], trivial⟩ (hw s p hs hp) (hw s' p' hs' hp') h
  injection e with e1 e2
  injection e1 with e1
  injection e2 with e2 _
  injection e2 with _ e2
  refine ⟨?_, e2⟩
  rcases s with ⟨⟨l⟩⟩
  rcases s' with ⟨⟨l'⟩⟩
  simp only at e1
  rw [e1]

/-- The parts of a configuration. -/
def plAll (cs : List Conf) : List (ByteArray × Nat) := cs.flatMap fun c => (List.range c.pt.toNat).map fun p => (c.nm, p)
/-- .. up to part p of topic i. -/
def plTo (cs : List Conf) (i p : Nat) (nm : ByteArray) : List (ByteArray × Nat) := plAll (cs.take i) ++ (List.range p).map fun q => (nm, q)
theorem plTo_zero (cs : List Conf) (i : Nat) (nm : ByteArray) : plTo cs i 0 nm = plAll (cs.take i) := by simp [plTo]
theorem plTo_succ (cs : List Conf) (i p : Nat) (nm : ByteArray) : plTo cs i (p + 1) nm = plTo cs i p nm ++ [(nm, p)] := by simp [plTo, List.range_succ]
theorem plTo_all {cs : List Conf} {i : Nat} {c : Conf} (h : cs[i]? = some c) : plTo cs i c.pt.toNat c.nm = plAll (cs.take (i + 1)) := by
  unfold plTo plAll
  rw [List.take_add_one, h]
  simp
/-- What a configuration that was found in order has. -/
theorem checkL_ok : ∀ (r pre : List Conf), checkL pre r = 0 → ∀ c ∈ r, Lb.topicE c.nm = 0 ∧ 1 ≤ c.pt ∧ c.pt ≤ 16
  | [], _, _, c, hc => nomatch hc
  | x :: r, pre, h, c, hc => by
    rw [checkL] at h
    by_cases hx : checkAt pre x ≠ 0
    · rw [if_pos hx] at h; exact absurd h hx
    · rw [if_neg hx] at h
      rcases List.mem_cons.1 hc with rfl | hc
      · unfold checkAt at hx
        by_cases h1 : Lb.topicE c.nm = 0
        · rw [if_neg (by simp [h1])] at hx
          by_cases h2 : c.pt < 1 ∨ 16 < c.pt
          · rw [if_pos h2] at hx; exact absurd (by decide) hx
          · exact ⟨h1, by omega, by omega⟩
        · rw [if_pos h1] at hx
          exact absurd (by omega) hx
      · exact checkL_ok r _ h c hc
theorem checkE_ok {cs : List Conf} (h : checkE cs = 0) : cs.length ≤ 8 ∧ ∀ c ∈ cs, Lb.topicE c.nm = 0 ∧ 1 ≤ c.pt ∧ c.pt ≤ 16 := by
  unfold checkE at h
  split at h
  · cases h
  · exact ⟨by omega, checkL_ok _ _ h⟩
theorem plAll_length : ∀ (cs : List Conf), (∀ c ∈ cs, c.pt ≤ 16) → (plAll cs).length ≤ cs.length * 16
  | [], _ => Nat.zero_le _
  | c :: r, h => by
    have h1 := plAll_length r (fun x hx => h x (List.mem_cons_of_mem _ hx))
    have h2 := h c (List.mem_cons_self ..)
    unfold plAll at *
    rw [List.flatMap_cons, List.length_append, List.length_map, List.length_range, List.length_cons]
    omega
theorem plAll_mem {cs : List Conf} {x : ByteArray × Nat} (h : x ∈ plAll cs) : ∃ c ∈ cs, x.1 = c.nm ∧ (x.2 : Int) < c.pt := by
  unfold plAll at h
  rw [List.mem_flatMap] at h
  obtain ⟨c, hc, h⟩ := h
  rw [List.mem_map] at h
  obtain ⟨p, hp, rfl⟩ := h
  exact ⟨c, hc, rfl, by have := List.mem_range.1 hp; dsimp only; omega⟩

/-- A part with its log. -/
abbrev Pl := ByteArray × Nat × Nat
def mapOf (pls : List Pl) : List (Nm × Nat) := pls.foldl (fun L x => put L (pk x.1 x.2.1) x.2.2) []
theorem mapOf_snoc (pls : List Pl) (x : Pl) : mapOf (pls ++ [x]) = put (mapOf pls) (pk x.1 x.2.1) x.2.2 := by unfold mapOf; rw [List.foldl_append]; rfl
theorem foldl_rev {α β : Type} (f : β → α → β) (P : β → Prop) (l : List α) (b : β) (h0 : P b) (h : ∀ b a, P b → P (f b a)) : P (l.foldl f b) := by
  induction l generalizing b with
  | nil => exact h0
  | cons a l ih => exact ih _ (h b a h0)
theorem mapOf_apart (pls : List Pl) : (mapOf pls).Pairwise fun a b => a.1 ≠ b.1 := foldl_rev (fun L (x : Pl) => put L (pk x.1 x.2.1) x.2.2) (fun L : List (Nm × Nat) => L.Pairwise fun a b => a.1 ≠ b.1) pls [] List.Pairwise.nil (fun L x h => put_apart h _ _)
theorem snoc_ind {α : Type} {P : List α → Prop} (h0 : P []) (h1 : ∀ l a, P l → P (l ++ [a])) : ∀ l, P l := by
  intro l
  have : ∀ k (l : List α), l.length = k → P l := by
    intro k
    induction k with
    | zero => intro l hl; rw [List.length_eq_zero_iff.1 hl]; exact h0
    | succ k ih =>
      intro l hl
      have hne : l ≠ [] := fun e => by rw [e] at hl; cases hl
      rw [← List.dropLast_concat_getLast hne]
      exact h1 _ _ (ih _ (by rw [List.length_dropLast]; omega))
  exact this _ l rfl
theorem put_length (L : List (Nm × Nat)) (x : Nm) (v : Nat) : (put L x v).length ≤ L.length + 1 := by
  unfold put
  rw [ins_length]
  have := List.length_filter_le (fun p : Nm × Nat => !(p.1 == x)) L
  unfold del
  omega
theorem mapOf_length (pls : List Pl) : (mapOf pls).length ≤ pls.length := by
  induction pls using snoc_ind with
  | h0 => exact Nat.le_refl _
  | h1 l a ih =>
    rw [mapOf_snoc, List.length_append]
    have := put_length (mapOf l) (pk a.1 a.2.1) a.2.2
    show _ ≤ l.length + 1
    omega
/-- Is the part there? -/
def hasPl (pl : List (ByteArray × Nat)) (s : ByteArray) (p : Int) : Bool := pl.any fun x => x.1.toList == s.toList && decide ((x.2 : Int) = p)
theorem look_mapOf (pls : List Pl) (h : ∀ x ∈ pls, x.1.size ≤ maxLen ∧ x.2.1 < 1000) (s : ByteArray) (hs : s.size ≤ maxLen) (p : Int) (hp : -2147483648 ≤ p ∧ p ≤ 2147483647) :
    (look (mapOf pls) (pk s p)).isSome = hasPl (pls.map fun x => (x.1, x.2.1)) s p := by
  induction pls using snoc_ind with
  | h0 => rfl
  | h1 l a ih =>
    rw [mapOf_snoc, look_put (mapOf_apart l), List.map_append]
    have ih := ih (fun x hx => h x (List.mem_append_left _ hx))
    have ha := h a (List.mem_append_right _ (List.mem_singleton_self _))
    unfold hasPl at *
    rw [List.any_append, ← ih]
    by_cases e : pk s p = pk a.1 a.2.1
    · rw [if_pos e]
      obtain ⟨rfl, rfl⟩ := pk_inj hs ha.1 hp (by omega) e
      simp
    · rw [if_neg e]
      have : (a.1.toList == s.toList && decide ((a.2.1 : Int) = p)) = false := by
        rw [Bool.and_eq_false_iff]
        by_cases h1 : a.1.toList = s.toList
        · right
          rw [decide_eq_false_iff_not]
          intro h2
          have h3 : a.1 = s := by
            rw [Lib.toList_data, Lib.toList_data] at h1
            rcases a with ⟨⟨⟨l1⟩⟩, _⟩
            rcases s with ⟨⟨l2⟩⟩
            simp only at h1
            rw [h1]
          exact e (by rw [h3, h2])
        · left
          exact beq_eq_false_iff_ne.2 h1
      show _ = (_ || (List.map _ [a]).any _)
      rw [List.map_cons, List.map_nil, List.any_cons, List.any_nil, this]
      simp
end Go.Proofs.YtciikcmiiebfpaaGreatDoor
end
