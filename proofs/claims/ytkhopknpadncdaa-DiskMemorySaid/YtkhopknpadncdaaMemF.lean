/- PRINTED by gen_memf.py: DiskMemory: what the printed Twin, Alike, Named, Find, made, Load answer; contracts for a row of files. -/
import Derived.Test.YtkhopknpadncdaaLStep
import Derived.Test.YtkhopknpadncdaaPDiskMemoryx8
import Derived.Test.YtkhopknpadncdaaPDiskMemoryx9
import Derived.Test.YtkhopknpadncdaaPDiskMemoryx10
import Derived.Test.YtkhopknpadncdaaPDiskMemoryx11
import Derived.Test.YtkhopknpadncdaaPDiskMemoryx13
import Derived.Lib.Strings
import Derived.Test.YtkhopknpadncdaaPlans
namespace Go.Proofs.Ytkhopknpadncdaa
open Go Go.RowKit Go.Maps Go.Proofs.YtkhopknpadncdaaW.PrintWords Go.Proofs.Ytkhopknpadncdaa.PDiskMemory Go.Proofs.YtkhopknpadncdaaW.PrintMore
set_option linter.unusedVariables false
/-- More rounds than any row has elements. -/
def fuel (n : Nat) : Nat := 140737488355330 + n
theorem rd45_at {l : List S45} {i : Nat} {x : S45} (h : l[i]? = some x) : rd_T45 l (i : Int) = x := by
  unfold rd_T45
  rw [Int.toNat_natCast, List.getD_eq_getElem?_getD, h, Option.getD_some]
theorem rd94_at {l : List S94} {i : Nat} {x : S94} (h : l[i]? = some x) : rd_T94 l (i : Int) = x := by
  unfold rd_T94
  rw [Int.toNat_natCast, List.getD_eq_getElem?_getD, h, Option.getD_some]
theorem twin_l : ∀ (k : Nat) (l : List S45) (i : Nat), l.length ≤ 3518437208882 → (∀ f ∈ l, f.f1.length ≤ big) → fuel l.length < k + i → i ≤ l.length → leatref18_Twin.l0 k l (l.take i) i = some l
  | 0, l, i, hb, hf, hk, hi => by unfold fuel at hk; omega
  | k + 1, l, i, hb, hf, hk, hi => by
    unfold leatref18_Twin.l0
    by_cases h : i < l.length
    · have h1 := hf l[i] (List.getElem_mem h)
      unfold big at h1
      rw [if_pos (by omega), if_pos (by omega), rd45_at (List.getElem?_eq_getElem h), copyF_f (by omega) (by unfold fuel at hk; omega), Option.bind_some, if_pos (by rw [List.length_take]; omega), w64F (by omega)]
      rw [show l.take i ++ [(⟨l[i].f0, l[i].f1⟩ : S45)] = l.take (i + 1) from (List.take_append_getElem h)]
      exact twin_l k l (i + 1) hb hf (by omega) h
    · rw [if_neg (by omega), List.take_of_length_le (by omega)]
theorem sameF_l : ∀ (k : Nat) (l : List Int) (i : Nat), l.length ≤ 140737488355328 → l.length < k + i → i ≤ l.length → leatref01_Same.l0 k l l i = some true
  | 0, l, i, hb, hk, hi => by omega
  | k + 1, l, i, hb, hk, hi => by
    unfold leatref01_Same.l0
    by_cases h : i < l.length
    · rw [if_pos (by omega), if_pos (by omega), if_pos (by omega), if_pos rfl, w64F (by omega)]
      exact sameF_l k l (i + 1) hb (by omega) h
    · rw [if_neg (by omega)]
theorem sameF_f {k : Nat} {l : List Int} (hb : l.length ≤ 140737488355328) (hk : l.length < k) : leatref01_Same.f k l l = some true := by
  unfold leatref01_Same.f
  rw [if_pos rfl]
  exact sameF_l k l 0 hb (by omega) (by omega)
theorem alike_l : ∀ (k : Nat) (l : List S45) (i : Nat), l.length ≤ 3518437208882 → (∀ f ∈ l, f.f1.length ≤ big) → fuel l.length < k + i → i ≤ l.length → leatref18_Alike.l0 k l l i = some true
  | 0, l, i, hb, hf, hk, hi => by unfold fuel at hk; omega
  | k + 1, l, i, hb, hf, hk, hi => by
    unfold leatref18_Alike.l0
    by_cases h : i < l.length
    · have h1 := hf l[i] (List.getElem_mem h)
      unfold big at h1
      rw [if_pos (by omega), if_pos (by omega), if_pos (by omega), rd45_at (List.getElem?_eq_getElem h), if_pos rfl, sameF_f (by omega) (by unfold fuel at hk; omega), Option.bind_some, if_pos rfl, w64F (by omega)]
      exact alike_l k l (i + 1) hb hf (by omega) h
    · rw [if_neg (by omega)]
theorem alike_f {l : List S45} (hb : l.length ≤ 3518437208882) (hf : ∀ f ∈ l, f.f1.length ≤ big) : leatref18_Alike.f (fuel l.length + 1) l l = some true := by
  unfold leatref18_Alike.f
  rw [if_pos rfl]
  exact alike_l _ l 0 hb hf (by omega) (by omega)
set_option maxHeartbeats 8000000 in
theorem named_l : ∀ (k : Nat) (x : ByteArray) (i : Nat), x.size ≤ 120 → x.size < k + i → i ≤ x.size → leatref18_Named.l0 k x i = some (!(x.data.toList.drop i).any badC)
  | 0, x, i, hb, hk, hi => by omega
  | k + 1, x, i, hb, hk, hi => by
    unfold leatref18_Named.l0
    by_cases h : i < x.size
    · have hd : x.data.toList.drop i = x[i] :: x.data.toList.drop (i + 1) := List.drop_eq_getElem_cons h
      have hb1 : bt x (i : Int) = (x[i].toNat : Int) := by
        unfold bt
        rw [dif_pos (by rw [Int.toNat_natCast]; exact h)]
        rfl
      have ih := named_l k x (i + 1) hb (by omega) h
      rw [if_pos (by omega), if_pos (by omega), w64F (by omega), ih, hb1, hd, List.any_cons]
      generalize (x.data.toList.drop (i + 1)).any badC = q
      generalize x[i] = c
      obtain ⟨v, hv⟩ : ∃ v : Nat, v = c.toNat := ⟨_, rfl⟩
      have hbad : badC c = !(decide (97 ≤ v ∧ v ≤ 122) || decide (65 ≤ v ∧ v ≤ 90) || decide (48 ≤ v ∧ v ≤ 57) || v == 46 || v == 95 || v == 45 || v == 47) := by rw [hv]; rfl
      rw [← hv]
      by_cases hg : (97 ≤ v ∧ v ≤ 122) ∨ (65 ≤ v ∧ v ≤ 90) ∨ (48 ≤ v ∧ v ≤ 57) ∨ v = 46 ∨ v = 95 ∨ v = 45 ∨ v = 47
      · have : badC c = false := by
          rw [hbad]
          simp only [Bool.not_eq_false', Bool.or_eq_true, decide_eq_true_eq, beq_iff_eq]
          omega
        rw [this, Bool.false_or]
        repeat' split
        all_goals first | rfl | (exfalso; omega)
      · have : badC c = true := by
          rw [hbad]
          simp only [Bool.not_eq_true', Bool.or_eq_false_iff, decide_eq_false_iff_not, beq_eq_false_iff_ne]
          omega
        rw [this, Bool.true_or]
        repeat' split
        all_goals first | rfl | (exfalso; omega)
    · rw [if_neg (by omega), List.drop_of_length_le (by show x.data.toList.length ≤ i; rw [Array.length_toList]; exact Nat.le_of_not_lt h)]
      rfl
theorem named_f {k : Nat} {x : ByteArray} (hk : 122 < k) : leatref18_Named.f k x = some (!badN x.data.toList) := by
  have hl : x.data.toList.length = x.size := Array.length_toList
  unfold leatref18_Named.f badN
  obtain ⟨k, rfl⟩ : ∃ q, k = q + 1 := ⟨k - 1, by omega⟩
  by_cases h0 : x.size = 0
  · rw [if_pos (by omega)]
    show (if (true : Bool) = true then some false else leatref18_Named.l0 k x 0) = _
    rw [if_pos rfl, show x.data.toList = [] from List.length_eq_zero_iff.1 (by omega)]
    rfl
  · rw [if_neg (by omega)]
    show (if decide ((x.size : Int) > 120) = true then some false else leatref18_Named.l0 k x 0) = _
    have he : x.data.toList.isEmpty = false := by
      cases hx : x.data.toList with
      | nil => rw [hx] at hl; simp at hl; omega
      | cons a r => rfl
    rw [he, Bool.false_or, hl]
    by_cases hb : 120 < x.size
    · rw [if_pos (decide_eq_true (by omega)), show decide (120 < x.size) = true from decide_eq_true hb]
      rfl
    · rw [if_neg (by simp; omega), show decide (120 < x.size) = false from decide_eq_false hb, Bool.false_or]
      exact named_l k x 0 (by omega) (by omega) (by omega)
theorem tl (s : ByteArray) : s.toList = s.data.toList := Lib.toList_data s
theorem find_l : ∀ (k : Nat) (x : ByteArray) (i : Nat) (F : List S94) (a : Int) (b : List S26) (c : Int) (o : Bool), F.length ≤ 256 → F.length < k + i → i ≤ F.length → (∀ j f, j < i → F[j]? = some f → f.f0.data.toList ≠ x.data.toList) →
    ∃ r, leatref18_Find.l0 k x i F a b c o = some r ∧ (0 ≤ r ↔ ∃ f ∈ F, f.f0.data.toList = x.data.toList)
  | 0, x, i, F, a, b, c, o, hb, hk, hi, hn => by omega
  | k + 1, x, i, F, a, b, c, o, hb, hk, hi, hn => by
    unfold leatref18_Find.l0
    by_cases h : i < F.length
    · rw [if_pos (by omega), if_pos (by omega), rd94_at (List.getElem?_eq_getElem h), tl, tl]
      by_cases he : F[i].f0.data.toList = x.data.toList
      · rw [if_pos he]
        exact ⟨_, rfl, fun _ => ⟨_, List.getElem_mem h, he⟩, fun _ => by omega⟩
      · rw [if_neg he, w64F (by omega)]
        refine find_l k x (i + 1) F a b c o hb (by omega) h (fun j f hj hf => ?_)
        by_cases hji : j = i
        · subst hji
          rw [List.getElem?_eq_getElem h] at hf
          injection hf with hf
          rw [← hf]
          exact he
        · exact hn j f (by omega) hf
    · rw [if_neg (by omega)]
      refine ⟨-1, rfl, fun h => absurd h (by decide), fun ⟨f, hf, he⟩ => ?_⟩
      obtain ⟨j, hj⟩ := List.getElem?_of_mem hf
      exact absurd he (hn j f (by have := (List.getElem?_eq_some_iff.1 hj).1; omega) hj)
/-- A file of the reference, put before the first greater name. -/
def insR (g : S94) : List S94 → List S94
  | [] => [g]
  | f :: r => if Op.bytesLess g.f0.toList f.f0.toList = true then g :: f :: r else f :: insR g r
theorem made_l : ∀ (k : Nat) (x : ByteArray) (b : List Int) (acc : List S94) (fl : Bool) (i : Nat) (F : List S94) (r : Int) (p : List S26) (s : Int) (o : Bool), b.length ≤ big → F.length ≤ 256 → acc.length ≤ i + fl.toNat → fuel F.length < k + i → i ≤ F.length →
    leatref18_made.l0 k x b acc fl i F r p s o = some (acc ++ (if fl = true then F.drop i else insR ⟨x, b, []⟩ (F.drop i)), r, p, s, o, 0)
  | 0, x, b, acc, fl, i, F, r, p, s, o, hb, hF, ha, hk, hi => by unfold fuel at hk; omega
  | k + 1, x, b, acc, fl, i, F, r, p, s, o, hb, hF, ha, hk, hi => by
    have hcp : leatref01_Copy.f k b = some b := copyF_f (by unfold big at hb; omega) (by unfold fuel at hk; unfold big at hb; omega)
    unfold leatref18_made.l0
    by_cases h : i < F.length
    · have hd : F.drop i = F[i] :: F.drop (i + 1) := List.drop_eq_getElem_cons h
      rw [if_pos (by omega), rd94_at (List.getElem?_eq_getElem h), w64F (by omega), hd]
      cases fl with
      | true =>
        have ha : acc.length ≤ i + 1 := ha
        rw [if_pos rfl, if_pos (by omega), if_pos (by omega), made_l k x b _ true (i + 1) F r p s o hb hF (by rw [List.length_append]; simp; omega) (by omega) h, if_pos rfl, if_pos rfl, List.append_assoc]
        rfl
      | false =>
        have ha : acc.length ≤ i := ha
        rw [if_neg (by simp), if_pos (by omega)]
        rw [if_neg (c := (false = true)) (by simp)]
        by_cases hl : Op.bytesLess x.toList F[i].f0.toList = true
        · rw [if_pos hl, hcp, Option.bind_some, if_pos (by omega), Option.bind_some, if_pos (by rw [List.length_append]; simp; omega)]
          rw [made_l k x b _ true (i + 1) F r p s o hb hF (by rw [List.length_append, List.length_append]; simp; omega) (by omega) h, if_pos rfl]
          unfold insR
          rw [if_pos hl, List.append_assoc, List.append_assoc]
          rfl
        · rw [if_neg hl, if_pos (by omega)]
          rw [made_l k x b _ false (i + 1) F r p s o hb hF (by rw [List.length_append]; simp; omega) (by omega) h, if_neg (by simp)]
          rw [insR, if_neg hl, List.append_assoc]
          rfl
    · rw [if_neg (by omega), List.drop_of_length_le (by omega)]
      cases fl with
      | true => rw [if_pos rfl, if_pos rfl, List.append_nil]
      | false =>
        have ha : acc.length ≤ i := ha
        rw [if_neg (by simp), hcp, Option.bind_some, if_pos (by omega), if_neg (by simp)]
        rfl
theorem less_before : ∀ a b : List UInt8, Op.bytesLess a b = bytesBefore a b
  | [], [] => rfl
  | [], _ :: _ => rfl
  | _ :: _, [] => rfl
  | a :: x, b :: y => by
    unfold Op.bytesLess bytesBefore
    rw [less_before x y]
/-- The reference's files. -/
def refF (L : List (Nm × Fil)) : List S94 := L.map fun p => ⟨toBA p.1, p.2.safe, []⟩
theorem insR_ins (x : ByteArray) (b t : List Int) : ∀ L : List (Nm × Fil), insR ⟨x, b, []⟩ (refF L) = refF (ins (x.data.toList, ⟨b, t, []⟩) L)
  | [] => rfl
  | p :: r => by
    show (if Op.bytesLess x.toList (toBA p.1).toList = true then _ else _) = refF (if bytesBefore x.data.toList p.1 = true then _ else _)
    rw [tl, tl, less_before]
    show (if bytesBefore x.data.toList p.1 = true then _ else _) = _
    by_cases h : bytesBefore x.data.toList p.1 = true
    · rw [if_pos h, if_pos h]
      rfl
    · rw [if_neg h, if_neg h]
      show _ :: insR ⟨x, b, []⟩ (refF r) = _ :: refF (ins _ r)
      rw [insR_ins x b t r]
theorem refF_length (L : List (Nm × Fil)) : (refF L).length = L.length := List.length_map _
theorem refF_has (L : List (Nm × Fil)) (x : ByteArray) : (∃ f ∈ refF L, f.f0.data.toList = x.data.toList) ↔ (look L x.data.toList).isSome = true := by
  constructor
  · rintro ⟨f, hf, he⟩
    obtain ⟨p, hp, rfl⟩ := List.mem_map.1 hf
    cases hl : look L x.data.toList with
    | none => exact absurd he (look_none hl p hp)
    | some g => rfl
  · intro h
    obtain ⟨g, hg⟩ := Option.isSome_iff_exists.1 h
    exact ⟨_, List.mem_map.2 ⟨_, look_mem hg, rfl⟩, rfl⟩
theorem made_f {k : Nat} {kk : Dk} {x : ByteArray} {b : List Int} (r s : Int) (p : List S26) (o : Bool) (hb : b.length ≤ big) (hL : kk.files.length ≤ 256) (hk : fuel 300 < k) :
    leatref18_made.f k (refF kk.files) r p s o x b = some (refF (enterD kk x.data.toList b).1.files, r, p, s, o, (enterD kk x.data.toList b).2) := by
  unfold leatref18_made.f
  rw [named_f (by unfold fuel at hk; omega), Option.bind_some]
  unfold enterD
  by_cases hn : badN x.data.toList = true
  · rw [hn, if_neg (by simp), if_pos rfl]
  · rw [show badN x.data.toList = false by simpa using hn]
    simp only [Bool.not_false, if_true, Bool.false_eq_true, if_false]
    obtain ⟨q, hq, hqi⟩ := find_l k x 0 (refF kk.files) r p s o (by rw [refF_length]; exact hL) (by rw [refF_length]; unfold fuel at hk; omega) (Nat.zero_le _) (fun j f hj => by omega)
    unfold leatref18_Find.f
    rw [show ((0 : Nat) : Int) = 0 from rfl] at hq
    rw [hq, Option.bind_some]
    rw [refF_has] at hqi
    by_cases h1 : (look kk.files x.data.toList).isSome = true
    · rw [if_pos (hqi.2 h1), if_pos h1]
    · rw [if_neg (fun h => h1 (hqi.1 h)), if_neg h1, refF_length]
      by_cases h2 : 256 ≤ kk.files.length
      · rw [if_pos (by omega), if_pos h2]
      · rw [if_neg (by omega), if_neg h2]
        have := made_l k x b [] false 0 (refF kk.files) r p s o hb (by rw [refF_length]; exact hL) (Nat.zero_le _) (by rw [refF_length]; unfold fuel at hk ⊢; omega) (Nat.zero_le _)
        rw [show ((0 : Nat) : Int) = 0 from rfl] at this
        rw [this, if_neg (by simp), List.nil_append, List.drop_zero, insR_ins x b b]
        show some (refF _, _) = some (refF (put kk.files x.data.toList ⟨b, b, []⟩), _)
        unfold put
        rw [del_of_none (by simpa using h1)]
theorem enterD_length {kk : Dk} {x : Nm} {b : List Int} (h : kk.files.length ≤ 256) : (enterD kk x b).1.files.length ≤ 256 := by
  unfold enterD
  split
  · exact h
  · split
    · exact h
    · split
      · exact h
      · rename_i h1 h2 h3
        show (put kk.files x ⟨b, b, []⟩).length ≤ 256
        unfold put
        rw [ins_length, del_of_none (by simpa using h2)]
        omega
theorem load_l : ∀ (k : Nat) (fs : List SF) (i : Nat) (kk : Dk), (∀ f ∈ fs, f.f1.length ≤ big) → fs.length ≤ 140737488355328 → kk.files.length ≤ 256 → fuel 300 + fs.length < k + i → i ≤ fs.length →
    ∃ r1 r2 r3 r4 r5, leatref18_Load.l0 k fs i (refF kk.files) 16777216 [] 0 false = some (r1, r2, r3, r4, r5, (loadL kk (fs.drop i)).2)
  | 0, fs, i, kk, hf, hl, hL, hk, hi => by unfold fuel at hk; omega
  | k + 1, fs, i, kk, hf, hl, hL, hk, hi => by
    unfold leatref18_Load.l0
    by_cases h : i < fs.length
    · have hg := List.getElem?_eq_getElem h
      rw [if_pos (by omega), if_pos (by omega), rd45_at hg, made_f (kk := kk) _ _ _ _ (hf _ (List.getElem_mem h)) hL (by unfold fuel at hk ⊢; omega), Option.bind_some, loadL_step hg]
      by_cases he : (enterD kk fs[i].f0.data.toList fs[i].f1).2 = 0
      · simp only [he, if_true]
        rw [w64F (by omega)]
        exact load_l k fs (i + 1) _ hf hl (enterD_length hL) (by omega) h
      · rw [if_neg he, if_neg he]
        exact ⟨_, _, _, _, _, rfl⟩
    · rw [if_neg (by omega), List.drop_of_length_le (by omega)]
      exact ⟨_, _, _, _, _, rfl⟩
theorem load_f {fs : List SF} (hf : ∀ f ∈ fs, f.f1.length ≤ big) (hl : fs.length ≤ 140737488355328) : ∃ r1 r2 r3 r4 r5, leatref18_Load.f (fuel 300 + fs.length + 1) 16777216 fs = some (r1, r2, r3, r4, r5, (loadD 16777216 fs).2) :=
  load_l _ fs 0 (newD 16777216) hf hl (Nat.zero_le _) (by omega) (Nat.zero_le _)
def Fx (w W : World) (d : Nat) (k : Dk) (N : Nat) (v : Value) (l : List SF) : Prop := ∃ S, Disk W d S k N ∧ (∀ b, S b → w.heap.size ≤ b) ∧ Below w.heap.size w W ∧ RF W 0 (fun b => ¬ S b) v l
section
variable {w W W0 W' : World} {d N : Nat} {k : Dk} {v : Value} {l : List SF}
theorem Fx.bl (h : Fx w W d k N v l) : Below w.heap.size w W := by obtain ⟨S, _, _, h, _⟩ := h; exact h
theorem Fx.row (h : Fx w W d k N v l) : RF W 0 (fun _ => True) v l := by obtain ⟨S, _, _, _, h⟩ := h; exact Kd.S_mono h (fun _ _ => trivial)
theorem Fx.below (h : Fx w W d k N v l) (hb : Below W.heap.size W W') : Fx w W' d k N v l := by
  obtain ⟨S, h1, h2, h3, h4⟩ := h
  exact ⟨S, h1.below hb, h2, h3.trans (hb.mono h3.size), Kd.S_below h4 hb⟩
end
/-- A row of files that is read, element by element. -/
theorem frow_of {w : World} {ok : Nat → Prop} {base : Nat} {A : Option Addr} {n c : Nat} {fs : List SF} (h : RF w base ok (.slice A n c) fs) : FRow w A n fs := by
  obtain ⟨hn, hc, hC⟩ := Kd.S_reads' h
  refine ⟨hn, fun i f hf => ?_⟩
  have hi := (List.getElem?_eq_some_iff.1 hf).1
  obtain ⟨g, cap, e, _, hg, _⟩ := Kd.S_form h (by omega)
  injection e with e1 e2 e3
  subst e1
  obtain ⟨ad, cs, ea, hl, hK, hcell⟩ := Kd.C_get hC z45 (i : Int) (by omega) (by omega)
  injection ea with ea
  subst ea
  rw [Int.toNat_natCast] at hK hcell
  rw [List.getD_eq_getElem?_getD, hf, Option.getD_some] at hK
  obtain ⟨A1, c1, rfl, hle, hCC⟩ := k45_open hK
  have h0 := hcell 0 _ rfl
  have h1 := hcell 1 _ rfl
  rw [addr_zero] at h0 h1
  exact ⟨g, 0, A1, c1, rfl, hg, by rw [Nat.zero_add]; exact h0, by rw [Nat.zero_add]; exact h1, hle, hCC⟩
theorem twinF_any (A : Option Addr) (n c : Nat) (fs : List SF) (w : World) (hC : k45.C w A n fs) (hc : n ≤ c) (hl : fs.length ≤ 3518437208882) (hf : ∀ f ∈ fs, f.f1.length ≤ big) :
    Calls Try.prog 12 #[.slice A n c] w fun e w' => ∃ A' q, e = .returned (.slice A' n q) ∧ RF w' w.heap.size (fun _ => True) (.slice A' n q) fs ∧ Below w.heap.size w w' := by
  have hn : n = fs.length := (Kd.C_len hC).symm
  subst hn
  refine (leatref18_Twin.calls (fuel fs.length + 1) A c fs fs w hC hc (twin_l _ fs 0 hl hf (by omega) (Nat.zero_le _))).mono ?_
  rintro e w' ⟨v, rfl, hr, hb⟩
  obtain ⟨A', q, rfl⟩ := Kd.S_slice hr
  exact ⟨A', q, rfl, hr, hb⟩
theorem alikeF_any (A B : Option Addr) (n c q : Nat) (fs : List SF) (w : World) (hA : k45.C w A n fs) (hc : n ≤ c) (hB : k45.C w B n fs) (hq : n ≤ q) (hl : fs.length ≤ 3518437208882) (hf : ∀ f ∈ fs, f.f1.length ≤ big) :
    Calls Try.prog 22 #[.slice A n c, .slice B n q] w fun e w' => e = .returned (.bool true) ∧ Below w.heap.size w w' := by
  have hn : n = fs.length := (Kd.C_len hA).symm
  subst hn
  refine (leatref18_Alike.calls (fuel fs.length + 1) A c fs B q fs true w hA hc hB hq (alike_f hl hf)).mono ?_
  rintro e w' ⟨rfl, hd⟩
  exact ⟨rfl, hd.below⟩
theorem refLoad_any (A : Option Addr) (n c : Nat) (fs : List SF) (w : World) (hC : k45.C w A n fs) (hc : n ≤ c) (hl : fs.length ≤ 140737488355328) (hf : ∀ f ∈ fs, f.f1.length ≤ big) :
    Calls Try.prog 14 #[.int .i64 16777216, .slice A n c] w fun e w' => ∃ A1 n1 c1 i1 A2 n2 c2 i2 o, e = .returned (.tuple #[.agg #[.slice A1 n1 c1, .int .i64 i1, .slice A2 n2 c2, .int .i64 i2, .bool o], .int .i64 (loadD 16777216 fs).2]) ∧ Below w.heap.size w w' := by
  have hn : n = fs.length := (Kd.C_len hC).symm
  subst hn
  obtain ⟨r1, r2, r3, r4, r5, h⟩ := load_f hf hl
  refine (leatref18_Load.calls _ 16777216 A c fs r1 r2 r3 r4 r5 _ w hC hc h).mono ?_
  rintro e w' ⟨v0, v2, rfl, hv0, hv2, hb⟩
  obtain ⟨A2, c2, rfl⟩ := Kd.R_slice hv2
  obtain ⟨A1, c1, rfl⟩ := Kd.V_slice hv0
  exact ⟨_, _, _, _, _, _, _, _, _, rfl, hb⟩
/-- A disk that was just loaded. -/
structure Fresh (k : Dk) : Prop where
  plan : k.plan = []
  steps : k.steps = 0
  off : k.off = false
  files : ∀ p ∈ k.files, p.2.chs = [] ∧ p.2.safe = p.2.seen
theorem Fresh.enter {k : Dk} (h : Fresh k) (x : Nm) (b : List Int) : Fresh (enterD k x b).1 := by
  unfold enterD
  split
  · exact h
  · split
    · exact h
    · split
      · exact h
      · refine ⟨h.plan, h.steps, h.off, fun p hp => ?_⟩
        rcases mem_put.1 hp with rfl | hp
        · exact ⟨rfl, rfl⟩
        · exact h.files p hp.1
theorem Fresh.load : ∀ (fs : List SF) {k : Dk}, Fresh k → Fresh (loadL k fs).1
  | [], k, h => h
  | f :: r, k, h => by
    unfold loadL
    split
    · exact Fresh.load r (h.enter _ _)
    · exact h.enter _ _
theorem newD_fresh (room : Int) : Fresh (newD room) := ⟨rfl, rfl, rfl, fun p hp => nomatch hp⟩
end Go.Proofs.Ytkhopknpadncdaa
