/- DiskFails: what the printed Find, made and Load answer. -/
import Derived.Test.YtkhopknpadncdaaFailsP
import Derived.Test.YtkhopknpadncdaaPDiskFailsx9
import Derived.Test.YtkhopknpadncdaaPDiskFailsx10
namespace Go.Proofs.Ytkhopknpadncdaa
open Go Go.RowKit Go.Proofs.YtkhopknpadncdaaW.PrintWords Go.Proofs.Ytkhopknpadncdaa.PDiskFails
set_option linter.unusedVariables false

theorem tl (s : ByteArray) : s.toList = s.data.toList := Lib.toList_data s
theorem find_l : ∀ (k : Nat) (x : ByteArray) (i : Nat) (F : List S94) (a : Int) (b : List S26) (c : Int) (o : Bool), F.length ≤ 256 → F.length < k + i → i ≤ F.length → (∀ j f, j < i → F[j]? = some f → f.f0.data.toList ≠ x.data.toList) →
    ∃ r, leatref18_Find.l0 k x i F a b c o = some r ∧ (0 ≤ r ↔ ∃ f ∈ F, f.f0.data.toList = x.data.toList)
  | 0, x, i, F, a, b, c, o, hb, hk, hi, hn => by omega
  | k + 1, x, i, F, a, b, c, o, hb, hk, hi, hn => by
    unfold leatref18_Find.l0
    by_cases h : i < F.length
    · rw [if_pos (by omega), if_pos (by omega), rd94_at (List.getElem?_eq_getElem h), tl, tl]
      by_cases he : F[i].f0.data.toList = x.data.toList
      · rw [if_pos he]
        exact ⟨_, rfl, fun _ => ⟨_, List.getElem_mem h, he⟩, fun _ => by omega⟩
      · rw [if_neg he, w64F (by omega)]
        refine find_l k x (i + 1) F a b c o hb (by omega) h (fun j f hj hf => ?_)
        by_cases hji : j = i
        · subst hji
          rw [List.getElem?_eq_getElem h] at hf
          injection hf with hf
          rw [← hf]
          exact he
        · exact hn j f (by omega) hf
    · rw [if_neg (by omega)]
      refine ⟨-1, rfl, fun h => absurd h (by decide), fun ⟨f, hf, he⟩ => ?_⟩
      obtain ⟨j, hj⟩ := List.getElem?_of_mem hf
      exact absurd he (hn j f (by have := (List.getElem?_eq_some_iff.1 hj).1; omega) hj)
/-- A file of the reference, put before the first greater name. -/
def insR (g : S94) : List S94 → List S94
  | [] => [g]
  | f :: r => if Op.bytesLess g.f0.toList f.f0.toList = true then g :: f :: r else f :: insR g r
theorem made_l : ∀ (k : Nat) (x : ByteArray) (b : List Int) (acc : List S94) (fl : Bool) (i : Nat) (F : List S94) (r : Int) (p : List S26) (s : Int) (o : Bool), b.length ≤ big → F.length ≤ 256 → acc.length ≤ i + fl.toNat → fuel F.length < k + i → i ≤ F.length →
    leatref18_made.l0 k x b acc fl i F r p s o = some (acc ++ (if fl = true then F.drop i else insR ⟨x, b, []⟩ (F.drop i)), r, p, s, o, 0)
  | 0, x, b, acc, fl, i, F, r, p, s, o, hb, hF, ha, hk, hi => by unfold fuel at hk; omega
  | k + 1, x, b, acc, fl, i, F, r, p, s, o, hb, hF, ha, hk, hi => by
    have hcp : leatref01_Copy.f k b = some b := copyF_f (by unfold big at hb; omega) (by unfold fuel at hk; unfold big at hb; omega)
    unfold leatref18_made.l0
    by_cases h : i < F.length
    · have hd : F.drop i = F[i] :: F.drop (i + 1) := List.drop_eq_getElem_cons h
      rw [if_pos (by omega), rd94_at (List.getElem?_eq_getElem h), w64F (by omega), hd]
      cases fl with
      | true =>
        have ha : acc.length ≤ i + 1 := ha
        rw [if_pos rfl, if_pos (by omega), if_pos (by omega), made_l k x b _ true (i + 1) F r p s o hb hF (by rw [List.length_append]; simp; omega) (by omega) h, if_pos rfl, if_pos rfl, List.append_assoc]
        rfl
      | false =>
        have ha : acc.length ≤ i := ha
        rw [if_neg (by simp), if_pos (by omega)]
        rw [if_neg (c := (false = true)) (by simp)]
        by_cases hl : Op.bytesLess x.toList F[i].f0.toList = true
        · rw [if_pos hl, hcp, Option.bind_some, if_pos (by omega), Option.bind_some, if_pos (by rw [List.length_append]; simp; omega)]
          rw [made_l k x b _ true (i + 1) F r p s o hb hF (by rw [List.length_append, List.length_append]; simp; omega) (by omega) h, if_pos rfl]
          unfold insR
          rw [if_pos hl, List.append_assoc, List.append_assoc]
          rfl
        · rw [if_neg hl, if_pos (by omega)]
          rw [made_l k x b _ false (i + 1) F r p s o hb hF (by rw [List.length_append]; simp; omega) (by omega) h, if_neg (by simp)]
          rw [insR, if_neg hl, List.append_assoc]
          rfl
    · rw [if_neg (by omega), List.drop_of_length_le (by omega)]
      cases fl with
      | true => rw [if_pos rfl, if_pos rfl, List.append_nil]
      | false =>
        have ha : acc.length ≤ i := ha
        rw [if_neg (by simp), hcp, Option.bind_some, if_pos (by omega), if_neg (by simp)]
        rfl

theorem less_before : ∀ a b : List UInt8, Op.bytesLess a b = bytesBefore a b
  | [], [] => rfl
  | [], _ :: _ => rfl
  | _ :: _, [] => rfl
  | a :: x, b :: y => by
    unfold Op.bytesLess bytesBefore
    rw [less_before x y]
/-- The reference's files. -/
def refF (L : List (Nm × Fil)) : List S94 := L.map fun p => ⟨toBA p.1, p.2.safe, []⟩
theorem insR_ins (x : ByteArray) (b t : List Int) : ∀ L : List (Nm × Fil), insR ⟨x, b, []⟩ (refF L) = refF (ins (x.data.toList, ⟨b, t, []⟩) L)
  | [] => rfl
  | p :: r => by
    show (if Op.bytesLess x.toList (toBA p.1).toList = true then _ else _) = refF (if bytesBefore x.data.toList p.1 = true then _ else _)
    rw [tl, tl, less_before]
    show (if bytesBefore x.data.toList p.1 = true then _ else _) = _
    by_cases h : bytesBefore x.data.toList p.1 = true
    · rw [if_pos h, if_pos h]
      rfl
    · rw [if_neg h, if_neg h]
      show _ :: insR ⟨x, b, []⟩ (refF r) = _ :: refF (ins _ r)
      rw [insR_ins x b t r]
theorem refF_length (L : List (Nm × Fil)) : (refF L).length = L.length := List.length_map _
theorem refF_has (L : List (Nm × Fil)) (x : ByteArray) : (∃ f ∈ refF L, f.f0.data.toList = x.data.toList) ↔ (look L x.data.toList).isSome = true := by
  constructor
  · rintro ⟨f, hf, he⟩
    obtain ⟨p, hp, rfl⟩ := List.mem_map.1 hf
    cases hl : look L x.data.toList with
    | none => exact absurd he (look_none hl p hp)
    | some g => rfl
  · intro h
    obtain ⟨g, hg⟩ := Option.isSome_iff_exists.1 h
    exact ⟨_, List.mem_map.2 ⟨_, look_mem hg, rfl⟩, rfl⟩
theorem made_f {k : Nat} {kk : Dk} {x : ByteArray} {b : List Int} (r s : Int) (p : List S26) (o : Bool) (hb : b.length ≤ big) (hL : kk.files.length ≤ 256) (hk : fuel 300 < k) :
    leatref18_made.f k (refF kk.files) r p s o x b = some (refF (enterD kk x.data.toList b).1.files, r, p, s, o, (enterD kk x.data.toList b).2) := by
  unfold leatref18_made.f
  rw [named_f (by unfold fuel at hk; omega), Option.bind_some]
  unfold enterD
  by_cases hn : badN x.data.toList = true
  · rw [hn, if_neg (by simp), if_pos rfl]
  · rw [show badN x.data.toList = false by simpa using hn]
    simp only [Bool.not_false, if_true, Bool.false_eq_true, if_false]
    obtain ⟨q, hq, hqi⟩ := find_l k x 0 (refF kk.files) r p s o (by rw [refF_length]; exact hL) (by rw [refF_length]; unfold fuel at hk; omega) (Nat.zero_le _) (fun j f hj => by omega)
    unfold leatref18_Find.f
    rw [show ((0 : Nat) : Int) = 0 from rfl] at hq
    rw [hq, Option.bind_some]
    rw [refF_has] at hqi
    by_cases h1 : (look kk.files x.data.toList).isSome = true
    · rw [if_pos (hqi.2 h1), if_pos h1]
    · rw [if_neg (fun h => h1 (hqi.1 h)), if_neg h1, refF_length]
      by_cases h2 : 256 ≤ kk.files.length
      · rw [if_pos (by omega), if_pos h2]
      · rw [if_neg (by omega), if_neg h2]
        have := made_l k x b [] false 0 (refF kk.files) r p s o hb (by rw [refF_length]; exact hL) (Nat.zero_le _) (by rw [refF_length]; unfold fuel at hk ⊢; omega) (Nat.zero_le _)
        rw [show ((0 : Nat) : Int) = 0 from rfl] at this
        rw [this, if_neg (by simp), List.nil_append, List.drop_zero, insR_ins x b b]
        show some (refF _, _) = some (refF (put kk.files x.data.toList ⟨b, b, []⟩), _)
        unfold put
        rw [del_of_none (by simpa using h1)]
theorem enterD_length {kk : Dk} {x : Nm} {b : List Int} (h : kk.files.length ≤ 256) : (enterD kk x b).1.files.length ≤ 256 := by
  unfold enterD
  split
  · exact h
  · split
    · exact h
    · split
      · exact h
      · rename_i h1 h2 h3
        show (put kk.files x ⟨b, b, []⟩).length ≤ 256
        unfold put
        rw [ins_length, del_of_none (by simpa using h2)]
        omega
theorem load_l : ∀ (k : Nat) (fs : List SF) (i : Nat) (kk : Dk), (∀ f ∈ fs, f.f1.length ≤ big) → fs.length ≤ 140737488355328 → kk.files.length ≤ 256 → fuel 300 + fs.length < k + i → i ≤ fs.length →
    ∃ r1 r2 r3 r4 r5, leatref18_Load.l0 k fs i (refF kk.files) 16777216 [] 0 false = some (r1, r2, r3, r4, r5, (loadL kk (fs.drop i)).2)
  | 0, fs, i, kk, hf, hl, hL, hk, hi => by unfold fuel at hk; omega
  | k + 1, fs, i, kk, hf, hl, hL, hk, hi => by
    unfold leatref18_Load.l0
    by_cases h : i < fs.length
    · have hg := List.getElem?_eq_getElem h
      rw [if_pos (by omega), if_pos (by omega), rd45_at hg, made_f (kk := kk) _ _ _ _ (hf _ (List.getElem_mem h)) hL (by unfold fuel at hk ⊢; omega), Option.bind_some, loadL_step hg]
      by_cases he : (enterD kk fs[i].f0.data.toList fs[i].f1).2 = 0
      · simp only [he, if_true]
        rw [w64F (by omega)]
        exact load_l k fs (i + 1) _ hf hl (enterD_length hL) (by omega) h
      · rw [if_neg he, if_neg he]
        exact ⟨_, _, _, _, _, rfl⟩
    · rw [if_neg (by omega), List.drop_of_length_le (by omega)]
      exact ⟨_, _, _, _, _, rfl⟩
theorem load_f {fs : List SF} (hf : ∀ f ∈ fs, f.f1.length ≤ big) (hl : fs.length ≤ 140737488355328) : ∃ r1 r2 r3 r4 r5, leatref18_Load.f (fuel 300 + fs.length + 1) 16777216 fs = some (r1, r2, r3, r4, r5, (loadD 16777216 fs).2) :=
  load_l _ fs 0 (newD 16777216) hf hl (Nat.zero_le _) (by omega) (Nat.zero_le _)
end Go.Proofs.Ytkhopknpadncdaa
