/- DiskMemory without memory: the reference's state beside the disk's. -/
import Derived.Test.YtkhopknpadncdaaMemF
import Derived.Test.YtkhopknpadncdaaMemQ
namespace Go.Proofs.Ytkhopknpadncdaa
open Go Go.RowKit Go.Proofs.YtkhopknpadncdaaW.PrintWords Go.Proofs.Ytkhopknpadncdaa.PDiskMemory
set_option linter.unusedVariables false

def addsOf (f : Fil) : List Int := f.chs.flatMap (·.add)
def gfs (L : List (Nm × Fil)) : List GF := L.map fun p => ⟨toBA p.1, p.2.safe, addsOf p.2⟩
/-- The reference's files. -/
def refG (L : List (Nm × Fil)) : List S94 := (gfs L).map GF.ref
/-- What is seen is what is safe, and what was put behind. -/
def Grn (L : List (Nm × Fil)) : Prop := ∀ p ∈ L, p.2.seen = p.2.safe ++ addsOf p.2
theorem refG_fresh {L : List (Nm × Fil)} (h : ∀ p ∈ L, p.2.chs = []) : refG L = refF L := by
  unfold refG gfs refF
  rw [List.map_map]
  refine List.map_congr_left fun p hp => ?_
  show (GF.ref ⟨toBA p.1, p.2.safe, addsOf p.2⟩) = _
  unfold GF.ref addsOf
  rw [h p hp]
  rfl
theorem Fresh.grn {k : Dk} (h : Fresh k) : Grn k.files := fun p hp => by
  unfold addsOf
  rw [(h.files p hp).1, (h.files p hp).2]
  simp
theorem gfs_length (L : List (Nm × Fil)) : (gfs L).length = L.length := List.length_map _
theorem refG_length (L : List (Nm × Fil)) : (refG L).length = L.length := by unfold refG; rw [List.length_map, gfs_length]
theorem refG_at {L : List (Nm × Fil)} {i : Nat} {p : Nm × Fil} (h : L[i]? = some p) : (refG L)[i]? = some ⟨toBA p.1, p.2.safe, (addsOf p.2).map addU⟩ := by
  unfold refG gfs
  rw [List.getElem?_map, List.getElem?_map, h]
  rfl
theorem upd_set {β : Type} {L : List (Nm × β)} (hn : L.Pairwise fun a b => a.1 ≠ b.1) {i : Nat} {x : Nm} {u : β} (v : β) (h : L[i]? = some (x, u)) : upd L x v = L.set i (x, v) := by
  apply List.ext_getElem?
  intro j
  unfold upd
  rw [List.getElem?_map, List.getElem?_set]
  have hl := (List.getElem?_eq_some_iff.1 h).1
  by_cases hj : i = j
  · subst hj
    rw [if_pos rfl, if_pos hl, h]
    simp
  · rw [if_neg hj]
    cases hq : L[j]? with
    | none => rfl
    | some p =>
      have hne : p.1 ≠ x := fun e => by
        obtain ⟨hlj, hpj⟩ := List.getElem?_eq_some_iff.1 hq
        obtain ⟨_, hpi⟩ := List.getElem?_eq_some_iff.1 h
        have hp := List.pairwise_iff_getElem.1 hn
        rcases Nat.lt_or_gt_of_ne hj with hlt | hlt
        · exact hp i j hl hlj hlt (by rw [hpi, hpj]; exact e.symm)
        · exact hp j i hlj hl hlt (by rw [hpi, hpj]; exact e)
      simp [hne]
theorem refG_set {L : List (Nm × Fil)} (i : Nat) (x : Nm) (v : Fil) : refG (L.set i (x, v)) = (refG L).set i ⟨toBA x, v.safe, (addsOf v).map addU⟩ := by
  unfold refG gfs
  rw [List.map_set, List.map_set]
  rfl
theorem putF_adds (f : Fil) (b : List Int) : addsOf (putF f b) = addsOf f ++ b := by
  unfold addsOf putF
  simp
theorem Grn.upd {L : List (Nm × Fil)} (h : Grn L) {x : Nm} {f : Fil} (hf : look L x = some f) (b : List Int) : Grn (upd L x (putF f b)) := fun p hp => by
  rcases mem_upd.1 hp with ⟨rfl, _⟩ | ⟨hp, _⟩
  · rw [putF_adds]
    show f.seen ++ b = f.safe ++ (addsOf f ++ b)
    rw [h _ (look_mem hf), List.append_assoc]
  · exact h p hp
/-- What Find answers. -/
theorem find_at : ∀ (k : Nat) (x : ByteArray) (i : Nat) (F : List S94) (a : Int) (b : List S26) (c : Int) (o : Bool), F.length ≤ 256 → F.length < k + i → i ≤ F.length → (∀ j f, j < i → F[j]? = some f → f.f0.data.toList ≠ x.data.toList) →
    ∃ r, leatref18_Find.l0 k x i F a b c o = some r ∧ ((r = -1 ∧ ∀ f ∈ F, f.f0.data.toList ≠ x.data.toList) ∨ ∃ (j : Nat) (f : S94), r = j ∧ F[j]? = some f ∧ f.f0.data.toList = x.data.toList)
  | 0, x, i, F, a, b, c, o, hb, hk, hi, hn => by omega
  | k + 1, x, i, F, a, b, c, o, hb, hk, hi, hn => by
    unfold leatref18_Find.l0
    by_cases h : i < F.length
    · rw [if_pos (by omega), if_pos (by omega), rd94_at (List.getElem?_eq_getElem h), tl, tl]
      by_cases he : F[i].f0.data.toList = x.data.toList
      · rw [if_pos he]
        exact ⟨_, rfl, .inr ⟨i, F[i], rfl, List.getElem?_eq_getElem h, he⟩⟩
      · rw [if_neg he, w64F (by omega)]
        refine find_at k x (i + 1) F a b c o hb (by omega) h (fun j f hj hf => ?_)
        by_cases hji : j = i
        · subst hji
          rw [List.getElem?_eq_getElem h] at hf
          injection hf with hf
          rw [← hf]
          exact he
        · exact hn j f (by omega) hf
    · rw [if_neg (by omega)]
      refine ⟨-1, rfl, .inl ⟨rfl, fun f hf => ?_⟩⟩
      obtain ⟨j, hj⟩ := List.getElem?_of_mem hf
      exact hn j f (by have := (List.getElem?_eq_some_iff.1 hj).1; omega) hj
/-- Find over the disk's files: none, or the file's place. -/
theorem find_ref {L : List (Nm × Fil)} (hn : L.Pairwise fun a b => a.1 ≠ b.1) (hl : L.length ≤ 256) (x : ByteArray) (a : Int) (b : List S26) (c : Int) (o : Bool) :
    ∃ r, leatref18_Find.f 300 (refG L) a b c o x = some r ∧ ((r = -1 ∧ look L x.data.toList = none) ∨ ∃ (j : Nat) (f : Fil), r = j ∧ L[j]? = some (x.data.toList, f) ∧ look L x.data.toList = some f) := by
  obtain ⟨r, hr, h⟩ := find_at 300 x 0 (refG L) a b c o (by rw [refG_length]; exact hl) (by rw [refG_length]; omega) (Nat.zero_le _) (fun j f hj => by omega)
  refine ⟨r, hr, ?_⟩
  rcases h with ⟨rfl, h⟩ | ⟨j, f, rfl, hj, he⟩
  · left
    refine ⟨rfl, ?_⟩
    cases hk : look L x.data.toList with
    | none => rfl
    | some f =>
      obtain ⟨i, hi⟩ := List.getElem?_of_mem (look_mem hk)
      exact absurd rfl (h _ (List.mem_of_getElem? (refG_at hi)))
  · right
    have hjl := (List.getElem?_eq_some_iff.1 hj).1
    rw [refG_length] at hjl
    obtain ⟨p, hp⟩ : ∃ p, L[j]? = some p := ⟨_, List.getElem?_eq_getElem hjl⟩
    rw [refG_at hp] at hj
    injection hj with hj
    have hpx : p.1 = x.data.toList := by
      rw [← he, ← hj]
      rfl
    have hp2 : L[j]? = some (x.data.toList, p.2) := by rw [hp, ← hpx]
    exact ⟨j, p.2, rfl, hp2, look_of_mem hn (List.mem_of_getElem? hp2)⟩
theorem gfs_ok {k : Dk} {N : Nat} (h : k.ok N) (hg : Grn k.files) : (∀ g ∈ gfs k.files, g.Ok) ∧ usedG (gfs k.files) = used k.files := by
  refine ⟨fun g hg2 => ?_, ?_⟩
  · obtain ⟨p, hp, rfl⟩ := List.mem_map.1 hg2
    have h1 := (h.1 p hp).1.stop.1
    rw [hg p hp, List.length_append] at h1
    unfold GF.Ok
    unfold big at h1
    show p.2.safe.length + (addsOf p.2).length ≤ _
    omega
  · unfold usedG used gfs
    rw [List.map_map]
    congr 1
    refine List.map_congr_left fun p hp => ?_
    show (p.2.safe ++ addsOf p.2).length = _
    rw [← hg p hp]
/-- The disk's files, as the reference lists them. -/
theorem filesD_gfs {k : Dk} (hg : Grn k.files) : filesD (·.seen) k = (gfs k.files).map (GF.file false) ∧ filesD (·.safe) k = (gfs k.files).map (GF.file true) := by
  unfold filesD gfs
  rw [List.map_map, List.map_map]
  refine ⟨List.map_congr_left fun p hp => ?_, List.map_congr_left fun p hp => ?_⟩
  · show (⟨toBA p.1, p.2.seen⟩ : SF) = ⟨toBA p.1, p.2.safe ++ addsOf p.2⟩
    rw [← hg p hp]
  · rfl
/-- Load without an error, the whole answer. -/
theorem load_whole : ∀ (k : Nat) (fs : List SF) (i : Nat) (kk : Dk), (∀ f ∈ fs, f.f1.length ≤ big) → fs.length ≤ 140737488355328 → kk.files.length ≤ 256 → fuel 300 + fs.length < k + i → i ≤ fs.length → (loadL kk (fs.drop i)).2 = 0 →
    leatref18_Load.l0 k fs i (refF kk.files) 16777216 [] 0 false = some (refF (loadL kk (fs.drop i)).1.files, 16777216, [], 0, false, 0)
  | 0, fs, i, kk, hf, hl, hL, hk, hi, he => by unfold fuel at hk; omega
  | k + 1, fs, i, kk, hf, hl, hL, hk, hi, he => by
    unfold leatref18_Load.l0
    by_cases h : i < fs.length
    · have hg := List.getElem?_eq_getElem h
      rw [loadL_step hg] at he ⊢
      rw [if_pos (by omega), if_pos (by omega), rd45_at hg, made_f (kk := kk) _ _ _ _ (hf _ (List.getElem_mem h)) hL (by unfold fuel at hk ⊢; omega), Option.bind_some]
      by_cases he2 : (enterD kk fs[i].f0.data.toList fs[i].f1).2 = 0
      · simp only [he2, if_true] at he ⊢
        rw [w64F (by omega)]
        exact load_whole k fs (i + 1) _ hf hl (enterD_length hL) (by omega) h he
      · rw [if_neg he2] at he
        exact absurd he he2
    · rw [if_neg (by omega), List.drop_of_length_le (by omega)]
      rfl
theorem load_done {fs : List SF} (hf : ∀ f ∈ fs, f.f1.length ≤ big) (hl : fs.length ≤ 140737488355328) (he : (loadD 16777216 fs).2 = 0) : leatref18_Load.f (fuel 300 + fs.length + 1) 16777216 fs = some (refF (loadD 16777216 fs).1.files, 16777216, [], 0, false, 0) :=
  load_whole _ fs 0 (newD 16777216) hf hl (Nat.zero_le _) (by omega) (Nat.zero_le _) he
end Go.Proofs.Ytkhopknpadncdaa
