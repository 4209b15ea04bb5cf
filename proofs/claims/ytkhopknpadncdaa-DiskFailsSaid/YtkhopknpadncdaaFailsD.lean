/- DiskFails without memory. -/
import Derived.Test.YtkhopknpadncdaaFailsW
namespace Go.Proofs.Ytkhopknpadncdaa
open Go Go.RowKit
set_option linter.unusedVariables false

/-- A disk that was just loaded. -/
structure Fresh (k : Dk) : Prop where
  plan : k.plan = []
  steps : k.steps = 0
  off : k.off = false
  files : ∀ p ∈ k.files, p.2.chs = [] ∧ p.2.safe = p.2.seen
theorem Fresh.enter {k : Dk} (h : Fresh k) (x : Nm) (b : List Int) : Fresh (enterD k x b).1 := by
  unfold enterD
  split
  · exact h
  · split
    · exact h
    · split
      · exact h
      · refine ⟨h.plan, h.steps, h.off, fun p hp => ?_⟩
        rcases mem_put.1 hp with rfl | hp
        · exact ⟨rfl, rfl⟩
        · exact h.files p hp.1
theorem Fresh.load : ∀ (fs : List SF) {k : Dk}, Fresh k → Fresh (loadL k fs).1
  | [], k, h => h
  | f :: r, k, h => by
    unfold loadL
    split
    · exact Fresh.load r (h.enter _ _)
    · exact h.enter _ _
theorem newD_fresh (room : Int) : Fresh (newD room) := ⟨rfl, rfl, rfl, fun p hp => nomatch hp⟩
theorem stepO_form (kd : Int) (nm : Nm) (n : Int) (b : List Int) : ∃ doF paF, (∀ k, stepO kd nm n b k = stepD doF paF k) ∧ ∀ k : Dk, ((doF k).2 ≠ 0 → (doF k).1 = k) ∧ (doF k).1.files.filter (fun p => !decide (p.1 = nm)) = k.files.filter (fun p => !decide (p.1 = nm)) := by
  have hupd : ∀ (L : List (Nm × Fil)) (v : Fil), (upd L nm v).filter (fun p => !decide (p.1 = nm)) = L.filter (fun p => !decide (p.1 = nm)) := fun L v => by
    induction L with
    | nil => rfl
    | cons p r ih =>
      show ((if p.1 = nm then (nm, v) else p) :: upd r nm v).filter _ = _
      by_cases h : p.1 = nm
      · rw [if_pos h, List.filter_cons_of_neg (by simp), List.filter_cons_of_neg (by simp [h])]
        exact ih
      · rw [if_neg h, List.filter_cons_of_pos (by simp [h]), List.filter_cons_of_pos (by simp [h]), ih]
  have hins : ∀ (L : List (Nm × Fil)) (v : Fil), (ins (nm, v) L).filter (fun p => !decide (p.1 = nm)) = L.filter (fun p => !decide (p.1 = nm)) := fun L v => by
    induction L with
    | nil => simp [ins]
    | cons p r ih =>
      unfold ins
      split
      · rw [List.filter_cons_of_neg (by simp)]
      · rw [List.filter_cons, List.filter_cons, ih]
  have hdel : ∀ L : List (Nm × Fil), (del L nm).filter (fun p => !decide (p.1 = nm)) = L.filter (fun p => !decide (p.1 = nm)) := fun L => by
    unfold del
    rw [List.filter_filter]
    refine List.filter_congr fun p _ => ?_
    by_cases h : p.1 = nm <;> simp [h]
  unfold stepO
  by_cases k1 : kd = 1
  · refine ⟨_, _, fun k => by rw [if_pos k1], fun k => ?_⟩
    unfold createD enterD
    split
    · exact ⟨fun _ => rfl, rfl⟩
    · split
      · exact ⟨fun _ => rfl, rfl⟩
      · split
        · exact ⟨fun _ => rfl, rfl⟩
        · exact ⟨fun h => absurd rfl h, by
            show (put k.files nm _).filter _ = _
            unfold put
            rw [hins, hdel]⟩
  by_cases k2 : kd = 2
  · refine ⟨_, _, fun k => by rw [if_neg k1, if_pos k2], fun k => ?_⟩
    unfold appendD
    split
    · exact ⟨fun _ => rfl, rfl⟩
    · split
      · exact ⟨fun _ => rfl, rfl⟩
      · exact ⟨fun h => absurd rfl h, hupd _ _⟩
  by_cases k3 : kd = 3
  · refine ⟨_, _, fun k => by rw [if_neg k1, if_neg k2, if_pos k3], fun k => ?_⟩
    unfold cutD
    split
    · exact ⟨fun _ => rfl, rfl⟩
    · split
      · exact ⟨fun _ => rfl, rfl⟩
      · exact ⟨fun h => absurd rfl h, hupd _ _⟩
  by_cases k4 : kd = 4
  · refine ⟨_, _, fun k => by rw [if_neg k1, if_neg k2, if_neg k3, if_pos k4], fun k => ?_⟩
    unfold syncD
    split
    · exact ⟨fun _ => rfl, rfl⟩
    · exact ⟨fun h => absurd rfl h, hupd _ _⟩
  · refine ⟨_, _, fun k => by rw [if_neg k1, if_neg k2, if_neg k3, if_neg k4], fun k => ?_⟩
    unfold removeD
    split
    · exact ⟨fun _ => rfl, rfl⟩
    · exact ⟨fun h => absurd rfl h, hdel _⟩
/-- The files that are told but for one. -/
theorem others_files (nm : ByteArray) (pk : Fil → List Int) (k : Dk) : othersL nm (filesD pk k) = (k.files.filter fun p => !decide (p.1 = nm.data.toList)).map fun p => (⟨toBA p.1, pk p.2⟩ : SF) := by
  unfold othersL filesD
  rw [List.filter_map]
  congr 1
  refine List.filter_congr fun p _ => ?_
  show (!decide ((toBA p.1).toList = nm.toList)) = _
  rw [tl, tl]
  rfl
/-- A step that is answered otherwise. -/
theorem fails_other {k : Dk} (h : Fresh k) (kd : Int) (nm : ByteArray) (n : Int) (b : List Int) (pk : Fil → List Int) :
    ((stepO kd nm.data.toList n b k).2 ≠ 0 → filesD pk (stepO kd nm.data.toList n b k).1 = filesD pk k) ∧ othersL nm (filesD pk (stepO kd nm.data.toList n b k).1) = othersL nm (filesD pk k) := by
  obtain ⟨doF, paF, hf, hp⟩ := stepO_form kd nm.data.toList n b
  have hs : stepO kd nm.data.toList n b k = doF { k with steps := k.steps + 1 } := by
    rw [hf]
    unfold stepD
    rw [if_neg (by rw [h.off]; simp)]
    simp only
    rw [h.plan]
    rfl
  rw [hs]
  obtain ⟨h1, h2⟩ := hp { k with steps := k.steps + 1 }
  refine ⟨fun he => ?_, ?_⟩
  · rw [h1 he]; rfl
  · rw [others_files, others_files, h2]
/-- A step that fails, or ahead of which the power goes. -/
theorem fails_one {k : Dk} (h : Fresh k) (kd : Int) (nm : Nm) (n : Int) (b : List Int) (q : Int) (hq : q = 1 ∨ q = 3) :
    stepO kd nm n b (planD k [⟨1, q, 0⟩]) = ({ planD k [⟨1, q, 0⟩] with steps := 1, off := decide (q = 3) }, if q = 1 then 181 else 180) := by
  obtain ⟨doF, paF, hf, _⟩ := stepO_form kd nm n b
  rw [hf]
  unfold stepD planD
  rw [if_neg (by rw [h.off]; simp), h.steps]
  simp only
  rcases hq with rfl | rfl
  · show (_, (181 : Int)) = _
    simp [h.off]
  · show (_, (180 : Int)) = _
    simp
theorem fails_on {k k1 : Dk} (h : Fresh k) (hf : k1.files = k.files) (u : List Int) : filesD (·.seen) (onD u k1) = filesD (·.seen) k := by
  have key : ∀ (L : List (Nm × Fil)) (i : Nat), (∀ p ∈ L, p.2.chs = [] ∧ p.2.safe = p.2.seen) → (onL u L i).map (fun p => (⟨toBA p.1, p.2.seen⟩ : SF)) = L.map fun p => (⟨toBA p.1, p.2.seen⟩ : SF) := by
    intro L
    induction L with
    | nil => intro i _; rfl
    | cons p r ih =>
      intro i hL
      obtain ⟨x, f⟩ := p
      have hp := hL _ (List.mem_cons_self ..)
      simp only at hp
      show (⟨toBA x, after f.safe f.chs _⟩ : SF) :: (onL u r (i + 1)).map _ = _
      rw [ih (i + 1) (fun p hp => hL p (List.mem_cons_of_mem _ hp)), hp.1, List.map_cons]
      unfold after
      rw [hp.2]
  unfold filesD onD
  simp only
  rw [hf]
  exact key _ 0 h.files
end Go.Proofs.Ytkhopknpadncdaa
