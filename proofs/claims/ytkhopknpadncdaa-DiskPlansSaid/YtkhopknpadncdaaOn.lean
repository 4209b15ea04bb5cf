/- (*Disk).On: the power comes back; of each file so many units are kept. -/
import Derived.Test.YtkhopknpadncdaaAfter
namespace Go.Proofs.Ytkhopknpadncdaa
open Go Go.RowKit Go.Maps Go.Proofs.YtkhopknpadncdaaW.PrintWords Go.Proofs.Ytkhopknpadncdaa.PDiskMemory Go.Proofs.YtkhopknpadncdaaW.PrintMore
set_option linter.unusedVariables false

/-- Up to file j the power's coming back has gone. -/
def onPre (keeps : List Int) (L : List (Nm × Fil)) (j : Nat) : List (Nm × Fil) := onL keeps (L.take j) 0 ++ L.drop j
def kept (keeps : List Int) (i : Nat) : Int := if i < keeps.length then keeps.getD i 0 else 0
def onF (keeps : List Int) (i : Nat) (f : Fil) : Fil := ⟨after f.safe f.chs (kept keeps i), after f.safe f.chs (kept keeps i), []⟩
theorem onL_snoc (keeps : List Int) : ∀ (L : List (Nm × Fil)) (i : Nat) (x : Nm) (f : Fil), onL keeps (L ++ [(x, f)]) i = onL keeps L i ++ [(x, onF keeps (i + L.length) f)]
  | [], i, x, f => rfl
  | (y, g) :: r, i, x, f => by
    have := onL_snoc keeps r (i + 1) x f
    show _ :: onL keeps (r ++ [(x, f)]) (i + 1) = (_ :: onL keeps r (i + 1)) ++ _
    rw [this, List.cons_append, show i + 1 + r.length = i + ((y, g) :: r).length by rw [List.length_cons]; omega]
theorem onL_names (keeps : List Int) : ∀ (L : List (Nm × Fil)) (i : Nat), (onL keeps L i).map (·.1) = L.map (·.1)
  | [], _ => rfl
  | (y, g) :: r, i => by
    show y :: (onL keeps r (i + 1)).map (·.1) = y :: r.map (·.1)
    rw [onL_names keeps r (i + 1)]
theorem onPre_names (keeps : List Int) (L : List (Nm × Fil)) (j : Nat) : (onPre keeps L j).map (·.1) = L.map (·.1) := by
  unfold onPre
  rw [List.map_append, onL_names, ← List.map_append, List.take_append_drop]
theorem onPre_zero (keeps : List Int) (L : List (Nm × Fil)) : onPre keeps L 0 = L := rfl
theorem onPre_all (keeps : List Int) (L : List (Nm × Fil)) {j : Nat} (h : L.length ≤ j) : onPre keeps L j = onL keeps L 0 := by
  unfold onPre
  rw [List.take_of_length_le h, List.drop_of_length_le h, List.append_nil]
theorem upd_none {L : List (Nm × Fil)} {x : Nm} {v : Fil} (h : ∀ p ∈ L, p.1 ≠ x) : upd L x v = L := by
  unfold upd
  conv => rhs; rw [← List.map_id L]
  exact List.map_congr_left fun p hp => by rw [if_neg (h p hp)]; rfl
theorem onPre_step (keeps : List Int) {L : List (Nm × Fil)} (hn : L.Pairwise fun a b => a.1 ≠ b.1) {j : Nat} {x : Nm} {f : Fil} (hj : L[j]? = some (x, f)) :
    upd (onPre keeps L j) x (onF keeps j f) = onPre keeps L (j + 1) ∧ (x, f) ∈ onPre keeps L j := by
  obtain ⟨hlt, he⟩ := List.getElem?_eq_some_iff.1 hj
  have hd : L.drop j = (x, f) :: L.drop (j + 1) := by rw [List.drop_eq_getElem_cons hlt, he]
  have ht : L.take (j + 1) = L.take j ++ [(x, f)] := by rw [List.take_add_one, hj]; rfl
  have hsplit : L = L.take j ++ (x, f) :: L.drop (j + 1) := by rw [← hd, List.take_append_drop]
  have hn' := hn
  rw [hsplit] at hn'
  have ha := List.pairwise_append.1 hn'
  refine ⟨?_, ?_⟩
  · unfold onPre
    rw [ht, onL_snoc, hd, List.length_take, Nat.min_eq_left (Nat.le_of_lt hlt), Nat.zero_add]
    show upd (onL keeps (L.take j) 0 ++ (x, f) :: L.drop (j + 1)) x _ = _
    have e : ∀ (a b : List (Nm × Fil)), upd (a ++ b) x (onF keeps j f) = upd a x (onF keeps j f) ++ upd b x (onF keeps j f) := fun a b => List.map_append
    rw [e]
    have h1 : upd (onL keeps (L.take j) 0) x (onF keeps j f) = onL keeps (L.take j) 0 := upd_none fun p hp => by
      have : p.1 ∈ (onL keeps (L.take j) 0).map (·.1) := List.mem_map.2 ⟨p, hp, rfl⟩
      rw [onL_names] at this
      obtain ⟨q, hq, hqe⟩ := List.mem_map.1 this
      rw [← hqe]
      exact ha.2.2 q hq (x, f) (List.mem_cons_self ..)
    have h2 : upd (L.drop (j + 1)) x (onF keeps j f) = L.drop (j + 1) := upd_none fun p hp => ((List.pairwise_cons.1 ha.2.1).1 p hp).symm
    rw [h1]
    show _ ++ ((if (x, f).1 = x then (x, onF keeps j f) else (x, f)) :: upd (L.drop (j + 1)) x (onF keeps j f)) = _
    rw [if_pos rfl, h2, List.append_assoc]
    rfl
  · unfold onPre
    rw [hd]
    exact List.mem_append_right _ (List.mem_cons_self ..)
theorem onF_ok {keeps : List Int} {i : Nat} {f : Fil} (h : f.ok) : (onF keeps i f).ok := by
  have := after_ok (kept keeps i) h
  exact Wf.refl this.1 this.2
theorem onPre_ok {keeps : List Int} {k : Dk} {N : Nat} (h : k.ok N) (j : Nat) : Dk.ok { k with files := onPre keeps k.files j } N := by
  refine ⟨fun p hp => ?_, h.2.1, h.2.2.1, ?_, h.2.2.2.2⟩
  · have key : ∀ (L : List (Nm × Fil)) (i : Nat), (∀ q ∈ L, q.2.ok ∧ q.2.chs.length ≤ N ∧ q.1.length ≤ 120) → ∀ q ∈ onL keeps L i, q.2.ok ∧ q.2.chs.length ≤ N ∧ q.1.length ≤ 120 := by
      intro L
      induction L with
      | nil => intro i _ q hq; cases hq
      | cons y r ih =>
        intro i hL q hq
        obtain ⟨y1, y2⟩ := y
        rcases List.mem_cons.1 hq with e | hq
        · have hy := hL _ (List.mem_cons_self ..)
          subst e
          exact ⟨onF_ok (i := i) hy.1, Nat.zero_le _, hy.2.2⟩
        · exact ih (i + 1) (fun q hq => hL q (List.mem_cons_of_mem _ hq)) q hq
    rcases List.mem_append.1 hp with hp | hp
    · exact key _ 0 (fun q hq => h.1 q (List.mem_of_mem_take hq)) p hp
    · exact h.1 p (List.mem_of_mem_drop hp)
  · have : (onPre keeps k.files j).length = k.files.length := by
      have := congrArg List.length (onPre_names keeps k.files j)
      rwa [List.length_map, List.length_map] at this
    show (onPre keeps k.files j).length ≤ 256
    rw [this]
    exact h.2.2.2.1
end Go.Proofs.Ytkhopknpadncdaa
