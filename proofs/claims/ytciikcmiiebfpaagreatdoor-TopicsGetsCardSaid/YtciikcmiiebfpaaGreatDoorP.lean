/- A disk without memory: lists keyed by names; files, changes, fates; what each step makes of a disk. -/
import GoSem.ClaimWide
namespace Go.Proofs.YtciikcmiiebfpaaGreatDoor
set_option linter.unusedVariables false

abbrev Nm := List UInt8
section
variable {β γ : Type}
def ins (x : Nm × β) : List (Nm × β) → List (Nm × β)
  | [] => [x]
  | y :: r => if bytesBefore x.1 y.1 then x :: y :: r else y :: ins x r
def del (L : List (Nm × β)) (x : Nm) : List (Nm × β) := L.filter fun p => !(p.1 == x)
def put (L : List (Nm × β)) (x : Nm) (v : β) : List (Nm × β) := ins (x, v) (del L x)
def look (L : List (Nm × β)) (x : Nm) : Option β := (L.find? fun p => p.1 == x).map (·.2)
def mapV (f : β → γ) (L : List (Nm × β)) : List (Nm × γ) := L.map fun p => (p.1, f p.2)

theorem mapV_ins (f : β → γ) (x : Nm) (v : β) : ∀ L : List (Nm × β), mapV f (ins (x, v) L) = ins (x, f v) (mapV f L)
  | [] => rfl
  | y :: r => by
    unfold mapV ins
    simp only [List.map_cons]
    by_cases h : bytesBefore x y.1 = true
    · simp [h]
    · rw [if_neg h, if_neg h, List.map_cons]
      congr 1
      exact mapV_ins f x v r
theorem mapV_del (f : β → γ) (L : List (Nm × β)) (x : Nm) : mapV f (del L x) = del (mapV f L) x := by
  unfold mapV del
  rw [List.filter_map]
  rfl
theorem mapV_put (f : β → γ) (L : List (Nm × β)) (x : Nm) (v : β) : mapV f (put L x v) = put (mapV f L) x (f v) := by
  unfold put
  rw [mapV_ins, mapV_del]
theorem look_mapV (f : β → γ) (L : List (Nm × β)) (x : Nm) : look (mapV f L) x = (look L x).map f := by
  unfold look mapV
  rw [List.find?_map, Option.map_map, Option.map_map]
  rfl
theorem mapV_names (f : β → γ) (L : List (Nm × β)) : (mapV f L).map (·.1) = L.map (·.1) := by
  unfold mapV
  rw [List.map_map]
  rfl
theorem mapV_length (f : β → γ) (L : List (Nm × β)) : (mapV f L).length = L.length := List.length_map _
theorem mem_ins {x y : Nm × β} : ∀ {L : List (Nm × β)}, y ∈ ins x L ↔ y = x ∨ y ∈ L
  | [] => by simp [ins]
  | z :: r => by
    unfold ins
    split
    · simp
    · rw [List.mem_cons, mem_ins, List.mem_cons]
      constructor
      · rintro (h | h | h) <;> simp [h]
      · rintro (h | h | h) <;> simp [h]
theorem mem_del {x : Nm} {y : Nm × β} {L : List (Nm × β)} : y ∈ del L x ↔ y ∈ L ∧ y.1 ≠ x := by
  unfold del
  rw [List.mem_filter]
  simp
theorem mem_put {x : Nm} {v : β} {y : Nm × β} {L : List (Nm × β)} : y ∈ put L x v ↔ y = (x, v) ∨ (y ∈ L ∧ y.1 ≠ x) := by
  unfold put
  rw [mem_ins, mem_del]
theorem look_mem {L : List (Nm × β)} {x : Nm} {v : β} (h : look L x = some v) : (x, v) ∈ L := by
  unfold look at h
  obtain ⟨p, hp, rfl⟩ := Option.map_eq_some_iff.1 h
  have h1 := List.mem_of_find?_eq_some hp
  have h2 := List.find?_some hp
  simp only [beq_iff_eq] at h2
  rw [← h2]
  exact h1
theorem look_none {L : List (Nm × β)} {x : Nm} (h : look L x = none) : ∀ y ∈ L, y.1 ≠ x := by
  intro y hy e
  unfold look at h
  rw [Option.map_eq_none_iff, List.find?_eq_none] at h
  exact h y hy (by simp [e])
theorem look_of_mem {L : List (Nm × β)} (hn : L.Pairwise fun a b => a.1 ≠ b.1) {x : Nm} {v : β} (h : (x, v) ∈ L) : look L x = some v := by
  induction L with
  | nil => cases h
  | cons y r ih =>
    have h1 := List.pairwise_cons.1 hn
    unfold look
    rw [List.find?_cons]
    by_cases hy : y.1 = x
    · rw [show (y.1 == x) = true by simpa using hy]
      rcases List.mem_cons.1 h with e | e
      · rw [← e]; rfl
      · exact absurd hy (h1.1 _ e)
    · rw [show (y.1 == x) = false by simpa using hy]
      rcases List.mem_cons.1 h with e | e
      · rw [← e] at hy; exact absurd rfl hy
      · exact ih h1.2 e
theorem ins_apart {x : Nm × β} : ∀ {L : List (Nm × β)}, (L.Pairwise fun a b => a.1 ≠ b.1) → (∀ y ∈ L, y.1 ≠ x.1) → (ins x L).Pairwise fun a b => a.1 ≠ b.1
  | [], _, _ => by simp [ins]
  | z :: r, h, hx => by
    have h1 := List.pairwise_cons.1 h
    unfold ins
    split
    · exact List.pairwise_cons.2 ⟨fun y hy e => hx y hy e.symm, h⟩
    · refine List.pairwise_cons.2 ⟨fun y hy => ?_, ins_apart h1.2 (fun y hy => hx y (List.mem_cons_of_mem _ hy))⟩
      rcases mem_ins.1 hy with rfl | hy
      · exact hx z (List.mem_cons_self ..)
      · exact h1.1 y hy
theorem del_apart {L : List (Nm × β)} (h : L.Pairwise fun a b => a.1 ≠ b.1) (x : Nm) : (del L x).Pairwise fun a b => a.1 ≠ b.1 := h.filter _
theorem put_apart {L : List (Nm × β)} (h : L.Pairwise fun a b => a.1 ≠ b.1) (x : Nm) (v : β) : (put L x v).Pairwise fun a b => a.1 ≠ b.1 :=
  ins_apart (del_apart h x) (fun y hy => (mem_del.1 hy).2)
theorem look_put {L : List (Nm × β)} (h : L.Pairwise fun a b => a.1 ≠ b.1) (x y : Nm) (v : β) : look (put L x v) y = if y = x then some v else look L y := by
  by_cases hy : y = x
  · subst hy
    rw [if_pos rfl]
    exact look_of_mem (put_apart h y v) (mem_put.2 (.inl rfl))
  · rw [if_neg hy]
    cases hl : look L y with
    | none =>
      cases hp : look (put L x v) y with
      | none => rfl
      | some u =>
        rcases mem_put.1 (look_mem hp) with e | e
        · injection e with e1 e2
          exact absurd e1 hy
        · exact absurd rfl (look_none hl _ e.1)
    | some u => exact look_of_mem (put_apart h x v) (mem_put.2 (.inr ⟨look_mem hl, hy⟩))
theorem del_of_none {L : List (Nm × β)} {x : Nm} (h : look L x = none) : del L x = L := by
  unfold del
  rw [List.filter_eq_self]
  intro y hy
  have := look_none h y hy
  simpa using this
/-- The element at a name that is there turns. -/
def upd (L : List (Nm × β)) (x : Nm) (v : β) : List (Nm × β) := L.map fun p => if p.1 = x then (x, v) else p
theorem upd_length (L : List (Nm × β)) (x : Nm) (v : β) : (upd L x v).length = L.length := List.length_map _
theorem mem_upd {L : List (Nm × β)} {x : Nm} {v : β} {y : Nm × β} : y ∈ upd L x v ↔ (y = (x, v) ∧ ∃ u, (x, u) ∈ L) ∨ (y ∈ L ∧ y.1 ≠ x) := by
  unfold upd
  rw [List.mem_map]
  constructor
  · rintro ⟨p, hp, rfl⟩
    by_cases h : p.1 = x
    · rw [if_pos h]; exact .inl ⟨rfl, p.2, by rw [← h]; exact hp⟩
    · rw [if_neg h]; exact .inr ⟨hp, h⟩
  · rintro (⟨rfl, u, hu⟩ | ⟨hy, h⟩)
    · exact ⟨(x, u), hu, if_pos rfl⟩
    · exact ⟨y, hy, if_neg h⟩
theorem mapV_upd (f : β → γ) (L : List (Nm × β)) (x : Nm) (v : β) : mapV f (upd L x v) = upd (mapV f L) x (f v) := by
  unfold mapV upd
  rw [List.map_map, List.map_map]
  refine List.map_congr_left fun p _ => ?_
  show ((if p.1 = x then (x, v) else p).1, f (if p.1 = x then (x, v) else p).2) = if p.1 = x then (x, f v) else (p.1, f p.2)
  split <;> rfl
theorem upd_same {L : List (Nm × β)} (hn : L.Pairwise fun a b => a.1 ≠ b.1) {x : Nm} {v : β} (h : look L x = some v) : upd L x v = L := by
  unfold upd
  conv => rhs; rw [← List.map_id L]
  refine List.map_congr_left fun p hp => ?_
  by_cases hx : p.1 = x
  · rw [if_pos hx]
    have := look_of_mem hn (x := p.1) (v := p.2) hp
    rw [hx, h] at this
    injection this with this
    rw [this, ← hx]
    rfl
  · rw [if_neg hx]
    rfl
theorem before_asymm : ∀ (a b : List UInt8), bytesBefore a b = true → bytesBefore b a = false
  | [], [], h => by cases h
  | [], _ :: _, _ => rfl
  | _ :: _, [], h => by cases h
  | a :: r, b :: q, h => by
    unfold bytesBefore at h ⊢
    rw [Bool.or_eq_true] at h
    rcases h with h | h
    · have h' : a < b := by simpa using h
      have n1 : ¬ b < a := fun h2 => absurd (UInt8.lt_trans h' h2) (UInt8.lt_irrefl _)
      have n2 : ¬ b = a := fun h2 => by rw [h2] at h'; exact absurd h' (UInt8.lt_irrefl _)
      simp [n1, n2]
    · rw [Bool.and_eq_true] at h
      have e : a = b := by simpa using h.1
      subst e
      have n1 : ¬ a < a := UInt8.lt_irrefl _
      simp [n1, before_asymm r q h.2]
abbrev Srt (L : List (Nm × β)) : Prop := L.Pairwise fun a b => bytesBefore a.1 b.1 = true
theorem Srt.apart {L : List (Nm × β)} (h : Srt L) : L.Pairwise fun a b => a.1 ≠ b.1 := h.imp fun {a b} h e => by
  rw [e] at h
  have := before_asymm _ _ h
  rw [h] at this
  cases this
theorem ins_length (x : Nm × β) : ∀ L : List (Nm × β), (ins x L).length = L.length + 1
  | [] => rfl
  | y :: r => by
    unfold ins
    split
    · rfl
    · rw [List.length_cons, ins_length x r, List.length_cons]
end

/-- What was done since a file was last made safe. -/
structure Chg where
  cuts : Bool
  to : Int
  add : List Int
structure Fil where
  safe : List Int
  seen : List Int
  chs : List Chg
structure Fat where
  step : Int
  kind : Int
  n : Int
structure Dk where
  files : List (Nm × Fil)
  room : Int
  plan : List Fat
  steps : Int
  off : Bool

def Chg.units (c : Chg) : Int := if c.cuts then 1 else c.add.length
def Chg.app (c : Chg) (s : List Int) : List Int := if c.cuts then s.take c.to.toNat else s ++ c.add
def after : List Int → List Chg → Int → List Int
  | s, [], _ => s
  | s, c :: cs, k => if k ≤ 0 then s else after (if c.cuts then s.take c.to.toNat else s ++ c.add.take (min k c.add.length).toNat) cs (k - c.units)
/-- The reach: no row is longer. -/
def big : Nat := 140737488351232
def Byt (l : List Int) : Prop := ∀ b ∈ l, 0 ≤ b ∧ b ≤ 255
/-- What is safe, with the changes made, is what is seen; and no row on the way is too long. -/
def Wf : List Int → List Chg → List Int → Prop
  | s, [], t => s = t ∧ s.length ≤ big ∧ Byt s
  | s, c :: cs, t => s.length ≤ big ∧ Byt s ∧ (if c.cuts = true then 0 ≤ c.to ∧ c.to ≤ s.length else Byt c.add ∧ s.length + c.add.length ≤ big) ∧ Wf (c.app s) cs t
def Fil.ok (f : Fil) : Prop := Wf f.safe f.chs f.seen

theorem Wf.stop {cs : List Chg} : ∀ {s t : List Int}, Wf s cs t → t.length ≤ big ∧ Byt t := by
  induction cs with
  | nil => rintro s t ⟨rfl, h⟩; exact h
  | cons c cs ih => rintro s t ⟨_, _, _, h⟩; exact ih h
theorem Wf.snoc {cs : List Chg} : ∀ {s t : List Int} {c : Chg}, Wf s cs t → (if c.cuts = true then 0 ≤ c.to ∧ c.to ≤ t.length else Byt c.add ∧ t.length + c.add.length ≤ big) → Wf s (cs ++ [c]) (c.app t) := by
  induction cs with
  | nil =>
    rintro s t c ⟨rfl, h1, h2⟩ h
    refine ⟨h1, h2, h, rfl, ?_⟩
    unfold Chg.app
    split at h
    · rename_i hc
      rw [if_pos hc]
      exact ⟨Nat.le_trans (List.length_take_le' ..) h1, fun b hb => h2 b (List.mem_of_mem_take hb)⟩
    · rename_i hc
      rw [if_neg hc]
      refine ⟨by rw [List.length_append]; exact h.2, fun b hb => ?_⟩
      rcases List.mem_append.1 hb with hb | hb
      · exact h2 b hb
      · exact h.1 b hb
  | cons d cs ih =>
    rintro s t c ⟨h1, h2, h3, h4⟩ h
    exact ⟨h1, h2, h3, ih h4 h⟩
theorem Wf.refl {s : List Int} (h : s.length ≤ big) (hb : Byt s) : Wf s [] s := ⟨rfl, h, hb⟩

def used (L : List (Nm × Fil)) : Nat := (L.map fun p => p.2.seen.length).sum
def z : Fat := ⟨0, 0, 0⟩
def fateOf (plan : List Fat) (n : Int) : Fat := (plan.find? fun f => f.step == n).getD z

/-- Is it no file's name? -/
def badC (c : UInt8) : Bool := !(decide (97 ≤ c.toNat ∧ c.toNat ≤ 122) || decide (65 ≤ c.toNat ∧ c.toNat ≤ 90) || decide (48 ≤ c.toNat ∧ c.toNat ≤ 57) || c.toNat == 46 || c.toNat == 95 || c.toNat == 45 || c.toNat == 47)
def badN (x : Nm) : Bool := x.isEmpty || decide (120 < x.length) || x.any badC

def enterD (k : Dk) (x : Nm) (b : List Int) : Dk × Int :=
  if badN x = true then (k, 40) else if (look k.files x).isSome = true then (k, 184) else if 256 ≤ k.files.length then (k, 9) else ({ k with files := put k.files x ⟨b, b, []⟩ }, 0)
def putF (f : Fil) (b : List Int) : Fil := ⟨f.safe, f.seen ++ b, f.chs ++ [⟨false, 0, b⟩]⟩
def appendD (b : List Int) (x : Nm) (k : Dk) : Dk × Int :=
  match look k.files x with
  | none => (k, 183)
  | some f => if k.room - used k.files < b.length then (k, 182) else ({ k with files := upd k.files x (putF f b) }, 0)
def partD (b : List Int) (x : Nm) (k : Dk) (n : Int) : Dk :=
  match look k.files x with
  | none => k
  | some f => { k with files := upd k.files x (putF f (b.take (max 0 (min n (min b.length (k.room - used k.files)))).toNat)) }
def syncD (x : Nm) (k : Dk) : Dk × Int :=
  match look k.files x with
  | none => (k, 183)
  | some f => ({ k with files := upd k.files x ⟨f.seen, f.seen, []⟩ }, 0)
def createD (x : Nm) (k : Dk) : Dk × Int := enterD k x []
def stepD (doF : Dk → Dk × Int) (paF : Dk → Int → Dk) (k : Dk) : Dk × Int :=
  if k.off = true then (k, 180)
  else
    let k1 : Dk := { k with steps := k.steps + 1 }
    let f := fateOf k1.plan k1.steps
    if f.kind = 1 then (k1, 181)
    else if f.kind = 2 then (paF k1 (max f.n 0), 182)
    else if f.kind = 3 then ({ k1 with off := true }, 180)
    else if f.kind = 4 then ({ (doF k1).1 with off := true }, 180)
    else doF k1
def sizeD (k : Dk) (x : Nm) : Int × Int :=
  if k.off = true then (0, 180) else match look k.files x with | none => (0, 183) | some f => (f.seen.length, 0)
def Dk.ok (k : Dk) (N : Nat) : Prop := (∀ p ∈ k.files, p.2.ok ∧ p.2.chs.length ≤ N ∧ p.1.length ≤ 120) ∧ 0 ≤ k.room ∧ k.room ≤ 16777216 ∧ k.files.length ≤ 256 ∧ 0 ≤ k.steps ∧ k.steps ≤ N
end Go.Proofs.YtciikcmiiebfpaaGreatDoor
