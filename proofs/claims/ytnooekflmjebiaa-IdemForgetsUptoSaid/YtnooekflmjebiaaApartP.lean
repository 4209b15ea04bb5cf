/- A script of calls; two tables side by side; what the law IdemApart says without a program. -/
import Derived.Test.YtnooekflmjebiaaAlike
import Derived.Test.YtnooekflmjebiaaAlive
namespace Go.Proofs.Ytnooekflmjebiaa
open Go Go.RowKit Go.Proofs.YtnooekflmjebiaaW.PrintWords Go.Proofs.Ytnooekflmjebiaa.PIdemPlays
set_option linter.unusedVariables false

/-- One call of a script. -/
structure Opr where
  K : Int
  P : Int
  E : Int
  S : Int
  C : Int
  B : Int
def Opr.vs (y : Opr) : List Value := [.int .i64 y.K, .int .i64 y.P, .int .i16 y.E, .int .i32 y.S, .int .i64 y.C, .int .i64 y.B]
structure Opr.Ok (y : Opr) : Prop where
  p : wf64 y.P
  e : y.E ≤ 32767
  s : y.S ≤ 2147483647
  b : y.B ≤ 9223372036854775807
/-- A script that came in. -/
def ORow (w : World) (A : Option Addr) (xs : List Opr) : Prop :=
  0 < xs.length → ∃ b o, A = some ⟨b, o, none⟩ ∧ b < w.heap.size ∧ ∀ i y, xs[i]? = some y → (∀ j u, y.vs[j]? = some u → w.cell? ⟨b, o + i * 6 + j, none⟩ = some u) ∧ y.Ok
theorem ORow.below {w w' : World} {A : Option Addr} {xs : List Opr} (h : ORow w A xs) (hb : Below w.heap.size w w') : ORow w' A xs := fun hn => by
  obtain ⟨b, o, e, hl, hc⟩ := h hn
  exact ⟨b, o, e, Nat.lt_of_lt_of_le hl hb.size, fun i y hy => ⟨fun j u hu => (hb.cell (p := ⟨b, o + i * 6 + j, none⟩) hl).trans ((hc i y hy).1 j u hu), (hc i y hy).2⟩⟩

theorem Tab.mono {w : World} {t b n n' : Nat} {g : Int → Option (Int × List Mk)} (h : Tab w t b n g) (hn : n ≤ n') : Tab w t b n' g := by
  obtain ⟨f, hT, r⟩ := h
  exact ⟨f, ⟨hT.c, by obtain ⟨D, h1, h2⟩ := hT.mp; exact ⟨D, h1.mono hn, h2⟩, hT.ne, hT.ty⟩, r⟩

/-- The same table with one producer alone. -/
def rs (g : Int → Option (Int × List Mk)) (pid : Int) : Int → Option (Int × List Mk) := fun x => if x = pid then g x else none
/-- Note's answer. -/
def noteC (p ep s c base : Int) : Int := if badI p ep s c = true ∨ (0 ≤ p ∧ base < 0) then 3 else 0
theorem note_code (g : Int → Option (Int × List Mk)) (p ep s c base : Int) : (noteT g p ep s c base).2 = noteC p ep s c base := by
  unfold noteT noteC
  split
  · rfl
  · split <;> rfl
theorem rs_forget (g : Int → Option (Int × List Mk)) (pid base : Int) : forgetT (rs g pid) base = rs (forgetT g base) pid := by
  funext x
  unfold rs forgetT
  by_cases hx : x = pid
  · simp only [hx, if_true]
  · simp only [hx, if_false]
theorem rs_note_same (g : Int → Option (Int × List Mk)) (pid ep s c base : Int) : (noteT (rs g pid) pid ep s c base).1 = rs (noteT g pid ep s c base).1 pid := by
  unfold noteT
  split
  · rfl
  · split
    · rfl
    · funext x
      unfold rs
      simp only
      by_cases hx : x = pid
      · simp only [hx, if_true]
      · simp only [hx, if_false]
theorem rs_note_other (g : Int → Option (Int × List Mk)) (p pid ep s c base : Int) (h : p ≠ pid) : rs (noteT g p ep s c base).1 pid = rs g pid := by
  funext x
  unfold rs noteT
  by_cases hx : x = pid
  · rw [if_pos hx, if_pos hx]
    split
    · rfl
    · split
      · rfl
      · simp only
        rw [if_neg (by omega)]
  · rw [if_neg hx, if_neg hx]
theorem rs_judge (g : Int → Option (Int × List Mk)) (pid ep s c : Int) : judgeT (rs g pid) pid ep s c = judgeT g pid ep s c := by
  unfold judgeT rs
  simp

theorem filter_one {ks : List Int} (h : Asc ks) (p : Int) : ks.filter (fun x => x == p) = if p ∈ ks then [p] else [] := by
  induction ks with
  | nil => simp
  | cons a l ih =>
    have h1 := List.pairwise_cons.1 h
    rw [List.filter_cons, ih h1.2]
    by_cases ha : a = p
    · subst ha
      have : a ∉ l := fun hm => by have := h1.1 a hm; omega
      simp [this]
    · have hp : ¬ p = a := fun e => ha e.symm
      simp [ha, hp]
theorem asc_one {ks : List Int} (h : Asc ks) (p : Int) (hm : ∀ x ∈ ks, x = p) : ks = if p ∈ ks then [p] else [] := by
  rw [← filter_one h p]
  exact (List.filter_eq_self.2 fun x hx => by simp [hm x hx]).symm
theorem kn_f0 {g : Int → Option (Int × List Mk)} {x : Int} (h : (g x).isSome = true) : (kn g x).f0 = x := by
  unfold kn
  cases hg : g x with
  | none => rw [hg] at h; cases h
  | some m => rfl
theorem kn_rs (g : Int → Option (Int × List Mk)) (pid : Int) : kn (rs g pid) pid = kn g pid := by
  unfold kn rs
  simp
/-- The producer's part of all is what the other table tells. -/
theorem apart_lists {g : Int → Option (Int × List Mk)} {pid : Int} {ks ks2 : List Int} (h : Asc ks) (hm : ∀ x, x ∈ ks ↔ (g x).isSome = true) (h2 : Asc ks2) (hm2 : ∀ x, x ∈ ks2 ↔ (rs g pid x).isSome = true) :
    (ks.map (kn g)).filter (fun x => x.f0 == pid) = ks2.map (kn (rs g pid)) := by
  have e1 : (ks.map (kn g)).filter (fun x => x.f0 == pid) = (ks.filter (fun x => x == pid)).map (kn g) := by
    rw [List.filter_map]
    congr 1
    refine List.filter_congr fun x hx => ?_
    simp only [Function.comp]
    rw [kn_f0 ((hm x).1 hx)]
  have hall : ∀ x ∈ ks2, x = pid := fun x hx => by
    have := (hm2 x).1 hx
    unfold rs at this
    split at this
    · assumption
    · cases this
  have hiff : pid ∈ ks2 ↔ pid ∈ ks := by
    rw [hm2, hm]
    unfold rs
    simp
  rw [e1, filter_one h, asc_one h2 pid hall]
  by_cases hp : pid ∈ ks
  · rw [if_pos hp, if_pos (hiff.2 hp)]
    simp [kn_rs]
  · rw [if_neg hp, if_neg (fun h => hp (hiff.1 h))]
    rfl
theorem kn_even {g : Int → Option (Int × List Mk)} (hg : GOK g) {ks : List Int} (hm : ∀ x, x ∈ ks ↔ (g x).isSome = true) : ∀ x ∈ ks.map (kn g), Even x := by
  intro x hx
  obtain ⟨y, hy, rfl⟩ := List.mem_map.1 hx
  obtain ⟨m, hgy⟩ := Option.isSome_iff_exists.1 ((hm y).1 hy)
  obtain ⟨e, ms⟩ := m
  obtain ⟨_, _, _, _, _, h5, _⟩ := hg y _ hgy
  unfold kn Even
  rw [hgy]
  simp only [List.length_map]
  exact ⟨trivial, trivial, by simp only at h5; omega⟩
theorem Tab.ok {w : World} {t b n : Nat} {g : Int → Option (Int × List Mk)} (h : Tab w t b n g) : GOK g := by obtain ⟨f, _, hg, _⟩ := h; exact hg

/-- An element of a row of Knowns. -/
theorem R_known {w : World} {base i m ca : Nat} {ok : Nat → Prop} {Aa : Option Addr} {L : List S52} (h : Kd.R k52 52 w base ok (.slice Aa m ca) L) (hm : m = L.length) (hi : i < m) :
    ∃ gA A2 n2 q2 A3 n3 q3 A4 n4 q4, Aa = some ⟨gA, 0, none⟩ ∧ gA < w.heap.size ∧
      (w.cell? ⟨gA, i * 5, none⟩ = some (.int .i64 (L.getD i z52).f0) ∧ w.cell? ⟨gA, i * 5 + 1, none⟩ = some (.int .i16 (L.getD i z52).f1) ∧ w.cell? ⟨gA, i * 5 + 2, none⟩ = some (.slice A2 n2 q2) ∧ w.cell? ⟨gA, i * 5 + 3, none⟩ = some (.slice A3 n3 q3) ∧ w.cell? ⟨gA, i * 5 + 4, none⟩ = some (.slice A4 n4 q4)) ∧
      k52.M w base ok (L.getD i z52) [.int .i64 (L.getD i z52).f0, .int .i16 (L.getD i z52).f1, .slice A2 n2 q2, .slice A3 n3 q3, .slice A4 n4 q4] := by
  obtain ⟨A', c', he, _, hC⟩ := Kd.R_reads h
  injection he with he1
  obtain ⟨g, o, ha⟩ := C_spot hC (by omega)
  rw [← he1] at ha
  subst ha
  obtain ⟨gA, hgA⟩ := Kd.R_head h
  rw [hgA] at h ⊢
  obtain ⟨c, _, hM, hc⟩ := Kd.R_getA h z52 (i : Int) (by omega) (by omega)
  rw [Int.toNat_natCast] at hM hc
  have hM' := k52.M_mono (ok' := ok) (fun k hk => hk.1) hM
  obtain ⟨v2, v3, v4, rfl, r2, r3, r4⟩ := k52_openM hM'
  obtain ⟨A2, q2, rfl⟩ := Kd.R_slice r2
  obtain ⟨A3, q3, rfl⟩ := Kd.R_slice r3
  obtain ⟨A4, q4, rfl⟩ := Kd.R_slice r4
  have f := fun (j : Nat) (u : Value) (hu : [Value.int .i64 (L.getD i z52).f0, .int .i16 (L.getD i z52).f1, .slice A2 (L.getD i z52).f2.length q2, .slice A3 (L.getD i z52).f3.length q3, .slice A4 (L.getD i z52).f4.length q4][j]? = some u) => hc j u hu
  have e : ∀ j, (⟨gA, 0, none⟩ : Addr).add (i * k52.sz + j) = ⟨gA, i * 5 + j, none⟩ := fun j => by rw [add_zero']; rfl
  simp only [e] at f
  exact ⟨gA, A2, _, q2, A3, _, q3, A4, _, q4, rfl, World.block_lt_of_cell? w _ (f 0 _ rfl), ⟨f 0 _ rfl, f 1 _ rfl, f 2 _ rfl, f 3 _ rfl, f 4 _ rfl⟩, hM'⟩

/-- An append moves a row's block to a new one, or leaves it. -/
theorem own_hat {v v1 : Value} {a b c : Nat} (h : ∀ q, v.ownBlock = some q → q < a ∨ b ≤ q) (hat : v1.ownBlock = v.ownBlock ∨ ∃ k, v1.ownBlock = some k ∧ c ≤ k) (hc : b ≤ c) : ∀ q, v1.ownBlock = some q → q < a ∨ b ≤ q := by
  intro q hq
  rcases hat with h1 | ⟨k, h1, h2⟩
  · rw [h1] at hq
    exact h q hq
  · rw [h1] at hq
    injection hq with hq
    omega

/-- Two tables. -/
structure Two (w : World) (t b t' b' n : Nat) (g h : Int → Option (Int × List Mk)) (W : World) : Prop where
  T : Tab W t b n g
  A : Tab W t' b' n h
  bl : Below w.heap.size w W
  hb : w.heap.size ≤ b
  hb' : w.heap.size ≤ b'
  ne : b ≠ b'
section
variable {w W W' : World} {t b t' b' n : Nat} {g h : Int → Option (Int × List Mk)}
theorem Two.below (s : Two w t b t' b' n g h W) (hb : Below W.heap.size W W') : Two w t b t' b' n g h W' := ⟨s.T.below hb, s.A.below hb, s.bl.trans (hb.mono s.bl.size), s.hb, s.hb', s.ne⟩
theorem Two.mono {n' : Nat} (s : Two w t b t' b' n g h W) (hn : n ≤ n') : Two w t b t' b' n' g h W := ⟨s.T.mono hn, s.A.mono hn, s.bl, s.hb, s.hb', s.ne⟩
theorem Two.first (s : Two w t b t' b' n g h W) {n' : Nat} {g' : Int → Option (Int × List Mk)} (hn : n ≤ n') (hT : Tab W' t b n' g') (hk : Kept (fun j => j = b) W W') : Two w t b t' b' n' g' h W' := by
  obtain ⟨f, hm⟩ := s.T.mp
  exact ⟨hT, (s.A.other hk hm s.ne).mono hn, s.bl.trans (hk.below s.bl.size (fun j hj => by rw [hj]; exact s.hb)), s.hb, s.hb', s.ne⟩
theorem Two.second (s : Two w t b t' b' n g h W) {n' : Nat} {h' : Int → Option (Int × List Mk)} (hn : n ≤ n') (hT : Tab W' t' b' n' h') (hk : Kept (fun j => j = b') W W') : Two w t b t' b' n' g h' W' := by
  obtain ⟨f, hm⟩ := s.A.mp
  exact ⟨(s.T.other hk hm (fun e => s.ne e.symm)).mono hn, hT, s.bl.trans (hk.below s.bl.size (fun j hj => by rw [hj]; exact s.hb')), s.hb, s.hb', s.ne⟩
end
end Go.Proofs.Ytnooekflmjebiaa
