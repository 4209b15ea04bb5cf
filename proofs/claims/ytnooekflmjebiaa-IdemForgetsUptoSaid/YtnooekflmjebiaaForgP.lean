/- The law IdemForgets: what it says without a program; the row that it builds. -/
import Derived.Test.YtnooekflmjebiaaApart
namespace Go.Proofs.Ytnooekflmjebiaa
open Go Go.RowKit Go.Proofs.YtnooekflmjebiaaW.PrintWords Go.Proofs.Ytnooekflmjebiaa.PIdemPlays
set_option linter.unusedVariables false

/-- Nothing is remembered. -/
def noneG (g : Int → Option (Int × List Mk)) : Prop := ∀ x, g x = none
theorem note_yes (g : Int → Option (Int × List Mk)) (p ep s c base : Int) (h0 : noteC p ep s c base = 0) (hp : 0 ≤ p) : ¬ noneG (noteT g p ep s c base).1 := by
  intro hn
  have h1 := hn p
  unfold noteC at h0
  unfold noteT at h1
  split at h0
  · cases h0
  · rename_i hb
    rw [if_neg hb, if_neg (by omega)] at h1
    simp at h1
theorem note_no (g : Int → Option (Int × List Mk)) (p ep s c base : Int) (h0 : noteC p ep s c base ≠ 0 ∨ p < 0) : (noteT g p ep s c base).1 = g := by
  unfold noteC at h0
  unfold noteT
  by_cases hb : badI p ep s c = true ∨ (0 ≤ p ∧ base < 0)
  · rw [if_pos hb]
  · rw [if_neg hb] at h0 ⊢
    by_cases hp : p = -1
    · rw [if_pos hp]
    · rcases h0 with h0 | h0
      · exact absurd rfl h0
      · exfalso
        have hbad : badI p ep s c = false := by
          cases hx : badI p ep s c
          · rfl
          · exact absurd (.inl hx) hb
        have := (badI_no hbad hp).1
        omega
theorem none_keys {g : Int → Option (Int × List Mk)} {ks : List Int} (hmem : ∀ x, x ∈ ks ↔ (g x).isSome = true) : ks.length = 0 ↔ noneG g := by
  constructor
  · intro h x
    cases hx : g x with
    | none => rfl
    | some m =>
      have := (hmem x).2 (by rw [hx]; rfl)
      rw [List.length_eq_zero_iff.1 h] at this
      cases this
  · intro h
    cases hk : ks with
    | nil => rfl
    | cons x l =>
      have := (hmem x).1 (by rw [hk]; exact List.mem_cons_self ..)
      rw [h x] at this
      cases this

/-- What the law builds of a producer. -/
def fm (base : Int) (ms : List Mk) : List Mk := ms.filter fun m => decide (base ≤ m.base)
def lf (g : Int → Option (Int × List Mk)) (base : Int) (x : Int) : S52 := match g x with
  | some (e, ms) => ⟨x, e, (fm base ms).map Mk.seq, (fm base ms).map Mk.count, (fm base ms).map Mk.base⟩
  | none => z52
def wantL (g : Int → Option (Int × List Mk)) (base : Int) (ks : List Int) : List S52 := (ks.map (lf g base)).filter fun x => decide (0 < x.f4.length)
theorem fm_eq (base : Int) (ms : List Mk) : fm base ms = ms.filter fun m => !decide (m.base < base) := by
  unfold fm
  congr 1
  funext m
  by_cases h : base ≤ m.base
  · rw [decide_eq_true h, decide_eq_false (by omega)]; rfl
  · rw [decide_eq_false h, decide_eq_true (by omega)]; rfl
theorem fm_take (base : Int) {ms : List Mk} {i : Nat} {m : Mk} (hm : ms[i]? = some m) : fm base (ms.take (i + 1)) = fm base (ms.take i) ++ if base ≤ m.base then [m] else [] := by
  unfold fm
  rw [List.take_add_one, List.filter_append, hm]
  congr 1
  by_cases h : base ≤ m.base
  · simp [h]
  · simp [h]
theorem forget_lf {g : Int → Option (Int × List Mk)} {base x : Int} (hx : (g x).isSome = true) : (forgetT g base x).isSome = decide (0 < (lf g base x).f4.length) ∧ ((forgetT g base x).isSome = true → kn (forgetT g base) x = lf g base x) := by
  obtain ⟨⟨e, ms⟩, hm⟩ := Option.isSome_iff_exists.1 hx
  have hany : (ms.any fun k => decide (base ≤ k.base)) = decide (0 < (fm base ms).length) := by
    unfold fm
    by_cases h : (ms.any fun k => decide (base ≤ k.base)) = true
    · rw [h]
      obtain ⟨k, hk, hd⟩ := List.any_eq_true.1 h
      exact (decide_eq_true (List.length_pos_of_mem (List.mem_filter.2 ⟨hk, hd⟩))).symm
    · rw [Bool.not_eq_true] at h
      rw [h]
      refine (decide_eq_false ?_).symm
      intro hl
      obtain ⟨k, hk⟩ := List.exists_mem_of_length_pos hl
      obtain ⟨h1, h2⟩ := List.mem_filter.1 hk
      have := List.any_eq_false.1 h k h1
      exact this h2
  unfold kn lf forgetT
  rw [hm]
  simp only
  rw [List.length_map, ← hany]
  cases h : (ms.any fun k => decide (base ≤ k.base)) with
  | false => simp
  | true => simp [fm_eq]
theorem asc_unique : ∀ {a b : List Int}, Asc a → Asc b → (∀ x, x ∈ a ↔ x ∈ b) → a = b
  | [], [], _, _, _ => rfl
  | [], y :: b, _, _, h => absurd ((h y).2 (List.mem_cons_self ..)) (by simp)
  | x :: a, [], _, _, h => absurd ((h x).1 (List.mem_cons_self ..)) (by simp)
  | x :: a, y :: b, ha, hb, h => by
    have ha' := List.pairwise_cons.1 ha
    have hb' := List.pairwise_cons.1 hb
    have hxy : x = y := by
      rcases List.mem_cons.1 ((h x).1 (List.mem_cons_self ..)) with h1 | h1
      · exact h1
      · rcases List.mem_cons.1 ((h y).2 (List.mem_cons_self ..)) with h2 | h2
        · exact h2.symm
        · have e1 : y < x := hb'.1 x h1
          have e2 : x < y := ha'.1 y h2
          omega
    subst hxy
    rw [asc_unique ha'.2 hb'.2 (fun z => ?_)]
    constructor
    · intro hz
      rcases List.mem_cons.1 ((h z).1 (List.mem_cons_of_mem _ hz)) with rfl | hz'
      · exact absurd (ha'.1 z hz) (by omega)
      · exact hz'
    · intro hz
      rcases List.mem_cons.1 ((h z).2 (List.mem_cons_of_mem _ hz)) with rfl | hz'
      · exact absurd (hb'.1 z hz) (by omega)
      · exact hz'
/-- What the law wants is what All tells behind Forget. -/
theorem want_all {g : Int → Option (Int × List Mk)} {base : Int} {ks ks2 : List Int} (ha : Asc ks) (hmem : ∀ x, x ∈ ks ↔ (g x).isSome = true) (ha2 : Asc ks2) (hmem2 : ∀ x, x ∈ ks2 ↔ (forgetT g base x).isSome = true) : wantL g base ks = ks2.map (kn (forgetT g base)) := by
  have e : ks2 = ks.filter fun x => (forgetT g base x).isSome := by
    refine asc_unique ha2 (ha.filter _) (fun x => ?_)
    rw [hmem2, List.mem_filter, hmem]
    exact ⟨fun h => ⟨forget_sub g base x h, h⟩, fun h => h.2⟩
  rw [e]
  unfold wantL
  rw [List.filter_map]
  have e1 : ks.filter ((fun x : S52 => decide (0 < x.f4.length)) ∘ lf g base) = ks.filter fun x => (forgetT g base x).isSome := by
    refine List.filter_congr (fun x hx => ?_)
    exact (forget_lf ((hmem x).1 hx)).1.symm
  rw [e1]
  refine List.map_congr_left (fun x hx => ?_)
  obtain ⟨h1, h2⟩ := List.mem_filter.1 hx
  exact ((forget_lf ((hmem x).1 h1)).2 h2).symm
theorem want_next (g : Int → Option (Int × List Mk)) (base : Int) {ks : List Int} {j : Nat} {x : Int} (hx : ks[j]? = some x) : wantL g base (ks.take (j + 1)) = wantL g base (ks.take j) ++ if 0 < (lf g base x).f4.length then [lf g base x] else [] := by
  unfold wantL
  rw [List.take_add_one, List.map_append, List.filter_append, hx]
  congr 1
  by_cases h : 0 < (lf g base x).f4.length
  · simp [h]
  · simp [h]

/-- The box g13 of a Known whose three rows are the call's own; the box g12 of another Known. -/
structure Lf (w0 : World) (g12 g13 : Nat) (x e : Int) (c12 : Array Value) (u2 u3 u4 : Value) (L2 L3 L4 : List Int) (W : World) : Prop where
  r2 : (Kd.int .i32).R 21 W w0.heap.size (fun _ => True) u2 L2
  r3 : (Kd.int .i64).R 3 W w0.heap.size (fun _ => True) u3 L3
  r4 : (Kd.int .i64).R 2 W w0.heap.size (fun _ => True) u4 L4
  k13 : W.heap[g13]? = some (.cells #[.int .i64 x, .int .i16 e, u2, u3, u4] 52 (0, 0))
  k12 : W.heap[g12]? = some (.cells c12 52 (0, 0))
  bl : Below w0.heap.size w0 W
  h13 : w0.heap.size ≤ g13
  ne : g12 ≠ g13
/-- What the walk reads of such a world. -/
def LfSee (g12 g13 : Nat) (u2 u3 u4 s2 s3 s4 : Value) (W : World) : Prop :=
  (W.cell? ⟨g13, 2, none⟩ = some u2 ∧ W.cell? ⟨g13, 3, none⟩ = some u3 ∧ W.cell? ⟨g13, 4, none⟩ = some u4) ∧ (W.frozen? ⟨g13, 2, none⟩ = false ∧ W.frozen? ⟨g13, 3, none⟩ = false ∧ W.frozen? ⟨g13, 4, none⟩ = false) ∧
  (W.cell? ⟨g12, 2, none⟩ = some s2 ∧ W.cell? ⟨g12, 3, none⟩ = some s3 ∧ W.cell? ⟨g12, 4, none⟩ = some s4) ∧ g13 < W.heap.size ∧ g12 < W.heap.size
section
variable {w0 : World} {g12 g13 : Nat} {x e v0 v1 : Int} {s2 s3 s4 : Value} {u2 u3 u4 : Value} {L2 L3 L4 : List Int} {W : World}
theorem lf_see {k v0 v1 : Value} (k13 : W.heap[g13]? = some (.cells #[.int .i64 x, .int .i16 e, u2, u3, u4] 52 (0, 0))) (k12 : W.heap[g12]? = some (.cells #[v0, v1, s2, s3, s4] 52 (0, 0))) : LfSee g12 g13 u2 u3 u4 s2 s3 s4 W :=
  ⟨⟨(blk_cell k13 2).trans rfl, (blk_cell k13 3).trans rfl, (blk_cell k13 4).trans rfl⟩, ⟨blk_frozen k13 2, blk_frozen k13 3, blk_frozen k13 4⟩, ⟨(blk_cell k12 2).trans rfl, (blk_cell k12 3).trans rfl, (blk_cell k12 4).trans rfl⟩, blk_lt k13, blk_lt k12⟩
theorem Lf.below {c12 : Array Value} {W' : World} (h : Lf w0 g12 g13 x e c12 u2 u3 u4 L2 L3 L4 W) (hb : Below W.heap.size W W') : Lf w0 g12 g13 x e c12 u2 u3 u4 L2 L3 L4 W' :=
  ⟨Kd.R_below h.r2 hb, Kd.R_below h.r3 hb, Kd.R_below h.r4 hb, blk_below h.k13 hb, blk_below h.k12 hb, h.bl.trans (hb.mono h.bl.size), h.h13, h.ne⟩
theorem Lf.drew {c12 : Array Value} (h : Lf w0 g12 g13 x e c12 u2 u3 u4 L2 L3 L4 W) : Lf w0 g12 g13 x e c12 u2 u3 u4 L2 L3 L4 W.drew := h.below (below_drew (Below.refl _ _))
theorem Lf.drewN {c12 : Array Value} (h : Lf w0 g12 g13 x e c12 u2 u3 u4 L2 L3 L4 W) (n : Nat) : Lf w0 g12 g13 x e c12 u2 u3 u4 L2 L3 L4 (W.drewN n) := h.below (pw_below_drewN (Below.refl _ _) n)
variable {q0 q1 : Value}
theorem Lf.app2 (h : Lf w0 g12 g13 x e #[q0, q1, s2, s3, s4] u2 u3 u4 L2 L3 L4 W) {v : Value} {w1 : World} {p : Int} (hr : (Kd.int .i32).R 21 w1 w0.heap.size (fun _ => True) v (L2 ++ [p])) (hb : Below w0.heap.size w0 w1) (hg : W.grownBy w1 u2.ownBlock) :
    LfSee g12 g13 u2 u3 u4 s2 s3 s4 w1 ∧ Lf w0 g12 g13 x e #[q0, q1, s2, s3, s4] v u3 u4 (L2 ++ [p]) L3 L4 (w1.setCell ⟨g13, 2, none⟩ v) := by
  have k13 : w1.heap[g13]? = some (.cells #[.int .i64 x, .int .i16 e, u2, u3, u4] 52 (0, 0)) := blk_grown h.k13 hg (Kd.R_ne h.r2 h.k13 (by decide))
  have k12 : w1.heap[g12]? = some (.cells #[q0, q1, s2, s3, s4] 52 (0, 0)) := blk_grown h.k12 hg (Kd.R_ne h.r2 h.k12 (by decide))
  have r3' := Kd.R_over h.r3 h.r2 (by decide) hg
  have r4' := Kd.R_over h.r4 h.r2 (by decide) hg
  exact ⟨lf_see (k := q0) k13 k12, ⟨Kd.R_set hr k13 (by decide) 2 v, Kd.R_set r3' k13 (by decide) 2 v, Kd.R_set r4' k13 (by decide) 2 v, blk_put k13 2 v rfl, blk_far k12 h.ne v, below_set hb h.h13, h.h13, h.ne⟩⟩
theorem Lf.app3 (h : Lf w0 g12 g13 x e #[q0, q1, s2, s3, s4] u2 u3 u4 L2 L3 L4 W) {v : Value} {w1 : World} {p : Int} (hr : (Kd.int .i64).R 3 w1 w0.heap.size (fun _ => True) v (L3 ++ [p])) (hb : Below w0.heap.size w0 w1) (hg : W.grownBy w1 u3.ownBlock) :
    LfSee g12 g13 u2 u3 u4 s2 s3 s4 w1 ∧ Lf w0 g12 g13 x e #[q0, q1, s2, s3, s4] u2 v u4 L2 (L3 ++ [p]) L4 (w1.setCell ⟨g13, 3, none⟩ v) := by
  have k13 : w1.heap[g13]? = some (.cells #[.int .i64 x, .int .i16 e, u2, u3, u4] 52 (0, 0)) := blk_grown h.k13 hg (Kd.R_ne h.r3 h.k13 (by decide))
  have k12 : w1.heap[g12]? = some (.cells #[q0, q1, s2, s3, s4] 52 (0, 0)) := blk_grown h.k12 hg (Kd.R_ne h.r3 h.k12 (by decide))
  have r2' := Kd.R_over h.r2 h.r3 (by decide) hg
  have r4' := Kd.R_over h.r4 h.r3 (by decide) hg
  exact ⟨lf_see (k := q0) k13 k12, ⟨Kd.R_set r2' k13 (by decide) 3 v, Kd.R_set hr k13 (by decide) 3 v, Kd.R_set r4' k13 (by decide) 3 v, blk_put k13 3 v rfl, blk_far k12 h.ne v, below_set hb h.h13, h.h13, h.ne⟩⟩
theorem Lf.app4 (h : Lf w0 g12 g13 x e #[q0, q1, s2, s3, s4] u2 u3 u4 L2 L3 L4 W) {v : Value} {w1 : World} {p : Int} (hr : (Kd.int .i64).R 2 w1 w0.heap.size (fun _ => True) v (L4 ++ [p])) (hb : Below w0.heap.size w0 w1) (hg : W.grownBy w1 u4.ownBlock) :
    LfSee g12 g13 u2 u3 u4 s2 s3 s4 w1 ∧ Lf w0 g12 g13 x e #[q0, q1, s2, s3, s4] u2 u3 v L2 L3 (L4 ++ [p]) (w1.setCell ⟨g13, 4, none⟩ v) := by
  have k13 : w1.heap[g13]? = some (.cells #[.int .i64 x, .int .i16 e, u2, u3, u4] 52 (0, 0)) := blk_grown h.k13 hg (Kd.R_ne h.r4 h.k13 (by decide))
  have k12 : w1.heap[g12]? = some (.cells #[q0, q1, s2, s3, s4] 52 (0, 0)) := blk_grown h.k12 hg (Kd.R_ne h.r4 h.k12 (by decide))
  have r2' := Kd.R_over h.r2 h.r4 (by decide) hg
  have r3' := Kd.R_over h.r3 h.r4 (by decide) hg
  exact ⟨lf_see (k := q0) k13 k12, ⟨Kd.R_set r2' k13 (by decide) 4 v, Kd.R_set r3' k13 (by decide) 4 v, Kd.R_set hr k13 (by decide) 4 v, blk_put k13 4 v rfl, blk_far k12 h.ne v, below_set hb h.h13, h.h13, h.ne⟩⟩
end
/-- An element of All's answer, read. -/
def KnAt (w : World) (b o j : Nat) (x e : Int) (ms : List Mk) (b2 o2 q2 b3 o3 q3 b4 o4 q4 : Nat) : Prop :=
  (w.cell? ⟨b, o + j * 5, none⟩ = some (.int .i64 x) ∧ w.cell? ⟨b, o + j * 5 + 1, none⟩ = some (.int .i16 e) ∧ w.cell? ⟨b, o + j * 5 + 2, none⟩ = some (.slice (some ⟨b2, o2, none⟩) ms.length q2) ∧ w.cell? ⟨b, o + j * 5 + 3, none⟩ = some (.slice (some ⟨b3, o3, none⟩) ms.length q3) ∧ w.cell? ⟨b, o + j * 5 + 4, none⟩ = some (.slice (some ⟨b4, o4, none⟩) ms.length q4)) ∧
  (b2 < w.heap.size ∧ b3 < w.heap.size ∧ b4 < w.heap.size) ∧
  ∀ i m, ms[i]? = some m → w.cell? ⟨b2, o2 + i, none⟩ = some (.int .i32 m.seq) ∧ w.cell? ⟨b3, o3 + i, none⟩ = some (.int .i64 m.count) ∧ w.cell? ⟨b4, o4 + i, none⟩ = some (.int .i64 m.base)
theorem C_known {w : World} {A : Option Addr} {n : Nat} {g : Int → Option (Int × List Mk)} {ks : List Int} (h : Kd.C k52 w A n (ks.map (kn g))) (hn : n = (ks.map (kn g)).length) {j : Nat} {x e : Int} {ms : List Mk} (hj : ks[j]? = some x) (hg : g x = some (e, ms)) (h0 : 0 < ms.length) :
    ∃ b o, A = some ⟨b, o, none⟩ ∧ b < w.heap.size ∧ ∃ b2 o2 q2 b3 o3 q3 b4 o4 q4, KnAt w b o j x e ms b2 o2 q2 b3 o3 q3 b4 o4 q4 := by
  have hjl : j < ks.length := (List.getElem?_eq_some_iff.1 hj).1
  rw [List.length_map] at hn
  obtain ⟨b, o, rfl⟩ := C_spot h (by omega)
  have hr : rd_T52 (ks.map (kn g)) (j : Int) = ⟨x, e, ms.map Mk.seq, ms.map Mk.count, ms.map Mk.base⟩ := by
    unfold rd_T52
    rw [Int.toNat_natCast, List.getD_eq_getElem?_getD, List.getElem?_map, hj]
    simp only [Option.map_some, Option.getD_some]
    unfold kn
    rw [hg]
  have g1 := at_T52 h (j : Int) (by omega) (by omega)
  rw [hr, Int.toNat_natCast] at g1
  simp only [List.length_map] at g1
  obtain ⟨ad, A2, c2, A3, c3, A4, c4, hA, d0, d1, d2, d3, d4, _, C2, _, C3, _, C4⟩ := g1
  obtain rfl := Option.some.inj hA
  simp only [add_off] at d0 d1 d2 d3 d4
  obtain ⟨b2, o2, rfl, hb2, hc2⟩ := C_ints C2 h0
  obtain ⟨b3, o3, rfl, hb3, hc3⟩ := C_ints C3 h0
  obtain ⟨b4, o4, rfl, hb4, hc4⟩ := C_ints C4 h0
  refine ⟨b, o, rfl, World.block_lt_of_cell? w _ d0, b2, o2, c2, b3, o3, c3, b4, o4, c4, ⟨d0, d1, d2, d3, d4⟩, ⟨hb2, hb3, hb4⟩, fun i m hm => ?_⟩
  have hi := (List.getElem?_eq_some_iff.1 hm).1
  have e2 := hc2 i hi
  have e3 := hc3 i hi
  have e4 := hc4 i hi
  rw [List.getD_eq_getElem?_getD, List.getElem?_map, hm] at e2 e3 e4
  exact ⟨e2, e3, e4⟩
/-- append of a number, within a region that draws its order. -/
theorem step_int {ops : Array Oper} {o : Oper} {a : Act} {K : Act → World → Prop} {Q : Exit → Act → World → Prop} {E : Prop} {k : IntKind} {w0 : World} (base : Nat) (hgd : o.guard = none) (s x : Operand) (t e : TypeId) (z : Value) (bytes : Nat)
    (ho : o.op = .call { callee := .builtin .append, args := #[s, x], argTypes := #[t, t] })
    (ht : Try.prog.underlying t = some (.slice e)) (hinfo : (Try.prog.info? e).map (fun i => (i.zero, i.size, i.bytes)) = some (some z, 1, bytes)) (hz : z.cells.size = 1) (hb0 : 0 < bytes)
    (W : World) (v : Value) (xs : List Int) (p : Int) (hs : a.eval s = v) (hx : a.eval x = .slice (some ⟨W.heap.size, 0, none⟩) 1 1)
    (HO : (Kd.int k).R e W base (fun _ => True) v xs) (HB : Below base w0 W) (hbase : base ≤ W.heap.size) (hl : (xs.length + 1) * bytes ≤ 140737488355328)
    (h : ∀ v1 w1, (Kd.int k).R e w1 base (fun _ => True) v1 (xs ++ [p]) → Below base w0 w1 → W.drew.grownBy w1 v.ownBlock → K (a.put o.dst v1) w1) :
    if Region.wanted o (yielded ops a.tmps) = true then Oper.wp Try.prog o a (W.alloc (.cells #[.int k p] e)).drew K Q else E := by
  have hw : Region.wanted o (yielded ops a.tmps) = true := by simp [Region.wanted, hgd]
  rw [if_pos hw]
  have hst := Kd.R_append_step (P := Try.prog) (ops := ops) (o := o) (a := a) (Q := Q) (Kc := K) (Kd.int k) (w0 := w0) (W := W.drew) base hw s x t e z bytes ho ht hinfo hz Nat.one_pos hb0 v xs p [.int k p] (fun _ => True) (fun _ => False) hs hx rfl (fun _ h => h.elim) (fun _ _ => trivial) (Kd.R_drew HO) (below_drew HB) hbase hl (fun v1 w1 hr hb hg _ => h v1 w1 hr hb hg)
  rw [if_pos hw] at hst
  exact hst
end Go.Proofs.Ytnooekflmjebiaa
