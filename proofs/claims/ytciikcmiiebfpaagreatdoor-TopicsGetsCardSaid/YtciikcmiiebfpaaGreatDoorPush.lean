/- BatR, Push as one text (a claim holds at most 60 files). -/
import Derived.Test.YtciikcmiiebfpaaGreatDoorBatH
import Derived.Test.YtciikcmiiebfpaaGreatDoorRecH
import Derived.Test.YtciikcmiiebfpaaGreatDoorIxBase

/- BatR -/
section
/- batch.block, record, last. -/
namespace Go.Proofs.YtciikcmiiebfpaaGreatDoor
open Go Go.RowKit Go.Proofs.YtciikcmiiebfpaaGreatDoorW.PrintWords Go.Proofs.YtciikcmiiebfpaaGreatDoor.PTopicsGets Go.Proofs.YtciikcmiiebfpaaGreatDoorW.PrintMore
set_option linter.unusedVariables false
set_option linter.unusedSimpArgs false
attribute [local go_sem] max2_int min2_int max_two min_two max_three min_three

theorem block_ok {A : Option Addr} {n c : Nat} {l : Bs} (hl : l.length = n) (hn : n ≤ c) (h61 : 61 ≤ n) (hs : n - 61 ≤ 32768) :
    ∃ A5, (∀ W, CB W A n l → CB W A5 (n - 61) (l.drop 61)) ∧ ∀ w : World, Calls Tryz.prog 116 #[.slice A n c, .bool false] w fun r w' => w' = w ∧ r = .returned (.tuple #[.slice A5 (n - 61) (c - 61), .int .i64 0]) := by
  obtain ⟨A5, hcut, hM⟩ := piece_drop (A := A) hl hn 61 61 rfl h61
  refine ⟨A5, hM, fun w => ?_⟩
  clear hM hl
  have h1 : ¬ (32768 : Int) < ((n - 61 : Nat) : Int) := by omega
  generalize n - 61 = m at *
  go_enter Tryz.func116, Tryz.ntmps116
  go_wp2_with fail
  go_ret2
  exact ⟨rfl, rfl⟩

/-- A record whose key and value are slices, without headers. -/
structure PRec where
  t : Int
  A1 : Option Addr
  n1 : Nat
  c1 : Nat
  A2 : Option Addr
  n2 : Nat
  c2 : Nat
def PRec.vs (r : PRec) : List Value := [.int .i64 r.t, .bool false, .slice r.A1 r.n1 r.c1, .bool false, .slice r.A2 r.n2 r.c2, .slice none 0 0]
def recCells (rs : List PRec) : List Value := rs.flatMap PRec.vs
theorem recCells_snoc (rs : List PRec) (r : PRec) : recCells (rs ++ [r]) = recCells rs ++ r.vs := by simp [recCells]
theorem recCells_get : ∀ (rs : List PRec) (i : Nat) (r : PRec), rs[i]? = some r → ∀ j, j < 6 → (recCells rs)[i * 6 + j]? = r.vs[j]?
  | r :: rs, 0, r', h, j, hj => by
    obtain rfl : r = r' := Option.some.inj h
    show (r.vs ++ recCells rs)[0 * 6 + j]? = _
    rw [Nat.zero_mul, Nat.zero_add, List.getElem?_append_left (by show j < 6; exact hj)]
  | r :: rs, i + 1, r', h, j, hj => by
    show (r.vs ++ recCells rs)[(i + 1) * 6 + j]? = _
    rw [List.getElem?_append_right (by show 6 ≤ _; omega)]
    have := recCells_get rs i r' h j hj
    rw [show (i + 1) * 6 + j - r.vs.length = i * 6 + j by show _ - 6 = _; omega]
    exact this
/-- A row of records that a slice owns, from block B on. -/
abbrev Recs (w : World) (B : Nat) (v : Value) (rs : List PRec) : Prop := Ix.Owns w B 118 6 v rs.length (recCells rs)

set_option maxHeartbeats 4000000 in
set_option maxRecDepth 100000 in
theorem record_ok (w : World) (dt : Int) (off : Nat) (A1 A2 : Option Addr) (n1 c1 n2 c2 i : Nat) (first : Int) (hf : -9223372036854775808 ≤ first ∧ first ≤ 9223372036854775807) (hd : -9223372036854775808 ≤ first + dt ∧ first + dt ≤ 9223372036854775807) (hi : i < 1000) (ho : off = i) (h0 : ¬ (i = 0 ∧ dt ≠ 0)) :
    Calls Tryz.prog 118 #[.agg #[.int .i64 dt, .int .i32 (off : Int), .bool false, .slice A1 n1 c1, .bool false, .slice A2 n2 c2, .slice none 0 0], .int .i64 (i : Int), .int .i64 first] w fun r w' =>
      Below w.heap.size w w' ∧ r = .returned (.tuple #[.agg #[.int .i64 (first + dt), .bool false, .slice A1 n1 c1, .bool false, .slice A2 n2 c2, .slice none 0 0], .int .i64 0]) := by
  subst ho
  have hw : IntKind.i64.wrap (off : Int) = (off : Int) := by simp [IntKind.wrap, IntKind.bits, IntKind.signed]; omega
  have hb : ∀ v : Value, Below w.heap.size w ((w.alloc (.cells #[.int .i64 dt, .int .i32 (off : Int), .bool false, .slice A1 n1 c1, .bool false, .slice A2 n2 c2, .slice none 0 0] 236)).alloc (.cells #[v, .bool false, .slice A1 n1 c1, .bool false, .slice A2 n2 c2, .slice none 0 0] 118)) := fun v =>
    ((Below.refl _ _).alloc (Nat.le_refl _) _).alloc (by rw [World.size_alloc]; omega) _
  have hx : ∀ v : Value, ((w.alloc (.cells #[.int .i64 dt, .int .i32 (off : Int), .bool false, .slice A1 n1 c1, .bool false, .slice A2 n2 c2, .slice none 0 0] 236)).alloc (.cells #[v, .bool false, .slice A1 n1 c1, .bool false, .slice A2 n2 c2, .slice none 0 0] 118)).heap[w.heap.size + 1]? = some (.cells #[v, .bool false, .slice A1 n1 c1, .bool false, .slice A2 n2 c2, .slice none 0 0] 118 (0, 0)) := fun v => by
    have := blk_new (w.alloc (.cells #[.int .i64 dt, .int .i32 (off : Int), .bool false, .slice A1 n1 c1, .bool false, .slice A2 n2 c2, .slice none 0 0] 236)) (.cells #[v, .bool false, .slice A1 n1 c1, .bool false, .slice A2 n2 c2, .slice none 0 0] 118)
    rw [World.size_alloc] at this
    exact this
  have HB := Lib.hid hb
  have HX := Lib.hid hx
  clear hb hx
  have hwt : wrap64 (first + dt) = first + dt := by simp [wrap64, IntKind.wrap, IntKind.bits, IntKind.signed]; omega
  by_cases hz : off = 0
  · subst hz
    have hdt : dt = 0 := by by_cases h : dt = 0; exact h; exact absurd ⟨rfl, h⟩ h0
    subst hdt
    have hwf : wrap64 first = first := by simp [wrap64, IntKind.wrap, IntKind.bits, IntKind.signed]; omega
    clear h0 hd hf hwt
    go_enter Tryz.func118, Tryz.ntmps118
    go_wp2_with fail
    have hres := run_loadVar_row _ (w.heap.size + 1) 118 118 _ _ _ (HX.out (.int .i64 first)) Tryz.underlying118 rfl (by kernel_rfl)
    refine bodyPost_ret (results_ct (p := 6) (u := 7) (ty := 118) rfl _ _ (w.heap.size + 1) _ rfl hres) rfl ?_
    exact ⟨HB.out _, by rw [Int.add_zero]; rfl⟩
  · have hz2 : ¬ (off : Int) = 0 := by omega
    by_cases hdt : dt < 0
    · have hlt : first + dt < first := by omega
      clear h0 hd hf hz
      go_enter Tryz.func118, Tryz.ntmps118
      go_wp2_with fail
      have hres := run_loadVar_row _ (w.heap.size + 1) 118 118 _ _ _ (HX.out (.int .i64 (first + dt))) Tryz.underlying118 rfl (by kernel_rfl)
      refine bodyPost_ret (results_ct (p := 6) (u := 7) (ty := 118) rfl _ _ (w.heap.size + 1) _ rfl hres) rfl ?_
      exact ⟨HB.out _, rfl⟩
    · have hlt : ¬ first + dt < first := by omega
      clear h0 hd hf hz
      go_enter Tryz.func118, Tryz.ntmps118
      go_wp2_with fail
      have hres := run_loadVar_row _ (w.heap.size + 1) 118 118 _ _ _ (HX.out (.int .i64 (first + dt))) Tryz.underlying118 rfl (by kernel_rfl)
      refine bodyPost_ret (results_ct (p := 6) (u := 7) (ty := 118) rfl _ _ (w.heap.size + 1) _ rfl hres) rfl ?_
      exact ⟨HB.out _, rfl⟩

/-- The greatest time. -/
def lastT : List PRec → Int
  | [] => 0
  | r :: rs => (r :: rs).foldl (fun t x => max t x.t) r.t
set_option maxHeartbeats 4000000 in
set_option maxRecDepth 100000 in
theorem last_ok (w : World) (B : Nat) (A : Option Addr) (n c : Nat) (rs : List PRec) (r0 : PRec) (hr : Recs w B (.slice A n c) rs) (hn : rs.length = n) (h0 : rs[0]? = some r0) (hs : n < 100000) :
    Calls Tryz.prog 119 #[.slice A n c] w fun r w' => Below w.heap.size w w' ∧ r = .returned (.int .i64 (lastT rs)) := by
  have hpos : 0 < n := by obtain ⟨h, _⟩ := List.getElem?_eq_some_iff.1 h0; omega
  unfold Recs at hr
  rw [hn] at hr
  obtain ⟨g, cap, e, hg, hgl, hnc, hcm, hx⟩ := hr.form hpos
  injection e with e1 e2 e3
  subst e1
  have HX := Lib.hid (fun (i : Nat) (r : PRec) (h : rs[i]? = some r) (j : Nat) (u : Value) (hj : j < 6) (hu : r.vs[j]? = some u) => hx (i * 6 + j) u (by rw [recCells_get rs i r h j hj, hu]))
  have c0 : w.cell? ⟨g, 0, none⟩ = some (.int .i64 r0.t) := HX.out 0 r0 h0 0 _ (by decide) rfl
  have HL : Hid (lastT rs = rs.foldl (fun t x => max t x.t) r0.t) := by
    cases rs with
    | nil => cases h0
    | cons a b => obtain rfl : a = r0 := Option.some.inj h0; rfl
  have HN := Lib.hid hn
  have HGL := Lib.hid hgl
  clear hr hx h0 hn e2 e3 hg hgl hcm
  obtain ⟨t0, ht0⟩ : ∃ t0, t0 = r0.t := ⟨_, rfl⟩
  rw [← ht0] at c0 HL
  clear ht0
  go_enter Tryz.func119, Tryz.ntmps119
  go_wp2_with fail
  go_loopw [3, 12] (fun v3 v12 wr => ∃ (i : Nat) (cur : Int), v3 = .int .i64 cur ∧ v12 = .int .i64 (i : Int) ∧ i ≤ n ∧ Hid ((rs.drop i).foldl (fun t x => max t x.t) cur = lastT rs) ∧ Hid (Below w.heap.size w wr)) (fun _ v12 _ => n - (intOf v12).toNat)
  case atStart => exact ⟨0, t0, rfl, rfl, Nat.zero_le _, HL.out.symm, Below.refl _ _⟩
  case round =>
    obtain ⟨i, cur, rfl, rfl, hi, HF, HB⟩ := hrel
    by_cases c1 : i < n
    · obtain ⟨r, hr⟩ : ∃ r, rs[i]? = some r := ⟨_, List.getElem?_eq_getElem (by have := HN.out; omega)⟩
      have hcell := fun (j : Nat) (u : Value) (hj : j < 6) (hu : r.vs[j]? = some u) => (HB.out.cell (p := ⟨g, i * 6 + j, none⟩) HGL.out).trans (HX.out i r hr j u hj hu)
      have y0 : wr.cell? ⟨g, i * 6, none⟩ = some (.int .i64 r.t) := hcell 0 _ (by decide) rfl
      have y1 : wr.cell? ⟨g, i * 6 + 1, none⟩ = some (.bool false) := hcell 1 _ (by decide) rfl
      have y2 : wr.cell? ⟨g, i * 6 + 2, none⟩ = some (.slice r.A1 r.n1 r.c1) := hcell 2 _ (by decide) rfl
      have y3 : wr.cell? ⟨g, i * 6 + 3, none⟩ = some (.bool false) := hcell 3 _ (by decide) rfl
      have y4 : wr.cell? ⟨g, i * 6 + 4, none⟩ = some (.slice r.A2 r.n2 r.c2) := hcell 4 _ (by decide) rfl
      have y5 : wr.cell? ⟨g, i * 6 + 5, none⟩ = some (.slice none 0 0) := hcell 5 _ (by decide) rfl
      have hdrop : rs.drop i = r :: rs.drop (i + 1) := by
        rw [List.getElem?_eq_getElem (by have := HN.out; omega)] at hr
        rw [List.drop_eq_getElem_cons (by have := HN.out; omega), Option.some.inj hr]
      have hf := HF.out
      rw [hdrop, List.foldl_cons] at hf
      obtain ⟨t, A1, n1, c1', A2, n2, c2⟩ := r
      simp only at y0 y1 y2 y3 y4 y5 hf
      have HF2 := Lib.hid hf
      have HA : Hid (Below w.heap.size w (wr.alloc (.cells #[.int .i64 t, .bool false, .slice A1 n1 c1', .bool false, .slice A2 n2 c2, .slice none 0 0] 118))) := HB.out.alloc HB.out.size _
      clear hcell hr hdrop hf HF
      by_cases c2' : cur < t
      · rw [Int.max_eq_right (Int.le_of_lt c2')] at HF2
        go_wp2_with fail
        go_roundw
        case rel => exact ⟨i + 1, t, rfl, rfl, by omega, HF2, HA⟩
        case measure => simp [intOf]; omega
      · rw [Int.max_eq_left (by omega)] at HF2
        go_wp2_with fail
        go_roundw
        case rel => exact ⟨i + 1, cur, rfl, rfl, by omega, HF2, HA⟩
        case measure => simp [intOf]; omega
    · have hf := HF.out
      rw [List.drop_eq_nil_of_le (by have := HN.out; omega)] at hf
      have HF2 : Hid (cur = lastT rs) := hf
      clear hf HF
      go_wp2_with fail
      go_ret
      exact ⟨HB.out, by rw [← HF2.out]; rfl⟩
end Go.Proofs.YtciikcmiiebfpaaGreatDoor
end

/- Push -/
section
/- One element put behind a row of the call's own. -/
namespace Go.Proofs.YtciikcmiiebfpaaGreatDoor
open Go Go.RowKit Go.Proofs.YtciikcmiiebfpaaGreatDoorW.PrintWords Go.Proofs.YtciikcmiiebfpaaGreatDoor.PTopicsGets Go.Proofs.YtciikcmiiebfpaaGreatDoorW.PrintMore
set_option linter.unusedVariables false

theorem wpList_push {ops : Array Oper} {rest : List Oper} {o : Oper} {a : Act} {Q : Exit → Act → World → Prop} (hgd : o.guard = none) (s x : Operand) (t e : TypeId) (sz bytes : Nat) (z : Value)
    (ho : o.op = .call { callee := .builtin .append, args := #[s, x], argTypes := #[t, t] }) (ht : Tryz.prog.underlying t = some (.slice e)) (hi : (Tryz.prog.info? e).map (fun i => (i.zero, i.size, i.bytes)) = some (some z, sz, bytes)) (hzs : z.cells.size = sz) (hsz : 0 < sz)
    (W : World) (B b : Nat) (v : Value) (n : Nat) (xs vs : List Value) (hs : a.eval s = v) (hx : a.eval x = .slice (some ⟨b, 0, none⟩) 1 1) (hbx : W.heap[b]? = some (.cells vs.toArray e (0, 0))) (hvl : vs.length = sz) (h1 : (vs.all fun u => u.oneCell') = true)
    (hown : Ix.Owns W B e sz v n xs) (hm : n + 1 ≤ maxLen) (hbytes : (n + 1) * bytes ≤ 140737488355328) (hB : B ≤ W.heap.size)
    (h : ∀ v' w', Ix.Owns w' B e sz v' (n + 1) (xs ++ vs) → Tch (fun k => v.ownBlock = some k) W w' → (∀ k, v'.ownBlock = some k → v.ownBlock = some k ∨ W.heap.size ≤ k) → wpList Tryz.prog ops Q rest (a.put o.dst v') w') :
    wpList Tryz.prog ops Q (o :: rest) a W := by
  obtain ⟨i0, hi0, hz0, hz1, hz2⟩ := info_parts hi
  refine Ix.wpList_app W hgd s x t ho B e i0 z sz bytes ht hi0 hz0 hz1 hz2 hzs hsz v n xs hs hown (some ⟨b, 0, none⟩) 1 1 vs hx ⟨by rw [hvl, Nat.one_mul], fun _ => ⟨_, rfl, blk_lt hbx, fun j u hu => ?_⟩⟩ (List.all_eq_true.1 h1) hm hbytes hB ?_
  · rw [Ix.add_zero', blk_cell hbx, List.getElem?_toArray, hu]
  · intro v' w' h1 h2 h3
    exact h v' w' h1 ⟨h2.os, h2.tape, h2.output, h2.size, h2.block⟩ h3
end Go.Proofs.YtciikcmiiebfpaaGreatDoor
end
