/- The walk of Note where the batch is remembered. -/
import Derived.Test.YtnooekflmjebiaaSmall
namespace Go.Proofs.Ytnooekflmjebiaa
open Go Go.RowKit
set_option linter.unusedVariables false

/-- What a map's element holds: an epoch, a slice of batches. -/
def Mem (w : World) (v : Value) (e : Int) (ms : List Mk) : Prop :=
  ∃ A c, v = .agg #[.int .i16 e, .slice A ms.length c] ∧ Rd w 3 A ms.length (mkVals ms) ∧ (A = none → c = 0) ∧ ∀ a, A = some a → ∃ cs, w.heap[a.block]? = some (.cells cs 66 (0, 0))
def zmem : Value := .agg #[.int .i16 0, .slice none 0 0]
theorem zeroE (w : World) : (zeroValue 60).run Try.prog w = .ok zmem w := by kernel_rfl
theorem Mem.zero (w : World) : Mem w zmem 0 [] := ⟨none, 0, rfl, ⟨rfl, fun h => absurd h (by decide)⟩, fun _ => rfl, fun a h => by cases h⟩

theorem Mp.below {w w' : World} {b n : Nat} {f : Int → Option Value} (h : Mp w b n f) (hb : Below w.heap.size w w') : Mp w' b n f := h.kept (hb.block b h.lt)

/-- 'm[k] = v' in a region that draws. -/
theorem step_store {ops : Array Oper} {o : Oper} {a : Act} {K : Act → World → Prop} {Q : Exit → Act → World → Prop} {E : Prop} (w : World) (hg : o.guard = none) (m x v : Operand) (hop : o.op = Op.mapUpdate 54 m x v)
    (b n : Nat) (f : Int → Option Value) (hm : a.eval m = .map (some b)) (hown : Mp w b n f) (hn : n < maxLen) (p : Int) (hp : wf64 p) (hx : a.eval x = .int .i64 p) (val : Value) (hv : a.eval v = val)
    (hK : ∀ w', Mp w' b (n + 1) (fun y => if y = p then some val else f y) → w.grownBy w' (some b) → K (a.put o.dst undef) w') :
    if Region.wanted o (yielded ops a.tmps) = true then Oper.wp Try.prog o a w K Q else E := by
  rw [if_pos (by simp [Region.wanted, hg])]
  obtain ⟨D, hD, hview⟩ := hown
  obtain ⟨w', hrun, r1, r2⟩ := hD.update keyed Try.underlying54 hn (val := val) (d := .held val) (ps := []) (hkey hp) rfl
  unfold Oper.wp
  simp [execOp, hop, hm, hx, hv, hrun, Result.andThen]
  exact hK w' ⟨_, r1, Mp.store_view hD.isMap hview p val⟩ r2

/-- The box of the element, made. -/
theorem box_cells (w : World) (x y : Value) (T : TypeId) : (w.alloc (.cells #[x, y] T)).cell? ⟨w.heap.size, 0, none⟩ = some x ∧ (w.alloc (.cells #[x, y] T)).cell? ⟨w.heap.size, 1, none⟩ = some y ∧ (w.alloc (.cells #[x, y] T)).frozen? ⟨w.heap.size, 1, none⟩ = false := by
  have h := heap_alloc_new w (.cells #[x, y] T)
  refine ⟨?_, ?_, ?_⟩
  · rw [cell_of_row _ w.heap.size 0 _ _ _ h]; rfl
  · rw [cell_of_row _ w.heap.size 1 _ _ _ h]; rfl
  · unfold World.frozen?
    simp only
    rw [h]
    rfl
theorem box3 (w : World) (k : Mk) (T : TypeId) : Rd (w.alloc (.cells #[.int .i32 k.seq, .int .i64 k.count, .int .i64 k.base] T)) 3 (some ⟨w.heap.size, 0, none⟩) 1 k.vs := by
  refine ⟨rfl, fun _ => ⟨_, rfl, by simp, fun j u hu => ?_⟩⟩
  rw [add_zero', cell_of_row _ w.heap.size j _ _ _ (heap_alloc_new w _), ← Array.getElem?_toList]
  exact hu

theorem setCell_block (w : World) (a : Addr) (v : Value) (k : Nat) (h : k ≠ a.block) : (w.setCell a v).heap[k]? = w.heap[k]? := by
  simp only [World.setCell, Array.getElem?_modify]
  rw [if_neg (fun e => h e.symm)]

/-- The box written twice. -/
theorem box_put (w4 : World) (B : Nat) (x y X Y : Value) (r0 : w4.cell? ⟨B, 0, none⟩ = some x) (r1 : w4.cell? ⟨B, 1, none⟩ = some y) :
    ((w4.setCell ⟨B, 1, none⟩ Y).setCell ⟨B, 1, none⟩ X).cell? ⟨B, 0, none⟩ = some x ∧ ((w4.setCell ⟨B, 1, none⟩ Y).setCell ⟨B, 1, none⟩ X).cell? ⟨B, 1, none⟩ = some X ∧
    (∀ k, k ≠ B → ((w4.setCell ⟨B, 1, none⟩ Y).setCell ⟨B, 1, none⟩ X).heap[k]? = w4.heap[k]?) ∧ ((w4.setCell ⟨B, 1, none⟩ Y).setCell ⟨B, 1, none⟩ X).heap.size = w4.heap.size ∧
    ((w4.setCell ⟨B, 1, none⟩ Y).setCell ⟨B, 1, none⟩ X).os = w4.os ∧ ((w4.setCell ⟨B, 1, none⟩ Y).setCell ⟨B, 1, none⟩ X).tape = w4.tape ∧ ((w4.setCell ⟨B, 1, none⟩ Y).setCell ⟨B, 1, none⟩ X).output = w4.output := by
  refine ⟨?_, ?_, fun k hk => ?_, by simp, rfl, rfl, rfl⟩
  · rw [World.cell?_setCell_other _ _ _ _ (by simp), World.cell?_setCell_other _ _ _ _ (by simp), r0]
  · exact World.cell?_setCell_same _ _ _ (World.cell?_setCell_same _ _ _ r1)
  · rw [setCell_block _ _ _ _ hk, setCell_block _ _ _ _ hk]

theorem mkVals_snoc (es : List Mk) (e : Mk) : mkVals (es ++ [e]) = mkVals es ++ e.vs := by simp [mkVals]
theorem add_off (g o j : Nat) : (⟨g, o, none⟩ : Addr).add j = ⟨g, o + j, none⟩ := by unfold Addr.add; split <;> simp_all
theorem mkVals_drop (L : List Mk) (m : Nat) : mkVals (L.drop m) = (mkVals L).drop (m * 3) := by
  induction m generalizing L with
  | zero => simp
  | succ m ih =>
    cases L with
    | nil => simp [mkVals]
    | cons a L =>
      rw [List.drop_succ_cons, ih, show (m + 1) * 3 = 3 + m * 3 by omega, ← List.drop_drop]
      rfl

set_option maxRecDepth 100000 in
set_option maxHeartbeats 1000000 in
theorem note_same (t b k : Nat) (f : Int → Option Value) (p e s c base : Int) (ms : List Mk) (w : World) (hT : TB w t b k f) (hp : wf64 p) (hp0 : 0 ≤ p) (hb0 : 0 ≤ base) (hbad : badI p e s c = false)
    (hM : Mem w ((f p).getD zmem) e ms) (h5 : ms.length ≤ 5) (hk : k < maxLen) :
    Calls Try.prog 10 #[.pointer (some ⟨t, 0, none⟩), .int .i64 p, .int .i16 e, .int .i32 s, .int .i64 c, .int .i64 base] w fun r w' =>
      r = .returned (.int .i64 0) ∧ ∃ v, TB w' t b (k + 1) (fun y => if y = p then some v else f y) ∧ Mem w' v e ((ms ++ [(⟨s, c, base⟩ : Mk)]).drop (ms.length + 1 - 5)) ∧ Kept (fun j => j = b) w w' := by
  obtain ⟨A, cc, hv, hrd, hnil, _⟩ := hM
  obtain ⟨n, hn⟩ : ∃ n, n = ms.length := ⟨_, rfl⟩
  have HBAD := Lib.hid hbad
  have HC := Lib.hid (show ∀ W : World, Below w.heap.size w W → Calls Try.prog 21 #[.slice A n cc] W fun r w' => ∃ v, r = .returned v ∧ Owns w' W.heap.size 66 3 v n (mkVals ms) ∧ Below W.heap.size W w' by
    intro W h
    have := clone_any A cc ms W (hrd.below h) hnil (by omega)
    rw [← hn] at this
    exact this)
  have HV := Lib.hid hv
  have HMP := Lib.hid hT.mp
  have c0 := hT.c
  have HT := Lib.hid hT
  obtain ⟨i0, hi, hz0, hz1, hz2⟩ := info_parts mk_info
  have hlt := hT.lt
  have HN := Lib.hid hn
  rw [← hn] at h5 hv ⊢
  clear hrd hnil hbad hv hT hn
  go_enter Try.func10, Try.ntmps10
  go_wp2_with (first | (go_at_call 18; refine (bad_any _ _ _ _ _).mono ?_; rintro r w' ⟨rfl, rfl⟩; rw [HBAD.out]) | (at_lookup; refine look_at _ rfl _ _ rfl (zeroE _) b k f rfl HMP.out p hp rfl ?_; rw [HV.out, ← HN.out]))
  have HB1 : Hid (Below w.heap.size w (w.alloc (.cells #[.int .i16 e, .slice A n cc] 60))) := (Below.refl w.heap.size w).alloc (Nat.le_refl _) _
  have HBX := Lib.hid (box_cells w (.int .i16 e) (.slice A n cc) 60)
  have hs1 : (w.alloc (.cells #[.int .i16 e, .slice A n cc] 60)).heap.size = w.heap.size + 1 := World.size_alloc _ _
  have HS1 := Lib.hid hs1
  refine (HC.out _ HB1.out).mono ?_
  generalize w.alloc (.cells #[.int .i16 e, .slice A n cc] 60) = W1 at *
  rintro r w2 ⟨v2, rfl, ho2, hb2⟩
  have hw12 := hb2.size
  have q0 : w2.cell? ⟨w.heap.size, 0, none⟩ = some (.int .i16 e) := (hb2.cell (p := ⟨w.heap.size, 0, none⟩) (by show w.heap.size < _; omega)).trans HBX.out.1
  have q1 : w2.cell? ⟨w.heap.size, 1, none⟩ = some (.slice A n cc) := (hb2.cell (p := ⟨w.heap.size, 1, none⟩) (by show w.heap.size < _; omega)).trans HBX.out.2.1
  have q2 : w2.frozen? ⟨w.heap.size, 1, none⟩ = false := (hb2.frozen (p := ⟨w.heap.size, 1, none⟩) (by show w.heap.size < _; omega)).trans HBX.out.2.2
  have B2 : Hid (Below w.heap.size w w2) := HB1.out.trans (hb2.mono HB1.out.size)
  have O2 := Lib.hid ho2
  clear ho2 hb2
  have HB3 : Hid (Below w2.heap.size w2 (w2.alloc (.cells #[.int .i32 s, .int .i64 c, .int .i64 base] 66))) := (Below.refl _ _).alloc (Nat.le_refl _) _
  have O3 := Lib.hid (O2.out.kept (S := fun _ => False) (Kept.of_below HB3.out) (fun _ _ h => h))
  have R3 := Lib.hid (box3 w2 ⟨s, c, base⟩ 66)
  have ONE := Lib.hid (mk_one [(⟨s, c, base⟩ : Mk)])
  have AK := Lib.hid (show ∀ w4, Kept (fun j => v2.ownBlock = some j) (w2.alloc (.cells #[.int .i32 s, .int .i64 c, .int .i64 base] 66)) w4 →
      w4.cell? ⟨w.heap.size, 0, none⟩ = some (.int .i16 e) ∧ w4.cell? ⟨w.heap.size, 1, none⟩ = some (.slice A n cc) ∧ w4.frozen? ⟨w.heap.size, 1, none⟩ = false ∧ Below w.heap.size w w4 ∧ w.heap.size < w4.heap.size by
    intro w4 hk
    have hne : ¬ v2.ownBlock = some w.heap.size := fun h => by
      have := (O2.out.lt _ h).1
      omega
    have hge : ∀ j, v2.ownBlock = some j → w.heap.size ≤ j := fun j h => by
      have := (O2.out.lt _ h).1
      omega
    have hlt3 : w.heap.size < w2.heap.size := by omega
    have hs3 : (w2.alloc (.cells #[.int .i32 s, .int .i64 c, .int .i64 base] 66)).heap.size = w2.heap.size + 1 := World.size_alloc _ _
    have hblk : w4.heap[w.heap.size]? = w2.heap[w.heap.size]? := (hk.block _ (by omega) hne).trans (HB3.out.block _ hlt3)
    have hB : Below w.heap.size w w4 := (B2.out.trans (HB3.out.mono (by omega))).trans (hk.below (by omega) hge)
    have hz := hk.size
    exact ⟨(World.cell?_of_block (w := w2) (a := ⟨w.heap.size, 0, none⟩) hblk).trans q0, (World.cell?_of_block (w := w2) (a := ⟨w.heap.size, 1, none⟩) hblk).trans q1, by
      rw [← q2]
      unfold World.frozen?
      rw [hblk], hB, by omega⟩)
  clear hs1
  go_wp2_with (at_builtin; refine wpList_app _ rfl _ _ 58 rfl W1.heap.size 66 i0 _ 3 24 Try.underlying58 hi hz0 hz1 hz2 rfl (by decide) v2 n (mkVals ms) rfl O3.out (some ⟨w2.heap.size, 0, none⟩) 1 1 _ rfl R3.out ONE.out (by unfold maxLen; omega) (by omega) (by simp; omega) ?_; intro v4 w4 h1 h2 h3; obtain ⟨r0, r1, r2, hB4, hz4⟩ := AK.out w4 h2; have B4 := Lib.hid hB4; obtain ⟨g, cap, rfl, hBg, hgl, hcap, hcm, hx⟩ := h1.form (by omega); have O4 := Lib.hid h1; have HX := Lib.hid hx; clear h1 h2 h3 hB4 hx)
  all_goals
    obtain ⟨M, hMn, hM5⟩ : ∃ M : Nat, M ≤ n ∧ M = n + 1 - 5 := ⟨n + 1 - 5, by omega, rfl⟩
    obtain ⟨X, hX⟩ : ∃ X, X = Value.slice (some ⟨g, M * 3, none⟩) (n + 1 - M) (cap - M) := ⟨_, rfl⟩
    first
      | (have e1 : ((n : Int) + 1 - 5).toNat = M := by omega
         rw [e1, ← hX])
      | (have e0 : M = 0 := by omega
         have e1 : (Value.slice (some ⟨g, 0, none⟩) (n + 1) cap) = X := by rw [hX, e0]; simp
         rw [e1])
    have HXE := Lib.hid hX
    have HM5 := Lib.hid hM5
    generalize hW5 : World.setCell (World.setCell w4 _ _) _ _ = W5
    obtain ⟨a1, a2, hblk, hsz, ho1, ho2, ho3⟩ : W5.cell? ⟨w.heap.size, 0, none⟩ = some (.int .i16 e) ∧ W5.cell? ⟨w.heap.size, 1, none⟩ = some X ∧ (∀ k, k ≠ w.heap.size → W5.heap[k]? = w4.heap[k]?) ∧ W5.heap.size = w4.heap.size ∧ W5.os = w4.os ∧ W5.tape = w4.tape ∧ W5.output = w4.output := by
      rw [← hW5]
      exact box_put w4 w.heap.size _ _ X _ r0 r1
    clear hW5 r0 r1 r2 hX hM5 e1
    have a0 : W5.cell? ⟨t, 0, none⟩ = some (.map (some b)) := (World.cell?_of_block (w := w4) (a := ⟨t, 0, none⟩) (hblk t (by omega))).trans ((B4.out.cell (p := ⟨t, 0, none⟩) hlt.1).trans c0)
    have HM6 : Hid (Mp W5.drew b k f) := HMP.out.kept (((hblk b (by omega))).trans (B4.out.block b hlt.2))
    obtain ⟨w6, hrun, hmp6, hgr⟩ : ∃ w6, (Instr.mapUpdate 54 (.map (some b)) (.int .i64 p) (.agg #[.int .i16 e, X])).run Try.prog W5.drew = .ok () w6 ∧ Mp w6 b (k + 1) (fun y => if y = p then some (.agg #[.int .i16 e, X]) else f y) ∧ W5.drew.grownBy w6 (some b) := by
      obtain ⟨D, hD, hview⟩ := HM6.out
      obtain ⟨w', hr, r1, r2⟩ := hD.update keyed Try.underlying54 hk (val := .agg #[.int .i16 e, X]) (d := .held (.agg #[.int .i16 e, X])) (ps := []) (hkey hp) rfl
      exact ⟨w', hr, ⟨_, r1, Mp.store_view hD.isMap hview p _⟩, r2⟩
    have HMP6 := Lib.hid hmp6
    have HGR := Lib.hid hgr
    have HBLK := Lib.hid hblk
    have HSZ := Lib.hid hsz
    have HO := Lib.hid (And.intro ho1 (And.intro ho2 ho3))
    clear hmp6 hgr hblk hsz ho1 ho2 ho3 c0
    go_region
    go_wp2_with fail
    go_ret
    have hb6 : ∀ j, j < w4.heap.size → j ≠ w.heap.size → j ≠ b → w6.heap[j]? = w4.heap[j]? := fun j h1 h2 h3 =>
      (HGR.out.block j (by show j < W5.heap.size; rw [HSZ.out]; exact h1) (fun h => h3 (Option.some.inj h))).trans (HBLK.out j h2)
    have hs1 : W1.heap.size = w.heap.size + 1 := HS1.out
    have hsz6 : w4.heap.size ≤ w6.heap.size := by rw [← HSZ.out]; exact HGR.out.size
    have hL : ((ms ++ [(⟨s, c, base⟩ : Mk)]).drop (n + 1 - 5)).length = n + 1 - M := by rw [List.length_drop, List.length_append, ← HN.out, HM5.out]; rfl
    refine ⟨rfl, _, ⟨(World.cell?_of_block (w := w4) (a := ⟨t, 0, none⟩) (hb6 t (by omega) (by omega) HT.out.ne)).trans ((B4.out.cell (p := ⟨t, 0, none⟩) hlt.1).trans HT.out.c), HMP6.out, HT.out.ne, by obtain ⟨cs, hc⟩ := HT.out.ty; exact ⟨cs, (hb6 t (by omega) (by omega) HT.out.ne).trans ((B4.out.block t hlt.1).trans hc)⟩⟩, ⟨some ⟨g, M * 3, none⟩, cap - M, by rw [HXE.out, hL], ⟨mkVals_length _, fun _ => ⟨_, rfl, by show g < _; omega, fun j u hu => ?_⟩⟩, fun h => (by cases h), fun a ha => by cases ha; obtain ⟨cs, hc⟩ := O4.out.block_type g rfl; exact ⟨cs, (hb6 g hgl (by omega) (by omega)).trans hc⟩⟩, ⟨?_, ?_, ?_, by omega, fun j h1 h2 => ?_⟩⟩
    · rw [add_off]
      rw [mkVals_drop, List.getElem?_drop, ← HM5.out] at hu
      refine (World.cell?_of_block (w := w4) (a := ⟨g, M * 3 + j, none⟩) (hb6 g hgl (by omega) (by omega))).trans (HX.out _ _ ?_)
      rw [mkVals_snoc] at hu
      exact hu
    · exact HGR.out.os.trans (HO.out.1.trans B4.out.os)
    · exact HGR.out.tape.trans (HO.out.2.1.trans B4.out.tape)
    · exact HGR.out.output.trans (HO.out.2.2.trans B4.out.output)
    · exact (hb6 j (by omega) (by omega) h2).trans (B4.out.block j h1)
end Go.Proofs.Ytnooekflmjebiaa
