/- The walk of Note where a new epoch begins. -/
import Derived.Test.YtnooekflmjebiaaNote
namespace Go.Proofs.Ytnooekflmjebiaa
open Go Go.RowKit
set_option linter.unusedVariables false

set_option maxRecDepth 100000 in
set_option maxHeartbeats 1000000 in
theorem note_new (t b k : Nat) (f : Int → Option Value) (p e s c base e0 : Int) (ms0 : List Mk) (w : World) (hT : TB w t b k f) (hp : wf64 p) (hp0 : 0 ≤ p) (hb0 : 0 ≤ base) (hbad : badI p e s c = false)
    (hM : Mem w ((f p).getD zmem) e0 ms0) (hne : e0 ≠ e) (hk : k < maxLen) :
    Calls Try.prog 10 #[.pointer (some ⟨t, 0, none⟩), .int .i64 p, .int .i16 e, .int .i32 s, .int .i64 c, .int .i64 base] w fun r w' =>
      r = .returned (.int .i64 0) ∧ ∃ v, TB w' t b (k + 1) (fun y => if y = p then some v else f y) ∧ Mem w' v e [(⟨s, c, base⟩ : Mk)] ∧ Kept (fun j => j = b) w w' := by
  obtain ⟨A, cc, hv, hrd, hnil, _⟩ := hM
  obtain ⟨n0, hn⟩ : ∃ n, n = ms0.length := ⟨_, rfl⟩
  have HBAD := Lib.hid hbad
  have HC := Lib.hid (show ∀ W : World, Calls Try.prog 21 #[.slice none 0 0] W fun r w' => ∃ v, r = .returned v ∧ Owns w' W.heap.size 66 3 v 0 (mkVals []) ∧ Below W.heap.size W w' from
    fun W => clone_any none 0 [] W ⟨rfl, fun h => absurd h (by decide)⟩ (fun _ => rfl) (by decide))
  have HV := Lib.hid hv
  have HMP := Lib.hid hT.mp
  have c0 := hT.c
  have HT := Lib.hid hT
  obtain ⟨i0, hi, hz0, hz1, hz2⟩ := info_parts mk_info
  have hlt := hT.lt
  have HN := Lib.hid hn
  have hnq : (e0 != e) = true := by rw [bne_iff_ne]; exact hne
  rw [← hn] at hv
  clear hrd hnil hbad hv hT hn hne
  go_enter Try.func10, Try.ntmps10
  go_wp2_with (first | (go_at_call 18; refine (bad_any _ _ _ _ _).mono ?_; rintro r w' ⟨rfl, rfl⟩; rw [HBAD.out]) | (at_lookup; refine look_at _ rfl _ _ rfl (zeroE _) b k f rfl HMP.out p hp rfl ?_; rw [HV.out, ← HN.out]))
  have HB1 : Hid (Below w.heap.size w (w.alloc (.cells #[.int .i16 e, .slice none 0 0] 60))) := (Below.refl w.heap.size w).alloc (Nat.le_refl _) _
  have HBX := Lib.hid (box_cells w (.int .i16 e) (.slice none 0 0) 60)
  have hs1 : (w.alloc (.cells #[.int .i16 e, .slice none 0 0] 60)).heap.size = w.heap.size + 1 := World.size_alloc _ _
  have HS1 := Lib.hid hs1
  refine (HC.out _).mono ?_
  generalize w.alloc (.cells #[.int .i16 e, .slice none 0 0] 60) = W1 at *
  rintro r w2 ⟨v2, rfl, ho2, hb2⟩
  have hw12 := hb2.size
  have q0 : w2.cell? ⟨w.heap.size, 0, none⟩ = some (.int .i16 e) := (hb2.cell (p := ⟨w.heap.size, 0, none⟩) (by show w.heap.size < _; omega)).trans HBX.out.1
  have q1 : w2.cell? ⟨w.heap.size, 1, none⟩ = some (.slice none 0 0) := (hb2.cell (p := ⟨w.heap.size, 1, none⟩) (by show w.heap.size < _; omega)).trans HBX.out.2.1
  have q2 : w2.frozen? ⟨w.heap.size, 1, none⟩ = false := (hb2.frozen (p := ⟨w.heap.size, 1, none⟩) (by show w.heap.size < _; omega)).trans HBX.out.2.2
  have B2 : Hid (Below w.heap.size w w2) := HB1.out.trans (hb2.mono HB1.out.size)
  have O2 := Lib.hid ho2
  clear ho2 hb2
  have HB3 : Hid (Below w2.heap.size w2 (w2.alloc (.cells #[.int .i32 s, .int .i64 c, .int .i64 base] 66))) := (Below.refl _ _).alloc (Nat.le_refl _) _
  have O3 := Lib.hid (O2.out.kept (S := fun _ => False) (Kept.of_below HB3.out) (fun _ _ h => h))
  have R3 := Lib.hid (box3 w2 ⟨s, c, base⟩ 66)
  have ONE := Lib.hid (mk_one [(⟨s, c, base⟩ : Mk)])
  have AK := Lib.hid (show ∀ w4, Kept (fun j => v2.ownBlock = some j) (w2.alloc (.cells #[.int .i32 s, .int .i64 c, .int .i64 base] 66)) w4 →
      w4.cell? ⟨w.heap.size, 0, none⟩ = some (.int .i16 e) ∧ w4.cell? ⟨w.heap.size, 1, none⟩ = some (.slice none 0 0) ∧ w4.frozen? ⟨w.heap.size, 1, none⟩ = false ∧ Below w.heap.size w w4 ∧ w.heap.size < w4.heap.size by
    intro w4 hk
    have hne : ¬ v2.ownBlock = some w.heap.size := fun h => by
      have := (O2.out.lt _ h).1
      omega
    have hge : ∀ j, v2.ownBlock = some j → w.heap.size ≤ j := fun j h => by
      have := (O2.out.lt _ h).1
      omega
    have hlt3 : w.heap.size < w2.heap.size := by omega
    have hs3 : (w2.alloc (.cells #[.int .i32 s, .int .i64 c, .int .i64 base] 66)).heap.size = w2.heap.size + 1 := World.size_alloc _ _
    have hblk : w4.heap[w.heap.size]? = w2.heap[w.heap.size]? := (hk.block _ (by omega) hne).trans (HB3.out.block _ hlt3)
    have hB : Below w.heap.size w w4 := (B2.out.trans (HB3.out.mono (by omega))).trans (hk.below (by omega) hge)
    have hz := hk.size
    exact ⟨(World.cell?_of_block (w := w2) (a := ⟨w.heap.size, 0, none⟩) hblk).trans q0, (World.cell?_of_block (w := w2) (a := ⟨w.heap.size, 1, none⟩) hblk).trans q1, by
      rw [← q2]
      unfold World.frozen?
      rw [hblk], hB, by omega⟩)
  clear hs1
  go_wp2_with (at_builtin; refine wpList_app _ rfl _ _ 58 rfl W1.heap.size 66 i0 _ 3 24 Try.underlying58 hi hz0 hz1 hz2 rfl (by decide) v2 0 (mkVals []) rfl O3.out (some ⟨w2.heap.size, 0, none⟩) 1 1 _ rfl R3.out ONE.out (by unfold maxLen; omega) (by omega) (by simp; omega) ?_; intro v4 w4 h1 h2 h3; obtain ⟨r0, r1, r2, hB4, hz4⟩ := AK.out w4 h2; have B4 := Lib.hid hB4; obtain ⟨g, cap, rfl, hBg, hgl, hcap, hcm, hx⟩ := h1.form (by omega); have O4 := Lib.hid h1; have HX := Lib.hid hx; clear h1 h2 h3 hB4 hx)
  all_goals
    obtain ⟨X, hX⟩ : ∃ X, X = Value.slice (some ⟨g, 0, none⟩) 1 cap := ⟨_, rfl⟩
    have e1 := hX.symm
    rw [e1]
    have HXE := Lib.hid hX
    generalize hW5 : World.setCell (World.setCell w4 _ _) _ _ = W5
    obtain ⟨a1, a2, hblk, hsz, ho1, ho2, ho3⟩ : W5.cell? ⟨w.heap.size, 0, none⟩ = some (.int .i16 e) ∧ W5.cell? ⟨w.heap.size, 1, none⟩ = some X ∧ (∀ k, k ≠ w.heap.size → W5.heap[k]? = w4.heap[k]?) ∧ W5.heap.size = w4.heap.size ∧ W5.os = w4.os ∧ W5.tape = w4.tape ∧ W5.output = w4.output := by
      rw [← hW5]
      exact box_put w4 w.heap.size _ _ X _ r0 r1
    clear hW5 r0 r1 r2 hX e1
    have a0 : W5.cell? ⟨t, 0, none⟩ = some (.map (some b)) := (World.cell?_of_block (w := w4) (a := ⟨t, 0, none⟩) (hblk t (by omega))).trans ((B4.out.cell (p := ⟨t, 0, none⟩) hlt.1).trans c0)
    have HM6 : Hid (Mp W5.drew b k f) := HMP.out.kept (((hblk b (by omega))).trans (B4.out.block b hlt.2))
    obtain ⟨w6, hrun, hmp6, hgr⟩ : ∃ w6, (Instr.mapUpdate 54 (.map (some b)) (.int .i64 p) (.agg #[.int .i16 e, X])).run Try.prog W5.drew = .ok () w6 ∧ Mp w6 b (k + 1) (fun y => if y = p then some (.agg #[.int .i16 e, X]) else f y) ∧ W5.drew.grownBy w6 (some b) := by
      obtain ⟨D, hD, hview⟩ := HM6.out
      obtain ⟨w', hr, r1, r2⟩ := hD.update keyed Try.underlying54 hk (val := .agg #[.int .i16 e, X]) (d := .held (.agg #[.int .i16 e, X])) (ps := []) (hkey hp) rfl
      exact ⟨w', hr, ⟨_, r1, Mp.store_view hD.isMap hview p _⟩, r2⟩
    have HMP6 := Lib.hid hmp6
    have HGR := Lib.hid hgr
    have HBLK := Lib.hid hblk
    have HSZ := Lib.hid hsz
    have HO := Lib.hid (And.intro ho1 (And.intro ho2 ho3))
    clear hmp6 hgr hblk hsz ho1 ho2 ho3 c0
    go_region
    go_wp2_with fail
    go_ret
    have hb6 : ∀ j, j < w4.heap.size → j ≠ w.heap.size → j ≠ b → w6.heap[j]? = w4.heap[j]? := fun j h1 h2 h3 =>
      (HGR.out.block j (by show j < W5.heap.size; rw [HSZ.out]; exact h1) (fun h => h3 (Option.some.inj h))).trans (HBLK.out j h2)
    have hs1 : W1.heap.size = w.heap.size + 1 := HS1.out
    have hsz6 : w4.heap.size ≤ w6.heap.size := by rw [← HSZ.out]; exact HGR.out.size
    refine ⟨rfl, _, ⟨(World.cell?_of_block (w := w4) (a := ⟨t, 0, none⟩) (hb6 t (by omega) (by omega) HT.out.ne)).trans ((B4.out.cell (p := ⟨t, 0, none⟩) hlt.1).trans HT.out.c), HMP6.out, HT.out.ne, by obtain ⟨cs, hc⟩ := HT.out.ty; exact ⟨cs, (hb6 t (by omega) (by omega) HT.out.ne).trans ((B4.out.block t hlt.1).trans hc)⟩⟩, ⟨some ⟨g, 0, none⟩, cap, by rw [HXE.out]; rfl, ⟨mkVals_length _, fun _ => ⟨_, rfl, by show g < _; omega, fun j u hu => ?_⟩⟩, fun h => (by cases h), fun a ha => by cases ha; obtain ⟨cs, hc⟩ := O4.out.block_type g rfl; exact ⟨cs, (hb6 g hgl (by omega) (by omega)).trans hc⟩⟩, ⟨?_, ?_, ?_, by omega, fun j h1 h2 => ?_⟩⟩
    · rw [add_off]
      rw [Nat.zero_add]
      exact (World.cell?_of_block (w := w4) (a := ⟨g, j, none⟩) (hb6 g hgl (by omega) (by omega))).trans (HX.out _ _ hu)
    · exact HGR.out.os.trans (HO.out.1.trans B4.out.os)
    · exact HGR.out.tape.trans (HO.out.2.1.trans B4.out.tape)
    · exact HGR.out.output.trans (HO.out.2.2.trans B4.out.output)
    · exact (hb6 j (by omega) (by omega) h2).trans (B4.out.block j h1)
end Go.Proofs.Ytnooekflmjebiaa
