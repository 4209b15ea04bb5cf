/- An append to bytes, told with the row it came from: the elder slice keeps what it has. -/
import Derived.Test.YtkhopknpadncdaaSpoil
namespace Go.Proofs.Ytkhopknpadncdaa
open Go Go.RowKit Go.Maps Go.Proofs.YtkhopknpadncdaaW.PrintWords Go.Proofs.Ytkhopknpadncdaa.PDiskMemory Go.Proofs.YtkhopknpadncdaaW.PrintMore
set_option linter.unusedVariables false

/-- Where an append of one cell goes. -/
def AppTo (w : World) (e : TypeId) (v : Value) (n : Nat) (u v' : Value) (w' : World) : Prop :=
  (∃ g cap cur, v = .slice (some ⟨g, 0, none⟩) n cap ∧ v' = .slice (some ⟨g, 0, none⟩) (n + 1) cap ∧ n < cap ∧ w.heap[g]? = some (.cells cur e (0, 0)) ∧ w' = w.setRow g (cur.toList.take n ++ [u] ++ cur.toList.drop (n + 1)).toArray) ∨ (Below w.heap.size w w' ∧ v'.ownBlock = some w.heap.size)
section
variable {P : Program} (w : World)
theorem run_app1 (t ty e : TypeId) (i : TypeInfo) (z : Value) (ht : P.underlying t = some (.slice e)) (hi : P.info? e = some i) (hz : i.zero = some z) (hs : i.size = 1) (hzs : z.cells.size = 1)
    (v : Value) (n : Nat) (xs : List Value) (hown : w.ownsRow 0 e 1 v n xs) (a : Addr) (c : Nat) (u : Value) (hu : w.cell? a = some u) (h1 : u.oneCell' = true) (h63 : n + 1 ≤ maxLen) (hbytes : (n + 1) * i.bytes ≤ 140737488355328) :
    ∃ v' w', (Builtin.append_ #[t, t] ty #[v, .slice (some a) 1 c]).run P w = .ok v' w' ∧ w'.ownsRow 0 e 1 v' (n + 1) (xs ++ [u]) ∧ AppTo w e v n u v' w' := by
  have hlx : xs.length = n := by have := hown.1; omega
  have hlen : (xs ++ [u]).length = (n + 1) * 1 := by rw [List.length_append, hlx]; simp
  have hsmall : n + 1 ≤ 9223372036854775807 := by simp only [maxLen] at h63; omega
  have hnews : ∀ j y, [u][j]? = some y → w.cell? (a.add j) = some y := fun j y hj => by
    have hj0 : j = 0 := by
      have := (List.getElem?_eq_some_iff.1 hj).1
      simp at this
      exact this
    subst hj0
    injection hj with hj
    subst hj
    rw [show a.add 0 = a by unfold Addr.add; split <;> simp_all]
    exact hu
  have grown : ∀ (old : Nat), old < n + 1 →
      (w.drew.alloc (.cells (xs.toArray ++ [u].toArray ++ Builtin.zeroCells z.cells (grownCap w (n + 1) old e - (n + 1))) e)).ownsRow 0 e 1
        (.slice (some ⟨w.heap.size, 0, none⟩) (n + 1) (grownCap w (n + 1) old e)) (n + 1) (xs ++ [u]) ∧
      Below w.heap.size w (w.drew.alloc (.cells (xs.toArray ++ [u].toArray ++ Builtin.zeroCells z.cells (grownCap w (n + 1) old e - (n + 1))) e)) := by
    intro old ho
    have hge := grownCap_ge w (n + 1) old e
    have hcm : grownCap w (n + 1) old e ≤ maxLen := grownCap_le_maxLen w (n + 1) old e h63
    refine ⟨⟨hlen, .inr ⟨w.heap.size, _, _, rfl, Nat.zero_le _, heap_alloc_new w.drew _, hge, hcm, ?_, ?_⟩⟩, ⟨rfl, rfl, rfl, by simp, fun k hk => Below.heap_alloc w.drew _ k hk⟩⟩
    · simp only [Array.size_append, List.size_toArray, size_zeroCells, hzs, hlx, List.length_singleton]
      omega
    · simp only [Array.toList_append, List.append_assoc]
      rw [← List.append_assoc, ← hlen]
      exact List.take_left
  rcases hown.2 with ⟨rfl, rfl⟩ | ⟨g, cap, cur, rfl, hbg, hg, hnc, hcm, hcs, htake⟩
  · have hx : xs = [] := List.eq_nil_of_length_eq_zero hlx
    subst hx
    have hrun := run_append_nil (P := P) w t ty e i z ht hi hz a 1 c [u] (by rw [hs]; rfl) hnews (by decide) (by omega) (by have hb := hbytes; simp only [Nat.zero_add, Nat.one_mul] at hb ⊢; omega)
    have hgr := grown 0 (by omega)
    simp only [Nat.zero_add, List.nil_append, Array.empty_append] at hgr ⊢
    exact ⟨_, _, hrun, hgr.1, .inr ⟨hgr.2, rfl⟩⟩
  · by_cases hroom : n + 1 ≤ cap
    · have hfit : n * i.size + [u].length ≤ cur.size := by rw [hs, hcs, List.length_singleton]; omega
      have hrun := run_append_room (P := P) w t ty e i ht hi g n cap cur hg a 1 c [u] (by rw [hs]; rfl) hnews (fun y hy => by rw [List.mem_singleton.1 hy]; exact h1) hroom hfit
      rw [hs, Nat.mul_one] at hrun
      refine ⟨_, _, hrun, ⟨hlen, .inr ⟨g, cap, _, rfl, hbg, setRow_heap w g cur _ e _ hg, hroom, hcm, ?_, ?_⟩⟩, .inl ⟨g, cap, cur, rfl, rfl, by omega, hg, rfl⟩⟩
      · simp only [List.size_toArray, List.length_append, List.length_take, List.length_drop, Array.length_toList, List.length_singleton]
        omega
      · have ht' : cur.toList.take n = xs := by rw [← htake, Nat.mul_one]
        show List.take ((n + 1) * 1) (cur.toList.take n ++ [u] ++ cur.toList.drop (n + [u].length)) = xs ++ [u]
        rw [ht', ← hlen]
        exact List.take_left
    · have holds : ∀ j y, xs[j]? = some y → w.cell? ((⟨g, 0, none⟩ : Addr).add j) = some y := by
        intro j y hj
        rw [addr_zero, cell_of_row w g j cur e (0, 0) hg]
        rw [← htake, List.getElem?_take] at hj
        split at hj
        · simpa using hj
        · cases hj
      have hrun := run_append_grow (P := P) w t ty e i z ht hi hz ⟨g, 0, none⟩ n cap xs (by rw [hs]; exact hown.1) holds a 1 c [u] (by rw [hs]; rfl) hnews (by omega) (by omega) (growslice_fits (by omega) hbytes)
      have hgr := grown cap (by omega)
      exact ⟨_, _, hrun, hgr.1, .inr ⟨hgr.2, rfl⟩⟩
end
/-- The elder slice and the one that grew out of it. -/
def Grw (W : World) (S : Nat → Prop) (v0 : Value) (l0 : List Int) (v : Value) (m : List Int) : Prop := RB W S v0 l0 ∧ RB W S v (l0 ++ m)
theorem Grw.start {W : World} {S : Nat → Prop} {v : Value} {l : List Int} (h : RB W S v l) : Grw W S v l v [] := ⟨h, by rw [List.append_nil]; exact h⟩
theorem Grw.below {W W' : World} {S : Nat → Prop} {v0 v : Value} {l0 m : List Int} (h : Grw W S v0 l0 v m) (hb : Below W.heap.size W W') : Grw W' S v0 l0 v m := ⟨Kd.R_below h.1 hb, Kd.R_below h.2 hb⟩
def newer (W : World) (S : Nat → Prop) (b : Nat) : Prop := S b ∨ W.heap.size ≤ b
theorem grw_step {W w' : World} {S : Nat → Prop} {v0 v v' : Value} {l0 m : List Int} {x : Int} (h : Grw W S v0 l0 v m) (ho : w'.ownsRow 0 5 1 v' ((l0 ++ m).length + 1) (encs (Value.int .u8) (l0 ++ m) ++ [Value.int .u8 x])) (ha : AppTo W 5 v (l0 ++ m).length (Value.int .u8 x) v' w') :
    Grw w' (newer W S) v0 l0 v' (m ++ [x]) ∧ Tch S W w' := by
  obtain ⟨h0, h1⟩ := h
  have hr : RB w' (newer W S) v' (l0 ++ (m ++ [x])) := by
    rw [← List.append_assoc]
    refine Kd.R_of_own ?_ ?_
    · rw [List.length_append, List.length_singleton, show encs (Value.int .u8) (l0 ++ m ++ [x]) = encs (Value.int .u8) (l0 ++ m) ++ [.int .u8 x] by simp [encs]]
      exact ho
    · intro k hk
      rcases ha with ⟨g, cap, cur, rfl, rfl, _⟩ | ⟨_, hb⟩
      · exact .inl (h1.1 k hk)
      · rw [hb] at hk
        injection hk with hk
        exact .inr (Nat.le_of_eq hk)
  rcases ha with ⟨g, cap, cur, rfl, rfl, hlt, hg, rfl⟩ | ⟨hb, _⟩
  · have hS : S g := h1.1 g rfl
    have hT : Tch S W (W.setRow g (cur.toList.take (l0 ++ m).length ++ [Value.int .u8 x] ++ cur.toList.drop ((l0 ++ m).length + 1)).toArray) := ⟨rfl, rfl, rfl, by simp, fun k _ hk => setRow_other W g k _ (fun e => hk (by rw [e]; exact hS))⟩
    refine ⟨⟨?_, hr⟩, hT⟩
    have ho0 := Kd.own_of_R h0
    have ho1 := Kd.own_of_R h1
    rcases ho1.2 with ⟨hv, _⟩ | ⟨g1, cap1, cur1, hv, _, hg1, hnc1, _, hcs1, _⟩
    · cases hv
    · injection hv with e1 e2 e3
      injection e1 with e1
      injection e1 with e1
      subst e1
      subst e3
      rw [hg] at hg1
      injection hg1 with hg1
      injection hg1 with hg1
      subst hg1
      refine Kd.R_of_own ⟨ho0.1, ?_⟩ (fun k hk => .inl (h0.1 k hk))
      rcases ho0.2 with h2 | ⟨g0, c0, cur0, rfl, hz, hg0, hn0, hm0, hs0, ht0⟩
      · exact .inl h2
      · by_cases hgg : g0 = g
        · subst hgg
          rw [hg] at hg0
          injection hg0 with hg0
          injection hg0 with hg0
          subst hg0
          refine .inr ⟨g0, c0, _, rfl, hz, setRow_heap W g0 cur _ 5 _ hg, hn0, hm0, ?_, ?_⟩
          · simp only [List.size_toArray, List.length_append, List.length_take, List.length_drop, Array.length_toList, List.length_singleton] at hlt ⊢
            omega
          · rw [← ht0]
            show List.take (l0.length * 1) (cur.toList.take (l0 ++ m).length ++ [Value.int .u8 x] ++ cur.toList.drop ((l0 ++ m).length + 1)) = _
            have hcz : cur.toList.length = cur.size := Array.length_toList
            have hlm : (l0 ++ m).length = l0.length + m.length := List.length_append
            rw [List.append_assoc, List.take_append_of_le_length (by rw [List.length_take]; omega), List.take_take, Nat.min_eq_left (by omega)]
        · exact .inr ⟨g0, c0, cur0, rfl, hz, (setRow_other W g g0 _ hgg).trans hg0, hn0, hm0, hs0, ht0⟩
  · exact ⟨⟨Kd.R_mono (Kd.R_below h0 hb) (fun k hk => .inl hk), hr⟩, Tch.of_below hb⟩
section
variable {P : Program} {ops : Array Oper} {rest : List Oper} {o : Oper} {a : Act} {Q : Exit → Act → World → Prop}
/-- append(g, x) at bytes, behind 'at_builtin'; the goal's world is 'W.alloc' of the variadic's box. -/
theorem wpList_grw {W : World} {S : Nat → Prop} (hgd : o.guard = none) (s y : Operand) (t : TypeId)
    (ho : o.op = .call { callee := .builtin .append, args := #[s, y], argTypes := #[t, t] })
    (ht : P.underlying t = some (.slice 5)) (hinfo : (P.info? 5).map (fun i => (i.zero, i.size, i.bytes)) = some (some (.int .u8 0), 1, 1))
    (v0 v : Value) (l0 m : List Int) (x : Int) (hs : a.eval s = v) (hy : a.eval y = .slice (some ⟨W.heap.size, 0, none⟩) 1 1) (H : Grw W S v0 l0 v m) (hl : (l0 ++ m).length + 1 ≤ 140737488355328)
    (h : ∀ v' w', Grw w' (newer W S) v0 l0 v' (m ++ [x]) → Tch S W w' → wpList P ops Q rest (a.put o.dst v') w') :
    wpList P ops Q (o :: rest) a (W.alloc (.cells #[.int .u8 x] 5)) := by
  obtain ⟨i, hi, hz, hsz, hby⟩ := info_parts hinfo
  have hbl : Below W.heap.size W (W.alloc (.cells #[.int .u8 x] 5)) := (Below.refl _ _).alloc (Nat.le_refl _) _
  have H1 := H.below hbl
  have hc : (W.alloc (.cells #[.int .u8 x] 5)).cell? ⟨W.heap.size, 0, none⟩ = some (.int .u8 x) := (blk_cell (heap_alloc_new W (.cells #[.int .u8 x] 5)) 0).trans rfl
  obtain ⟨v', w', hrun, h2, h3⟩ := run_app1 (P := P) (W.alloc (.cells #[.int .u8 x] 5)) t o.type 5 i (.int .u8 0) ht hi hz hsz rfl v (l0 ++ m).length (encs (Value.int .u8) (l0 ++ m)) (Kd.own_of_R H1.2) ⟨W.heap.size, 0, none⟩ 1 (.int .u8 x) hc rfl (by unfold maxLen; omega) (by rw [hby]; omega)
  obtain ⟨h4, h5⟩ := grw_step H1 h2 h3
  have hT : Tch S W w' := (Tch.of_below hbl).trans h5
  refine wpList_plain hgd fun K hK => ?_
  unfold Oper.wp execOp
  simp only [ho, resolve, invoke, builtin, Sem.run_bind, Sem.run_pure, Result.andThen_ok, List.map_toArray, List.map_cons, List.map_nil, hs, hy, hrun]
  refine hK _ _ (h v' w' ⟨Kd.R_mono h4.1 (fun k hk => hk.imp id (fun h => Nat.le_trans hbl.size h)), Kd.R_mono h4.2 (fun k hk => hk.imp id (fun h => Nat.le_trans hbl.size h))⟩ hT)
end
end Go.Proofs.Ytkhopknpadncdaa
