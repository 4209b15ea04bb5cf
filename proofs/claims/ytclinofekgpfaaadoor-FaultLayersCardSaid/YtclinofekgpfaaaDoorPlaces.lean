/- fault.Places: a new slice of the places. -/
import Derived.Test.YtclinofekgpfaaaDoorAs3
import Derived.Test.YtclinofekgpfaaaDoorWrap
namespace Go.Proofs.YtclinofekgpfaaaDoor
open Go Go.RowKit
set_option linter.unusedVariables false

theorem int_info : (Tryd.prog.info? 3).map (fun i => (i.zero, i.size, i.bytes)) = some (some (.int .i64 0), 1, 8) := by kernel_rfl

/-- 'append(out, x)' of one int. -/
theorem wpList_push_int {ops : Array Oper} {rest : List Oper} {o : Oper} {a : Act} {Q : Exit → Act → World → Prop} (hgd : o.guard = none) (s x : Operand)
    (ho : o.op = .call { callee := .builtin .append, args := #[s, x], argTypes := #[22, 22] })
    (W : World) (B : Nat) (hB : B ≤ W.heap.size) (v : Value) (xs : List Int) (n : Nat) (e : Int) (hs : a.eval s = v) (hx : a.eval x = .slice (some ⟨W.heap.size, 0, none⟩) 1 1) (hown : Owns W B 3 1 v n (xs.map (Value.int .i64)))
    (hroom : (n + 1) * 8 ≤ 140737488355328)
    (h : ∀ v' w', Owns w' B 3 1 v' (n + 1) ((xs ++ [e]).map (Value.int .i64)) → Kept (fun k => v.ownBlock = some k) W w' → (∀ k, v'.ownBlock = some k → v.ownBlock = some k ∨ W.heap.size ≤ k) → wpList Tryd.prog ops Q rest (a.put o.dst v') w') :
    wpList Tryd.prog ops Q (o :: rest) a (W.alloc (.cells #[.int .i64 e] 3)) := by
  obtain ⟨i0, hi, hz0, hz1, hz2⟩ := info_parts int_info
  have hk : Kept (fun k => v.ownBlock = some k) W (W.alloc (.cells #[.int .i64 e] 3)) := (Kept.refl _ W).alloc _
  have hk0 : Kept (fun _ => False) W (W.alloc (.cells #[.int .i64 e] 3)) := (Kept.refl _ W).alloc _
  refine wpList_app _ hgd s x 22 ho B 3 i0 _ 1 8 Tryd.underlying22 hi hz0 hz1 hz2 rfl (by decide) v n (xs.map (Value.int .i64)) hs (hown.kept hk0 (fun _ _ h => h)) (some ⟨W.heap.size, 0, none⟩) 1 1 [.int .i64 e] hx ⟨rfl, fun _ => ⟨_, rfl, by simp, fun j u hu => ?_⟩⟩ ?_ (by simp only [maxLen]; omega) (by omega) (by simp; omega) ?_
  · rw [add_zero']
    have h := cell_of_row _ W.heap.size j _ _ _ (heap_alloc_new W (.cells #[.int .i64 e] 3))
    rw [h, ← Array.getElem?_toList]
    exact hu
  · intro u hu
    simp at hu
    subst hu
    rfl
  · intro v' w' h1 h2 h3
    rw [← show ((xs ++ [e]).map (Value.int .i64)) = xs.map (Value.int .i64) ++ [.int .i64 e] by simp] at h1
    exact h v' w' h1 (hk.trans ⟨h2.os, h2.tape, h2.output, h2.size, h2.block⟩) (fun k hk => (h3 k hk).imp id (fun h => by simp at h; omega))

theorem Owns.irow {w : World} {B c : Nat} {A : Option Addr} {xs : List Int} (h : Owns w B 3 1 (.slice A xs.length c) xs.length (xs.map (Value.int .i64))) : IRow w A xs := fun hn => by
  obtain ⟨g, cap, hv, _, hg, _, _, hx⟩ := h.form hn
  injection hv with e1
  exact ⟨g, 0, e1, hg, fun i x hi => by rw [Nat.zero_add]; exact hx i _ (by rw [List.getElem?_map, hi]; rfl)⟩

/-- A new row of ints. -/
def IntRow (w : World) (ps : List Int) (r : Ending) (w' : World) : Prop := ∃ v, r = .returned v ∧ Owns w' w.heap.size 3 1 v ps.length (ps.map (Value.int .i64)) ∧ Below w.heap.size w w'

/-- The loop of Places: what is still to come, what has been told. -/
structure PL (w wr : World) (e : Int) (ps done qs : List Int) (v out : Value) : Prop where
  ch : Chain wr w.heap.size e qs v
  own : Owns wr (w.heap.size + 1) 3 1 out done.length (done.map (Value.int .i64))
  all : done ++ qs = ps
  bel : Below w.heap.size w wr
  lt : w.heap.size < wr.heap.size

set_option maxHeartbeats 2000000 in
theorem places_any (w : World) (e : Int) (ps : List Int) (v : Value) (hc : Chain w w.heap.size e ps v) (hm : ps.length * 8 ≤ 140737488355328) (hg : Laid w) :
    Calls Tryd.prog 11 #[v] w (IntRow w ps) := by
  have hb1 : Below w.heap.size w (w.alloc (.cells #[.pointer none] 43)) := (Below.refl _ _).alloc (Nat.le_refl _) _
  have P0 : Hid (PL w (w.alloc (.cells #[.pointer none] 43)) e ps [] ps v (.slice none 0 0)) := ⟨hc.below hb1, Owns.nil _ _ _ _, rfl, hb1, by simp⟩
  have HG := Lib.hid hg
  have T0 : Hid ((w.alloc (.cells #[.pointer none] 43)).cell? ⟨w.heap.size, 0, none⟩ = some (.pointer none) ∧ (w.alloc (.cells #[.pointer none] 43)).frozen? ⟨w.heap.size, 0, none⟩ = false) := ⟨by simp, by simp⟩
  clear hc hb1 hg
  go_enter Tryd.func11, Tryd.ntmps11
  go_wp2_with fail
  generalize w.alloc (.cells #[.pointer none] 43) = W1 at *
  go_loopg [0, 3] ps.length (fun k v' out wr => ∃ done qs : List Int, qs.length = k ∧ PL w wr e ps done qs v' out ∧ ∃ q, wr.cell? ⟨w.heap.size, 0, none⟩ = some (.pointer q) ∧ wr.frozen? ⟨w.heap.size, 0, none⟩ = false)
  case atStart => exact ⟨[], ps, rfl, P0.out, none, T0.out.1, T0.out.2⟩
  case round =>
    obtain ⟨done, qs, hk, hpl, q, hq, hf⟩ := hrel
    have PLH := Lib.hid hpl
    have HQ := Lib.hid hq
    have HF := Lib.hid hf
    have hlen : done.length + qs.length = ps.length := by rw [← hpl.all, List.length_append]
    have LG : Hid (Laid wr) := HG.out.below hpl.bel HG.out.lt
    have hlt := hpl.lt
    cases qs with
    | nil =>
      obtain rfl : u0 = .iface 27 (.int .i64 e) := hpl.ch
      obtain ⟨A, c, rfl⟩ := hpl.own.slice
      clear hpl hq hf
      go_wp2_with (first | (go_at_call 20; refine (as20_miss wr w.heap.size LG.out e).mono ?_; rintro r w' ⟨rfl, hb⟩; have HB := Lib.hid hb; clear hb))
      go_ret
      refine ⟨_, rfl, ?_, (PLH.out.bel).trans (HB.out.mono PLH.out.bel.size)⟩
      have hall := PLH.out.all
      rw [List.append_nil] at hall
      rw [← hall]
      exact (PLH.out.own.kept (S := fun _ => False) (Kept.of_below HB.out) (fun _ _ h => h)).mono (Nat.le_succ _)
    | cons p qs =>
      obtain ⟨b, u, rfl, hbl, hb, hcu⟩ := hpl.ch
      have HCU := Lib.hid hcu
      have HBB := Lib.hid hb
      obtain ⟨A, c, rfl⟩ := hpl.own.slice
      simp only [List.length_cons] at hk hlen
      clear hpl hq hf hb hcu
      go_wp2_with (first
        | (go_at_call 20; refine (as20_hit wr w.heap.size (.pointer q) HQ.out HF.out PLH.out.lt LG.out b).mono ?_; rintro r w2 ⟨rfl, hc2, hfz, hkk⟩; have HFZ := Lib.hid hfz; have hb2 := (hkk.block b (Nat.lt_trans hbl hlt) (by omega)).trans HBB.out; have c0 := cell_of_row w2 b 0 _ _ _ hb2; have c1 := cell_of_row w2 b 1 _ _ _ hb2; have HB2 := Lib.hid hb2; have HK := Lib.hid hkk; have HC := Lib.hid hc2; have OWN := Lib.hid (PLH.out.own.kept hkk fun k hk h => by have := (PLH.out.own.lt k hk).1; omega); have hsz : w.heap.size + 1 ≤ w2.heap.size := Nat.le_trans PLH.out.lt hkk.size; clear hkk hb2 hfz) | (at_builtin; (refine wpList_push_int rfl _ _ rfl w2 (w.heap.size + 1) hsz (.slice A done.length c) done done.length p rfl rfl OWN.out (by omega) ?_)))
      intro v4 w4 hown4 hk4 hs4
      have hne : ∀ k, k < w.heap.size + 1 → ¬ (Value.slice A done.length c).ownBlock = some k := fun k hk h => absurd (OWN.out.lt k h).1 (by omega)
      have e2 := hk4.block w.heap.size (by omega) (hne _ (by omega))
      have c2 : w4.cell? ⟨w.heap.size, 0, none⟩ = some (.pointer (some ⟨b, 0, none⟩)) := (World.cell?_of_block (w := w2) (a := ⟨w.heap.size, 0, none⟩) e2).trans HC.out
      have F2 : Hid (w4.frozen? ⟨w.heap.size, 0, none⟩ = false) := by
        have h1 := HFZ.out
        simp only [World.frozen?] at h1 ⊢
        show _ = _
        rw [e2]
        exact h1
      have b4 := (hk4.block b (by omega) (hne _ (by omega))).trans HB2.out
      have c3 := cell_of_row w4 b 1 _ _ _ b4
      have C2 := Lib.hid c2
      have OWN4 := Lib.hid hown4
      have HK4 := Lib.hid hk4
      have hlen1 : (done ++ [p]).length = done.length + 1 := by simp
      have HL1 := Lib.hid hlen1
      have BW : Hid (Below w.heap.size wr w4) := (HK.out.below (Nat.le_of_lt PLH.out.lt) (fun k hk => by omega)).trans (HK4.out.below (by omega) (fun k hk => by have := (OWN.out.lt k hk).1; omega))
      clear hown4 hk4 hs4 b4 hne e2 hlen1
      go_wp2_with fail
      go_roundg qs.length
      case measure => omega
      case rel =>
        refine ⟨done ++ [p], qs, rfl, ⟨?_, ?_, ?_, ?_, ?_⟩, _, C2.out, F2.out⟩
        · exact HCU.out.below BW.out
        · rw [HL1.out, List.map_append]; exact OWN4.out
        · rw [List.append_assoc]; exact PLH.out.all
        · exact PLH.out.bel.trans BW.out
        · have := HK4.out.size; omega
end Go.Proofs.YtclinofekgpfaaaDoor
