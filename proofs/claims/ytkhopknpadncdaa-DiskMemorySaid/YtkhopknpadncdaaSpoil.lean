/- Spoil by hand: also what a longer slice over the same row has then. -/
import Derived.Test.YtkhopknpadncdaaSep
import Derived.Test.YtkhopknpadncdaaMemP
namespace Go.Proofs.Ytkhopknpadncdaa
open Go Go.RowKit Go.Maps Go.Proofs.YtkhopknpadncdaaW.PrintWords Go.Proofs.Ytkhopknpadncdaa.PDiskMemory Go.Proofs.YtkhopknpadncdaaW.PrintMore
set_option linter.unusedVariables false

section
variable {W w1 : World} {base : Nat} {k : IntKind} {e : Nat} {ok : Nat → Prop}
/-- A number stored into a row. -/
theorem int_set {g n cap : Nat} {xs : List Int} (h : (Kd.int k).R e W base ok (.slice (some ⟨g, 0, none⟩) n cap) xs) {j : Nat} (hj : j < n) (z : Int) :
    (Kd.int k).R e (W.setCell ⟨g, j, none⟩ (.int k z)) base ok (.slice (some ⟨g, 0, none⟩) n cap) (xs.set j z) ∧ W.grownBy (W.setCell ⟨g, j, none⟩ (.int k z)) (some g) := by
  obtain ⟨c, hcl, _, hcc, _⟩ := Kd.R_elem h 0 (j : Int) (by omega) (by omega)
  have hcl' : c.length = 1 := hcl
  have hd : c.drop 1 = [] := List.drop_eq_nil_of_le (by omega)
  have := Kd.R_seg h (j : Int) (by omega) (by omega) (c := c) (seg := [.int k z]) (j := 0) (x' := z) (okp := fun _ => False) hcl hcc (Nat.le_refl 1) (by
    show c.take 0 ++ [Value.int k z] ++ c.drop (0 + 1) = [Value.int k z]
    rw [Nat.zero_add, hd]
    rfl) (fun _ h => h.elim)
  rw [Int.toNat_natCast, show j * (Kd.int k).sz + 0 = j by show j * 1 + 0 = j; omega] at this
  exact this
/-- A number of a row, read. -/
theorem int_get {g n cap : Nat} {xs : List Int} (h : (Kd.int k).R e W base ok (.slice (some ⟨g, 0, none⟩) n cap) xs) {j : Nat} (hj : j < n) :
    W.cell? ⟨g, j, none⟩ = some (.int k (xs.getD j 0)) ∧ W.frozen? ⟨g, j, none⟩ = false ∧ g < W.heap.size := by
  obtain ⟨c, hcl, hM, hcc, hfr⟩ := Kd.R_elem h 0 (j : Int) (by omega) (by omega)
  rw [Int.toNat_natCast] at hM hcc hfr
  have hM' : c = [Value.int k (xs.getD j 0)] := hM
  subst hM'
  have h0 := hcc 0 _ rfl
  have f0 := hfr 0
  rw [show j * (Kd.int k).sz + 0 = j by show j * 1 + 0 = j; omega] at h0 f0
  exact ⟨h0, f0, World.block_lt_of_cell? W _ h0⟩
end
theorem grown_trans {a b c : World} {row : Option Nat} (h : a.grownBy b row) (k : b.grownBy c row) : a.grownBy c row :=
  ⟨k.os.trans h.os, k.tape.trans h.tape, k.output.trans h.output, Nat.le_trans h.size k.size, fun i hi hr => (k.block i (Nat.lt_of_lt_of_le hi h.size) hr).trans (h.block i hi hr)⟩
theorem grown_drew {a b : World} {row : Option Nat} (h : a.grownBy b row) : a.grownBy b.drew row := grown_trans h (grown_of_below (below_drew (Below.refl _ _)) _)
/-- The first j bytes turned. -/
def turnTo (l : List Int) (j : Nat) : List Int := (l.take j).map turn ++ l.drop j
theorem turnTo_zero (l : List Int) : turnTo l 0 = l := by unfold turnTo; simp
theorem turnTo_all (l : List Int) : turnTo l l.length = l.map turn := by unfold turnTo; simp
theorem turnTo_len (l : List Int) (j : Nat) : (turnTo l j).length = l.length := by unfold turnTo; rw [List.length_append, List.length_map, List.length_take, List.length_drop]; omega
theorem turnTo_at {l : List Int} {j : Nat} (h : j < l.length) : (turnTo l j).getD j 0 = l[j] := by
  unfold turnTo
  rw [List.getD_eq_getElem?_getD, List.getElem?_append_right (by rw [List.length_map, List.length_take]; omega), List.length_map, List.length_take, Nat.min_eq_left (by omega), Nat.sub_self, List.drop_eq_getElem_cons h]
  rfl
theorem turnTo_set {l : List Int} {j : Nat} (h : j < l.length) : (turnTo l j).set j (turn l[j]) = turnTo l (j + 1) := by
  unfold turnTo
  rw [List.set_append_right _ _ (by rw [List.length_map, List.length_take]; omega), List.length_map, List.length_take, Nat.min_eq_left (by omega), Nat.sub_self, List.drop_eq_getElem_cons h, ← List.take_append_getElem h, List.map_append, List.append_assoc]
  rfl
/-- A longer slice over the same row: its first bytes are turned too, the others stay. -/
def Over (W W' : World) (v : Value) (l l' : List Int) : Prop := ∀ (S1 : Nat → Prop) (v1 : Value) (m : List Int), v1.ownBlock = v.ownBlock → RB W S1 v1 (l ++ m) → RB W' S1 v1 (l' ++ m)
def SpoilPost (W : World) (S : Nat → Prop) (v : Value) (l : List Int) (e : Ending) (W' : World) : Prop := e = .returned (.tuple #[]) ∧ RB W' S v (l.map turn) ∧ W.grownBy W' v.ownBlock ∧ Over W W' v l (l.map turn)
theorem over_step {W Wr : World} {v : Value} {g : Nat} {l l1 : List Int} (hv : v.ownBlock = some g) (h : Over W Wr v l l1) {j : Nat} (hj : j < l1.length) (z : Int) : Over W (Wr.setCell ⟨g, j, none⟩ (.int .u8 z)) v l (l1.set j z) := fun S1 v1 m h1 h2 => by
  have h3 := h S1 v1 m h1 h2
  have hn : 0 < (l1 ++ m).length := by rw [List.length_append]; omega
  obtain ⟨g', cap, rfl, _⟩ := Kd.R_form h3 hn
  have : g' = g := by rw [hv] at h1; simpa [Value.ownBlock] using h1
  subst this
  have h4 := (int_set h3 (j := j) (by rw [List.length_append]; omega) z).1
  rw [List.set_append_left _ _ hj] at h4
  exact h4
theorem over_drew {W Wr : World} {v : Value} {l l1 : List Int} (h : Over W Wr v l l1) : Over W Wr.drew v l l1 := fun S1 v1 m h1 h2 => Kd.R_drew (h S1 v1 m h1 h2)
set_option maxRecDepth 100000 in
theorem spoil_any (W : World) (S : Nat → Prop) (v : Value) (l : List Int) (h : RB W S v l) : Calls Try.prog 15 #[v] W (SpoilPost W S v l) := by
  obtain ⟨A, c, rfl⟩ := Kd.R_slice h
  have hlm : l.length ≤ 9223372036854775807 := (Kd.R_reads' h).2.2.2.1
  have H := Lib.hid h
  clear h
  go_enter Try.func15, Try.ntmps15
  go_wp2
  go_loopw [2] (fun i Wr => ∃ j : Nat, j ≤ l.length ∧ i = .int .i64 j ∧ Hid (RB Wr S (.slice A l.length c) (turnTo l j)) ∧ Hid (W.grownBy Wr (Value.slice A l.length c).ownBlock) ∧ Hid (Over W Wr (.slice A l.length c) l (turnTo l j))) (fun i _ => l.length - (intOf i).toNat)
  case atStart => exact ⟨0, Nat.zero_le _, rfl, by rw [turnTo_zero]; exact H, grown_of_below (Below.refl _ _) _, by rw [turnTo_zero]; exact fun _ _ _ _ h => h⟩
  case round =>
    obtain ⟨j, hj, rfl, HR, HG, HO⟩ := hrel
    by_cases hlt : j < l.length
    · have hlen := turnTo_len l j
      obtain ⟨g, cap, hv, _, hg, _⟩ := Kd.R_form HR.out (by omega)
      have hv' : A = some ⟨g, 0, none⟩ := by injection hv
      subst hv'
      clear hv
      obtain ⟨c0, f0, _⟩ := int_get HR.out hlt
      rw [turnTo_at hlt] at c0
      have HN := Lib.hid (int_set HR.out hlt (turn l[j]))
      have HV := Lib.hid (over_step rfl HO.out (by omega) (turn l[j]) (j := j))
      rw [turnTo_set hlt] at HN HV
      clear hlen
      generalize l[j] = x at c0 HN HV
      go_wp2
      go_roundw
      case rel => exact ⟨j + 1, by omega, by go_num, by first | exact HN.out.1 | exact Kd.R_drew HN.out.1, by first | exact grown_trans HG.out HN.out.2 | exact grown_drew (grown_trans HG.out HN.out.2), by first | exact HV.out | exact over_drew HV.out⟩
      case measure => simp [intOf]; omega
    · obtain rfl : j = l.length := by omega
      have HE : Hid (SpoilPost W S (.slice A l.length c) l (.returned (.tuple #[])) wr) := by
        have h1 := HR.out
        have h2 := HO.out
        rw [turnTo_all] at h1 h2
        exact ⟨rfl, h1, HG.out, h2⟩
      go_wp2
      first | go_end0 | ((try simp only [Exit.inBlock, Exit.then]); refine bodyPost_ret (results_none rfl _ _ _) rfl ?_)
      exact HE.out
end Go.Proofs.Ytkhopknpadncdaa
