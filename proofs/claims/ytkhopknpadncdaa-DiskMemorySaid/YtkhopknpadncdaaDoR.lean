/- DiskMemory: the reference's units, do, Do at an append without a plan. -/
import Derived.Test.YtkhopknpadncdaaDoP
import Derived.Test.YtkhopknpadncdaaSep
import Derived.Deep.RegionHeld3
namespace Go.Proofs.Ytkhopknpadncdaa
open Go Go.RowKit Go.Maps Go.Proofs.YtkhopknpadncdaaW.PrintWords Go.Proofs.Ytkhopknpadncdaa.PDiskMemory Go.Proofs.YtkhopknpadncdaaW.PrintMore
set_option linter.unusedVariables false

abbrev kU := k109
abbrev SU := S109
abbrev kG := k94
abbrev RU (W : World) (base : Nat) (v : Value) (l : List SU) : Prop := kU.R 109 W base (fun _ => True) v l
theorem units_start (W : World) : RU (W.alloc (.cells #[] 109)) W.heap.size (.slice (some ⟨W.heap.size, 0, none⟩) 0 0) [] :=
  ⟨fun k hk => trivial, [], ⟨by simp, .inr ⟨W.heap.size, 0, #[], rfl, Nat.le_refl _, heap_alloc_new _ _, Nat.le_refl _, by decide, by simp, by simp⟩⟩, ⟨by simp, fun j p hj => by simp at hj⟩⟩
def UnitsPost (W : World) (nm : ByteArray) (sv : Value) (l : List SU) (e : Ending) (W' : World) : Prop := ∃ v, e = .returned (.agg #[.string nm, sv, v]) ∧ RU W' W.heap.size v l ∧ Below W.heap.size W W'
theorem info_unit : (Try.prog.info? 109).map (fun i => (i.zero, i.size, i.bytes)) = some (some (.agg #[.bool false, .int .i64 0, .int .u8 0]), 3, 24) := by kernel_rfl
/-- The frame's two blocks stand, and what is made is of another type. -/
theorem units_blk {Wr w1 : World} {base g : Nat} {v : Value} {l : List SU} {cs : Array Value} (hr : RU Wr base v l) (hb : Wr.heap[g]? = some (.cells cs 94 (0, 0))) (hg : Wr.grownBy w1 v.ownBlock) : w1.heap[g]? = some (.cells cs 94 (0, 0)) :=
  blk_grown hb hg (Kd.R_ne hr hb (by decide))
set_option maxRecDepth 100000 in
set_option maxHeartbeats 2000000 in
theorem units_any (W : World) (nm : ByteArray) (As A B : Option Addr) (ns cs n c m q : Nat) (l more : List SU) (hA : kU.C W A n l) (hc : n ≤ c) (hB : kU.C W B m more) (hq : m ≤ q) (hl : (n + m) * 24 ≤ 140737488355328) :
    Calls Try.prog 72 #[.agg #[.string nm, .slice As ns cs, .slice A n c], .slice B m q] W (UnitsPost W nm (.slice As ns cs) (l ++ more)) := by
  have hn : n = l.length := (Kd.C_len hA).symm
  have hm : m = more.length := (Kd.C_len hB).symm
  subst hn
  subst hm
  have HA := Lib.hid hA
  have HBB := Lib.hid hB
  obtain ⟨W1, hW1⟩ : ∃ W1, W1 = (W.alloc (.cells #[.string nm, .slice As ns cs, .slice A l.length c] 94)).alloc (.cells #[.string ⟨#[]⟩, .slice none 0 0, .slice none 0 0] 94) := ⟨_, rfl⟩
  have hsz : W1.heap.size = W.heap.size + 2 := by rw [hW1]; simp
  have hb1 : Below W.heap.size W W1 := by rw [hW1]; exact ((Below.refl _ _).alloc (Nat.le_refl _) _).alloc (by simp) _
  have x0 : W1.heap[W.heap.size]? = some (.cells #[.string nm, .slice As ns cs, .slice A l.length c] 94 (0, 0)) := by
    rw [hW1]; exact (Below.heap_alloc _ _ _ (by simp)).trans (heap_alloc_new _ _)
  have x1 : W1.heap[W.heap.size + 1]? = some (.cells #[.string ⟨#[]⟩, .slice none 0 0, .slice none 0 0] 94 (0, 0)) := by
    have h := heap_alloc_new (W.alloc (.cells #[.string nm, .slice As ns cs, .slice A l.length c] 94)) (.cells #[.string ⟨#[]⟩, .slice none 0 0, .slice none 0 0] 94)
    rw [World.size_alloc] at h
    rw [hW1]; exact h
  have HS := Lib.hid (units_start W1)
  have hb2 : Below W1.heap.size W1 (W1.alloc (.cells #[] 109)) := (Below.refl _ _).alloc (Nat.le_refl _) _
  have HX0 := Lib.hid (blk_below x0 hb2)
  have HX1 := Lib.hid (blk_below x1 hb2)
  have HB1 : Hid (Below W.heap.size W (W1.alloc (.cells #[] 109))) := hb1.trans (hb2.mono hb1.size)
  rw [hsz] at HS
  have HW1 := Lib.hid hW1
  have HSZ := Lib.hid hsz
  have HBS := Lib.hid hb1.size
  clear hA hB x0 x1 hb1 hb2 hW1 hsz
  go_enter Try.func72, Try.ntmps72
  go_wp2_with fail
  rw [← HW1.out]
  go_loopw [5, 6] (fun v i Wr => ∃ j : Nat, j ≤ l.length ∧ i = .int .i64 j ∧ Hid (RU Wr W.heap.size v (l.take j)) ∧ Hid (Below W.heap.size W Wr) ∧ Hid (Wr.heap[W.heap.size]? = some (.cells #[.string nm, .slice As ns cs, .slice A l.length c] 94 (0, 0))) ∧ Hid (Wr.heap[W.heap.size + 1]? = some (.cells #[.string ⟨#[]⟩, .slice none 0 0, .slice none 0 0] 94 (0, 0)))) (fun _ i _ => l.length - (intOf i).toNat)
  case atStart => exact ⟨0, Nat.zero_le _, rfl, Kd.R_lower HS.out (by have := HSZ.out; omega), HB1.out, HX0.out, HX1.out⟩
  case round =>
    obtain ⟨j, hj, rfl, HR, HB, HX0, HX1⟩ := hrel
    have b2 := (blk_cell HX0.out 2).trans rfl
    by_cases hlt : j < l.length
    · obtain ⟨ad, rfl, k0, k1, k2⟩ := at_T109 (Kd.C_below HA.out HB.out) (j : Int) (by omega) (by omega)
      rw [Int.toNat_natCast] at k0 k1 k2
      have hx : rd_T109 l (j : Int) = l[j] := by unfold rd_T109; rw [Int.toNat_natCast, List.getD_eq_getElem?_getD, List.getElem?_eq_getElem hlt]; rfl
      have hts := List.take_append_getElem hlt
      rw [hx] at k0 k1 k2
      generalize l[j] = x at k0 k1 k2 hts
      have HTS := Lib.hid hts
      have HLL := Lib.hid (show (l.take j).length = j by rw [List.length_take]; omega)
      clear hx hts
      obtain ⟨Av, cv, ev⟩ := Kd.R_slice HR.out
      rw [HLL.out] at ev
      subst ev
      have HSW := Lib.hid HB.out.size
      go_wp2_with (at_builtin; refine Kd.R_append kU (w0 := W) W.heap.size rfl _ _ 92 109 (.agg #[.bool false, .int .i64 0, .int .u8 0]) 24 rfl Try.underlying92 info_unit rfl (by decide) (by decide) (.slice Av j cv) (l.take j) x [.bool x.f0, .int .i64 x.f1, .int .u8 x.f2] (fun _ => True) (fun _ => False) rfl rfl (k109_mkM _ _ _ x) (fun _ h => h.elim) (fun _ _ => trivial) HR.out HB.out HSW.out (by rw [HLL.out]; omega) ?_; intro v1 w1 hr hb hg hat; have HR2 := Lib.hid hr; have HB2 := Lib.hid hb; have HY0 := Lib.hid (units_blk HR.out HX0.out hg); have HY1 := Lib.hid (units_blk HR.out HX1.out hg); clear hr hb hg hat)
      go_roundw
      case rel => exact ⟨j + 1, by omega, by go_num, by rw [← HTS.out]; exact HR2.out, HB2.out, HY0.out, HY1.out⟩
      case measure => simp [intOf]; omega
    · have hr := HR.out
      rw [List.take_of_length_le (show l.length ≤ j by omega)] at hr
      have HR3 := Lib.hid hr
      clear hr HR
      go_wp2_with fail
      go_loopw [5, 7] (fun v i Wr => ∃ j : Nat, j ≤ more.length ∧ i = .int .i64 j ∧ Hid (RU Wr W.heap.size v (l ++ more.take j)) ∧ Hid (Below W.heap.size W Wr) ∧ Hid (Wr.heap[W.heap.size]? = some (.cells #[.string nm, .slice As ns cs, .slice A l.length c] 94 (0, 0))) ∧ Hid (Wr.heap[W.heap.size + 1]? = some (.cells #[.string ⟨#[]⟩, .slice none 0 0, .slice none 0 0] 94 (0, 0)))) (fun _ i _ => more.length - (intOf i).toNat)
      case atStart => exact ⟨0, Nat.zero_le _, rfl, by rw [List.take_zero, List.append_nil]; exact HR3, HB, HX0, HX1⟩
      case round =>
        clear b2 HX0 HX1 HB HR3
        obtain ⟨j2, hj2, rfl, HR, HB, HX0, HX1⟩ := hrel
        by_cases hlt : j2 < more.length
        · obtain ⟨ad, rfl, k0, k1, k2⟩ := at_T109 (Kd.C_below HBB.out HB.out) (j2 : Int) (by omega) (by omega)
          rw [Int.toNat_natCast] at k0 k1 k2
          have hx : rd_T109 more (j2 : Int) = more[j2] := by unfold rd_T109; rw [Int.toNat_natCast, List.getD_eq_getElem?_getD, List.getElem?_eq_getElem hlt]; rfl
          have hts := List.take_append_getElem hlt
          rw [hx] at k0 k1 k2
          generalize more[j2] = x at k0 k1 k2 hts
          have HTS : Hid (l ++ more.take j2 ++ [x] = l ++ more.take (j2 + 1)) := by show _ = _; rw [List.append_assoc, hts]
          have HLL := Lib.hid (show (l ++ more.take j2).length = l.length + j2 by rw [List.length_append, List.length_take]; omega)
          clear hx hts
          obtain ⟨Av, cv, ev⟩ := Kd.R_slice HR.out
          rw [HLL.out] at ev
          subst ev
          have HSW := Lib.hid HB.out.size
          go_wp2_with (at_builtin; refine Kd.R_append kU (w0 := W) W.heap.size rfl _ _ 92 109 (.agg #[.bool false, .int .i64 0, .int .u8 0]) 24 rfl Try.underlying92 info_unit rfl (by decide) (by decide) (.slice Av (l.length + j2) cv) (l ++ more.take j2) x [.bool x.f0, .int .i64 x.f1, .int .u8 x.f2] (fun _ => True) (fun _ => False) rfl rfl (k109_mkM _ _ _ x) (fun _ h => h.elim) (fun _ _ => trivial) HR.out HB.out HSW.out (by rw [HLL.out]; omega) ?_; intro v1 w1 hr hb hg hat; have HR2 := Lib.hid hr; have HB2 := Lib.hid hb; have HY0 := Lib.hid (units_blk HR.out HX0.out hg); have HY1 := Lib.hid (units_blk HR.out HX1.out hg); clear hr hb hg hat)
          go_roundw
          case rel => exact ⟨j2 + 1, by omega, by go_num, by rw [← HTS.out]; exact HR2.out, HB2.out, HY0.out, HY1.out⟩
          case measure => simp [intOf]; omega
        · have hr := HR.out
          rw [List.take_of_length_le (show more.length ≤ j2 by omega)] at hr
          have HR3 := Lib.hid hr
          obtain ⟨Av, cv, ev⟩ := Kd.R_slice hr
          rw [List.length_append] at ev
          subst ev
          have b0 := (blk_cell HX0.out 0).trans rfl
          have b1 := (blk_cell HX0.out 1).trans rfl
          have c0 := (blk_cell HX1.out 0).trans rfl
          have c1 := (blk_cell HX1.out 1).trans rfl
          have c2 := (blk_cell HX1.out 2).trans rfl
          have f0 := blk_frozen HX1.out 0
          have f1 := blk_frozen HX1.out 1
          have f2 := blk_frozen HX1.out 2
          have hwl := blk_lt HX1.out
          have HT : Hid (RU (((wr.setCell ⟨W.heap.size + 1, 0, none⟩ (.string nm)).setCell ⟨W.heap.size + 1, 1, none⟩ (.slice As ns cs)).setCell ⟨W.heap.size + 1, 2, none⟩ (.slice Av (l.length + more.length) cv)) W.heap.size (.slice Av (l.length + more.length) cv) (l ++ more)) :=
            Kd.R_set (Kd.R_set (Kd.R_set hr HX1.out (by decide) 0 _) (blk_put HX1.out 0 _ rfl) (by decide) 1 _) (blk_put (blk_put HX1.out 0 _ rfl) 1 _ rfl) (by decide) 2 _
          have hS : ∀ b, (fun b => b = W.heap.size + 1) b → W.heap.size ≤ b := fun b hb => by simp only at hb; omega
          have HBE : Hid (Below W.heap.size W (((wr.setCell ⟨W.heap.size + 1, 0, none⟩ (.string nm)).setCell ⟨W.heap.size + 1, 1, none⟩ (.slice As ns cs)).setCell ⟨W.heap.size + 1, 2, none⟩ (.slice Av (l.length + more.length) cv))) :=
            HB.out.trans (((((Tch.set (S := fun b => b = W.heap.size + 1) wr ⟨W.heap.size + 1, 0, none⟩ _ rfl).trans (Tch.set _ ⟨W.heap.size + 1, 1, none⟩ _ rfl)).trans (Tch.set _ ⟨W.heap.size + 1, 2, none⟩ _ rfl))).below HB.out.size hS)
          clear hr HR hS
          go_wp2_with fail
          refine bodyPost_ret (v := .agg #[.string nm, .slice As ns cs, .slice Av (l.length + more.length) cv]) ?_ rfl ⟨_, rfl, HT.out, HBE.out⟩
          rw [results_cell1 rfl]
          go_simp

theorem at_file {w : World} {ok : Nat → Prop} {A : Option Addr} {n : Nat} {F : List S94} (h : Kd.F kG w ok A n F) {j : Nat} {g : S94} (hg : F[j]? = some g) :
    ∃ ad A1 c1 A2 c2, A = some ad ∧ w.cell? (ad.add (j * 3)) = some (.string g.f0) ∧ w.cell? ⟨(ad.add (j * 3)).block, (ad.add (j * 3)).off + 1, none⟩ = some (.slice A1 g.f1.length c1) ∧ w.cell? ⟨(ad.add (j * 3)).block, (ad.add (j * 3)).off + 2, none⟩ = some (.slice A2 g.f2.length c2) ∧
      g.f1.length ≤ c1 ∧ Kd.F (Kd.int .u8) w ok A1 g.f1.length g.f1 ∧ g.f2.length ≤ c2 ∧ Kd.F kU w ok A2 g.f2.length g.f2 := by
  have hl := (List.getElem?_eq_some_iff.1 hg).1
  have hn : n = F.length := (Kd.F_len h).symm
  obtain ⟨ad, cs, e, _, hK, hc, _⟩ := Kd.F_get h g (j : Int) (by omega) (by omega)
  rw [Int.toNat_natCast] at hK hc
  rw [List.getD_eq_getElem?_getD, hg, Option.getD_some] at hK
  obtain ⟨A1, c1, A2, c2, rfl, l1, f1, l2, f2⟩ := k94_openF hK
  have h0 := hc 0 _ rfl
  have h1 := hc 1 _ rfl
  have h2 := hc 2 _ rfl
  rw [show j * kG.sz + 0 = j * 3 from rfl] at h0
  rw [show j * kG.sz + 1 = j * 3 + 1 from rfl, add_field ad (j * 3) 1 (by decide)] at h1
  rw [show j * kG.sz + 2 = j * 3 + 2 from rfl, add_field ad (j * 3) 2 (by decide)] at h2
  exact ⟨ad, A1, c1, A2, c2, e, h0, h1, h2, l1, f1, l2, f2⟩

abbrev kFt := k26
/-- The reference's disk: its files are read, its plan is empty. -/
def WantP (W : World) (S : Nat → Prop) (v0 v2 : Value) (F : List S94) : Prop :=
  Kd.V kG 94 W 0 (fun k => S k ∧ some k ≠ v2.ownBlock) v0 F ∧ kFt.R 26 W 0 S v2 [] ∧ ∀ b, S b → b < W.heap.size
theorem WantP.below {W W' : World} {S : Nat → Prop} {v0 v2 : Value} {F : List S94} (h : WantP W S v0 v2 F) (hb : Below W.heap.size W W') : WantP W' S v0 v2 F :=
  ⟨Kd.V_below h.1 hb, Kd.R_below h.2.1 hb, fun b hs => Nat.lt_of_lt_of_le (h.2.2 b hs) hb.size⟩
theorem WantP.mono {W : World} {S S' : Nat → Prop} {v0 v2 : Value} {F : List S94} (h : WantP W S v0 v2 F) (hs : ∀ b, S b → S' b) (hl : ∀ b, S' b → b < W.heap.size) : WantP W S' v0 v2 F :=
  ⟨Kd.V_mono h.1 (fun k hk => ⟨hs k hk.1, hk.2⟩), Kd.R_mono h.2.1 hs, hl⟩
theorem WantP.form {W : World} {S : Nat → Prop} {v0 v2 : Value} {F : List S94} (h : WantP W S v0 v2 F) : ∃ A0 c0 A2 c2, v0 = .slice A0 F.length c0 ∧ v2 = .slice A2 0 c2 ∧ F.length ≤ c0 ∧ kG.C W A0 F.length F ∧ kFt.C W A2 0 [] := by
  obtain ⟨A0, c0, e0⟩ := Kd.V_slice h.1
  obtain ⟨A2, c2, e2⟩ := Kd.R_slice h.2.1
  subst e0
  subst e2
  have h2 := Kd.R_reads' h.2.1
  exact ⟨A0, c0, A2, c2, rfl, rfl, (Kd.V_reads' h.1).2.1, (Kd.V_reads' h.1).2.2, h2.2.2⟩
section
variable {W : World} {S : Nat → Prop} {v0 v2 : Value} {F : List S94}
theorem findR_any (h : WantP W S v0 v2 F) (r st i : Int) (o : Bool) (x : ByteArray) {k : Nat} (hf : leatref18_Find.f k F r [] st o x = some i) :
    Calls Try.prog 25 #[.agg #[v0, .int .i64 r, v2, .int .i64 st, .bool o], .string x] W fun e w' => e = .returned (.int .i64 i) ∧ Below W.heap.size W w' := by
  obtain ⟨A0, c0, A2, c2, rfl, rfl, hc0, hC, hC2⟩ := h.form
  exact leatref18_Find.calls k A0 c0 F r A2 c2 [] st o x i W hC hc0 hC2 (Nat.zero_le _) hf
theorem usedR_any (h : WantP W S v0 v2 F) (r st u : Int) (o : Bool) {k : Nat} (hf : leatref18_Used.f k F r [] st o = some u) :
    Calls Try.prog 70 #[.agg #[v0, .int .i64 r, v2, .int .i64 st, .bool o]] W fun e w' => e = .returned (.int .i64 u) ∧ Below W.heap.size W w' := by
  obtain ⟨A0, c0, A2, c2, rfl, rfl, hc0, hC, hC2⟩ := h.form
  exact leatref18_Used.calls k A0 c0 F r A2 c2 [] st o u W hC hc0 hC2 (Nat.zero_le _) hf
theorem allR_any {ok : Nat → Prop} (h : Kd.V kG 94 W 0 ok v0 F) (A2 : Option Addr) (c2 : Nat) (r st : Int) (o sf : Bool) {k : Nat} {l : List SF} (hf : leatref18_All.f k F r [] st o sf = some l) :
    Calls Try.prog 21 #[.agg #[v0, .int .i64 r, .slice A2 0 c2, .int .i64 st, .bool o], .bool sf] W fun e w' => ∃ v, e = .returned v ∧ RF w' W.heap.size (fun _ => True) v l ∧ Below W.heap.size W w' := by
  obtain ⟨A0, c0, e0⟩ := Kd.V_slice h
  subst e0
  exact leatref18_All.calls k A0 c0 F r A2 c2 [] st o sf l W (Kd.V_reads' h).2.2 (Kd.V_reads' h).2.1 ⟨rfl, by decide, fun h => absurd h (Nat.lt_irrefl _)⟩ (Nat.zero_le _) hf
/-- A world without memory: everything is new since. -/
def zeroW (W : World) : World := { W with heap := #[] }
theorem zero_below (W : World) : Below (zeroW W).heap.size (zeroW W) W := ⟨rfl, rfl, rfl, Nat.zero_le _, fun i h => absurd h (Nat.not_lt_zero _)⟩
/-- A slice's own block. -/
def own2 (v : Value) (k : Nat) : Prop := some k = v.ownBlock
theorem withR_any (h : WantP W S v0 v2 F) (r st : Int) (o : Bool) (j : Nat) (g : S94) (sv uv : Value) (hl : F.length ≤ 256) {okv : Nat → Prop} (hs : Kd.V (Kd.int .u8) 5 W 0 (fun k => okv k ∧ some k ≠ v2.ownBlock) sv g.f1) (hu : Kd.V kU 109 W 0 (fun k => okv k ∧ some k ≠ v2.ownBlock) uv g.f2)
    (hok : ∀ k, okv k → S k ∨ k < W.heap.size) (hlt : ∀ b, S b → b < W.heap.size) :
    Calls Try.prog 71 #[.agg #[v0, .int .i64 r, v2, .int .i64 st, .bool o], .int .i64 j, .agg #[.string g.f0, sv, uv]] W fun e w' => ∃ v0' v2', e = .returned (.agg #[v0', .int .i64 r, v2', .int .i64 st, .bool o]) ∧
      WantP w' (fun k => (S k ∨ okv k ∨ W.heap.size ≤ k) ∧ k < w'.heap.size) v0' v2' (F.set j g) ∧ Tch (own2 v2) W w' := by
  obtain ⟨A0, c0, A2, c2, e0, e2, hc0, hC, hC2⟩ := h.form
  obtain ⟨As, cs, es⟩ := Kd.V_slice hs
  obtain ⟨Au, cu, eu⟩ := Kd.V_slice hu
  subst e0
  subst es
  subst eu
  refine (leatref18_with.calls 300 S A0 c0 F r (own2 v2) v2 [] st o j g.f0 okv As cs g.f1 okv Au cu g.f2 (F.set j g) r [] st o (zeroW W) W (zero_below W) h.1 (Kd.R_tight rfl h.2.1) hs hu (with_f g j r [] st o hl (by omega))).mono ?_
  rintro e w' ⟨v0', v2', rfl, hn, hr, hb, hk⟩
  have hb0 : W.heap.size ≤ w'.heap.size := hk.1
  refine ⟨v0', v2', rfl, ⟨Kd.V_mono (Kd.V_bound (Kd.N_V hn)) (fun k hk => ⟨⟨?_, hk.2⟩, hk.1.2⟩), Kd.R_mono (Kd.R_bound hr) (fun k hk => ⟨?_, hk.2.2.1⟩), fun b hb => hb.2⟩, ⟨hb.os, hb.tape, hb.output, hk.1, hk.2⟩⟩
  · rcases hk.1.1 with (hh | h | h | h) | h
    · exact .inl (h.2.1.1 k hh.symm)
    · exact .inl h
    · exact .inr (.inl h)
    · exact .inr (.inl h)
    · exact .inr (.inr h)
  · rcases hk.1 with hh | h
    · exact .inl (h.2.1.1 k hh.symm)
    · exact .inr (.inr h)
end

/-- What a step of the reference leaves. -/
def DoPost (W : World) (S T : Nat → Prop) (r st code : Int) (o : Bool) (F : List S94) (e : Ending) (W' : World) : Prop :=
  ∃ v0 v2 S', e = .returned (.tuple #[.agg #[v0, .int .i64 r, v2, .int .i64 st, .bool o], .int .i64 code]) ∧ WantP W' S' v0 v2 F ∧ (∀ b, S' b → S b ∨ W.heap.size ≤ b) ∧ Tch T W W'
theorem do_same {W W' : World} {S T : Nat → Prop} {v0 v2 : Value} {F : List S94} {r st code : Int} {o : Bool} (h : WantP W S v0 v2 F) (hb : Below W.heap.size W W') :
    DoPost W S T r st code o F (.returned (.tuple #[.agg #[v0, .int .i64 r, v2, .int .i64 st, .bool o], .int .i64 code])) W' := ⟨v0, v2, S, rfl, h.below hb, fun b h => .inl h, Tch.of_below hb⟩
theorem keepc {w w' : World} (hb : Below w.heap.size w w') {a : Addr} {v : Value} (h : w.cell? a = some v) : w'.cell? a = some v := pw_cell_below hb h
/-- A disk's struct stored cell by cell. -/
theorem put5 {W : World} {b : Nat} {cs : Array Value} (h : W.heap[b]? = some (.cells cs 40 (0, 0))) (hs : cs.size = 5) (a0 a1 a2 a3 a4 : Value) :
    (((((W.setCell ⟨b, 0, none⟩ a0).setCell ⟨b, 1, none⟩ a1).setCell ⟨b, 2, none⟩ a2).setCell ⟨b, 3, none⟩ a3).setCell ⟨b, 4, none⟩ a4).heap[b]? = some (.cells #[a0, a1, a2, a3, a4] 40 (0, 0)) ∧
      Tch (fun k => k = b) W (((((W.setCell ⟨b, 0, none⟩ a0).setCell ⟨b, 1, none⟩ a1).setCell ⟨b, 2, none⟩ a2).setCell ⟨b, 3, none⟩ a3).setCell ⟨b, 4, none⟩ a4) := by
  refine ⟨?_, ((((Tch.set (S := fun k => k = b) _ ⟨b, 0, none⟩ a0 rfl).trans (Tch.set (S := fun k => k = b) _ ⟨b, 1, none⟩ a1 rfl)).trans (Tch.set (S := fun k => k = b) _ ⟨b, 2, none⟩ a2 rfl)).trans (Tch.set (S := fun k => k = b) _ ⟨b, 3, none⟩ a3 rfl)).trans (Tch.set (S := fun k => k = b) _ ⟨b, 4, none⟩ a4 rfl)⟩
  match cs, hs with
  | ⟨[c0, c1, c2, c3, c4]⟩, _ => exact blk_put (blk_put (blk_put (blk_put (blk_put h 0 a0 rfl) 1 a1 rfl) 2 a2 rfl) 3 a3 rfl) 4 a4 rfl
/-- What do and Do return: the struct at block b, a number. -/
theorem do_res {fn : Func} {tmps : Array Value} {p u : Tmp} {W : World} {b : Nat} {a0 a1 a2 a3 a4 : Value} {code : Int} (h : fn.results = #[.cell p 40, .tmp u]) (hp : tmps.getD p undef = .pointer (some ⟨b, 0, none⟩)) (hu : tmps.getD u undef = .int .i64 code) (hb : W.heap[b]? = some (.cells #[a0, a1, a2, a3, a4] 40 (0, 0))) :
    (results fn tmps).run Try.prog W = .ok (.tuple #[.agg #[a0, a1, a2, a3, a4], .int .i64 code]) W := by
  have := results_ct (P := Try.prog) h tmps W b 40 #[a0, a1, a2, a3, a4] (0, 0) _ hp hb Try.underlying40 rfl (by kernel_rfl)
  rw [hu] at this
  exact this
/-- The frame of do and Do: the argument's struct, the result's. -/
structure Frm (W W1 : World) (a0 a2 : Value) (r st : Int) (o : Bool) : Prop where
  bl : Below W.heap.size W W1
  box : W1.heap[W.heap.size]? = some (.cells #[a0, .int .i64 r, a2, .int .i64 st, .bool o] 40 (0, 0))
  res : W1.heap[W.heap.size + 1]? = some (.cells #[.slice none 0 0, .int .i64 0, .slice none 0 0, .int .i64 0, .bool false] 40 (0, 0))
theorem frm_start (W : World) (a0 a2 : Value) (r st : Int) (o : Bool) : Frm W ((W.alloc (.cells #[a0, .int .i64 r, a2, .int .i64 st, .bool o] 40)).alloc (.cells #[.slice none 0 0, .int .i64 0, .slice none 0 0, .int .i64 0, .bool false] 40)) a0 a2 r st o := by
  refine ⟨((Below.refl _ _).alloc (Nat.le_refl _) _).alloc (by simp) _, (Below.heap_alloc _ _ _ (by simp)).trans (heap_alloc_new _ _), ?_⟩
  have h := heap_alloc_new (W.alloc (.cells #[a0, .int .i64 r, a2, .int .i64 st, .bool o] 40)) (.cells #[.slice none 0 0, .int .i64 0, .slice none 0 0, .int .i64 0, .bool false] 40)
  rw [World.size_alloc] at h
  exact h
section
variable {W W1 W2 : World} {a0 a2 : Value} {r st : Int} {o : Bool}
theorem Frm.below (h : Frm W W1 a0 a2 r st o) (hb : Below W1.heap.size W1 W2) : Frm W W2 a0 a2 r st o := ⟨h.bl.trans (hb.mono h.bl.size), blk_below h.box hb, blk_below h.res hb⟩
theorem Frm.cells (h : Frm W W1 a0 a2 r st o) : W1.cell? ⟨W.heap.size, 0, none⟩ = some a0 ∧ W1.cell? ⟨W.heap.size, 1, none⟩ = some (.int .i64 r) ∧ W1.cell? ⟨W.heap.size, 2, none⟩ = some a2 ∧ W1.cell? ⟨W.heap.size, 3, none⟩ = some (.int .i64 st) ∧ W1.cell? ⟨W.heap.size, 4, none⟩ = some (.bool o) :=
  ⟨(blk_cell h.box 0).trans rfl, (blk_cell h.box 1).trans rfl, (blk_cell h.box 2).trans rfl, (blk_cell h.box 3).trans rfl, (blk_cell h.box 4).trans rfl⟩
theorem Frm.free (h : Frm W W1 a0 a2 r st o) : (∀ i, i < 5 → ∃ v, W1.cell? ⟨W.heap.size + 1, i, none⟩ = some v) ∧ (∀ i, W1.frozen? ⟨W.heap.size + 1, i, none⟩ = false) ∧ W.heap.size + 1 < W1.heap.size :=
  ⟨fun i hi => ⟨_, (blk_cell h.res i).trans (by match i, hi with | 0, _ => rfl | 1, _ => rfl | 2, _ => rfl | 3, _ => rfl | 4, _ => rfl)⟩, fun i => blk_frozen h.res i, blk_lt h.res⟩
theorem Frm.done (h : Frm W W1 a0 a2 r st o) (b0 b1 b2 b3 b4 : Value) :
    (((((W1.setCell ⟨W.heap.size + 1, 0, none⟩ b0).setCell ⟨W.heap.size + 1, 1, none⟩ b1).setCell ⟨W.heap.size + 1, 2, none⟩ b2).setCell ⟨W.heap.size + 1, 3, none⟩ b3).setCell ⟨W.heap.size + 1, 4, none⟩ b4).heap[W.heap.size + 1]? = some (.cells #[b0, b1, b2, b3, b4] 40 (0, 0)) ∧
      Below W.heap.size W (((((W1.setCell ⟨W.heap.size + 1, 0, none⟩ b0).setCell ⟨W.heap.size + 1, 1, none⟩ b1).setCell ⟨W.heap.size + 1, 2, none⟩ b2).setCell ⟨W.heap.size + 1, 3, none⟩ b3).setCell ⟨W.heap.size + 1, 4, none⟩ b4) := by
  obtain ⟨h1, h2⟩ := put5 h.res rfl b0 b1 b2 b3 b4
  exact ⟨h1, h.bl.trans (h2.below h.bl.size (fun k hk => by omega))⟩
end
set_option maxRecDepth 100000 in
set_option maxHeartbeats 2000000 in
theorem do_none (W : World) (S : Nat → Prop) (v0 v2 : Value) (F : List S94) (r st n : Int) (o : Bool) (x : ByteArray) (B : Option Addr) (p q : Nat) {k : Nat} (h : WantP W S v0 v2 F) (hf : leatref18_Find.f k F r [] st o x = some (-1)) :
    Calls Try.prog 51 #[.agg #[v0, .int .i64 r, v2, .int .i64 st, .bool o], .int .i64 2, .string x, .int .i64 n, .slice B p q] W (DoPost W S (own2 v2) r st 183 o F) := by
  obtain ⟨A0, c0, A2, c2, rfl, rfl, hc0, hC, hC2⟩ := h.form
  have H := Lib.hid h
  have HF := Lib.hid hf
  have HFR := Lib.hid (frm_start W (.slice A0 F.length c0) (.slice A2 0 c2) r st o)
  clear h hf hC hC2
  go_enter Try.func51, Try.ntmps51
  go_wp2_with fail
  refine (findR_any (H.out.below HFR.out.bl) r st (-1) o x HF.out).mono ?_
  rintro e w2 ⟨rfl, hb⟩
  have HFR2 := Lib.hid (HFR.out.below hb)
  clear hb HFR
  obtain ⟨x0, x1, x2, x3, x4⟩ := HFR2.out.cells
  obtain ⟨hc, hfz, hlt⟩ := HFR2.out.free
  obtain ⟨y0, z0⟩ := hc 0 (by decide)
  obtain ⟨y1, z1⟩ := hc 1 (by decide)
  obtain ⟨y2, z2⟩ := hc 2 (by decide)
  obtain ⟨y3, z3⟩ := hc 3 (by decide)
  obtain ⟨y4, z4⟩ := hc 4 (by decide)
  have g0 := hfz 0
  have g1 := hfz 1
  have g2 := hfz 2
  have g3 := hfz 3
  have g4 := hfz 4
  clear hc hfz
  have HD := Lib.hid (HFR2.out.done (.slice A0 F.length c0) (.int .i64 r) (.slice A2 0 c2) (.int .i64 st) (.bool o))
  go_wp2_with fail
  refine bodyPost_ret (do_res rfl rfl rfl HD.out.1) rfl (do_same H.out HD.out.2)

/-- An append's two ends: no room, or done. -/
def DoIf (W : World) (S T : Nat → Prop) (r st us : Int) (o : Bool) (F : List S94) (j : Nat) (g : S94) (b : List Int) (e : Ending) (w' : World) : Prop :=
  if r - us < b.length then DoPost W S T r st 182 o F e w' else DoPost W S T r st 0 o (F.set j ⟨g.f0, g.f1, b.map addU⟩) e w'
theorem C_none {α : Type} (d : Kd α) (W : World) (A : Option Addr) : d.C W A 0 [] := ⟨rfl, by decide, fun h => absurd h (Nat.lt_irrefl _)⟩
theorem with_arm {w4 wA wB : World} {S : Nat → Prop} {v0 v2 uv : Value} {A1 : Option Addr} {c1 : Nat} {F : List S94} {gsv : List Int} {l : List SU} (r st : Int) (o : Bool) (j : Nat) (gn : ByteArray) (H4 : WantP w4 S v0 v2 F)
    (HK4 : Kd.F (Kd.int .u8) w4 (fun k => S k ∧ some k ≠ v2.ownBlock) A1 gsv.length gsv) (l1 : gsv.length ≤ c1) (hA : Below w4.heap.size w4 wA) (hB : Below wA.heap.size wA wB) (hR : RU wB wA.heap.size uv l) (hSW : ∀ b, S b → b < w4.heap.size) (hl : F.length ≤ 256) :
    Calls Try.prog 71 #[.agg #[v0, .int .i64 r, v2, .int .i64 st, .bool o], .int .i64 j, .agg #[.string gn, .slice A1 gsv.length c1, uv]] wB fun e w' => ∃ v0' v2', e = .returned (.agg #[v0', .int .i64 r, v2', .int .i64 st, .bool o]) ∧
      WantP w' (fun k => (S k ∨ w4.heap.size ≤ k) ∧ k < w'.heap.size) v0' v2' (F.set j ⟨gn, gsv, l⟩) ∧ Tch (own2 v2) wB w' := by
  have hAB : Below w4.heap.size w4 wB := hA.trans (hB.mono hA.size)
  have h2 := (H4.below hAB)
  have hs : Kd.V (Kd.int .u8) 5 wB 0 (fun k => (S k ∨ w4.heap.size ≤ k ∧ k < wB.heap.size) ∧ some k ≠ v2.ownBlock) (.slice A1 gsv.length c1) gsv := Kd.V_mk l1 (Kd.F_mono (Kd.F_below HK4 hAB) (fun k hk => ⟨.inl hk.1, hk.2⟩))
  have hu : Kd.V kU 109 wB 0 (fun k => (S k ∨ w4.heap.size ≤ k ∧ k < wB.heap.size) ∧ some k ≠ v2.ownBlock) uv l := by
    refine Kd.V_mono (Kd.R_V (Kd.R_bound hR)) (fun k hk => ⟨.inr ⟨Nat.le_trans hA.size hk.2.1, hk.2.2.1⟩, fun e => ?_⟩)
    have := hSW k (h2.2.1.1 k e.symm)
    have := hk.2.1
    have := hA.size
    omega
  refine (withR_any h2 r st o j ⟨gn, gsv, l⟩ (.slice A1 gsv.length c1) uv hl hs hu (fun k hk => hk.imp id (fun h => h.2)) (fun b hb => Nat.lt_of_lt_of_le (hSW b hb) hAB.size)).mono ?_
  rintro e w' ⟨v0', v2', he, hw, ht⟩
  refine ⟨v0', v2', he, hw.mono (fun b hb => ⟨?_, hb.2⟩) (fun b hb => hb.2), ht⟩
  rcases hb.1 with h | (h | h) | h
  · exact .inl h
  · exact .inl h
  · exact .inr h.1
  · exact .inr (Nat.le_trans hAB.size h)
theorem keept {S : Nat → Prop} {w w' : World} (ht : Tch S w w') {a : Addr} {v : Value} (h : w.cell? a = some v) (hs : ¬ S a.block) : w'.cell? a = some v := (ht.cell (World.block_lt_of_cell? w a h) hs).trans h
/-- The end of do: the result stored behind 'with'. -/
theorem do_stored {W w4 wB wC : World} {S T : Nat → Prop} {a0 a2 v0 v2 : Value} {r st : Int} {o : Bool} {F : List S94} (h4 : Frm W w4 a0 a2 r st o) (hlt : W.heap.size + 1 < w4.heap.size) (hB : Below w4.heap.size w4 wB) (ht : Tch T wB wC) (hT : ∀ b, T b → b < W.heap.size) (hS : ∀ b, S b → b < W.heap.size)
    (hw : WantP wC (fun k => (S k ∨ w4.heap.size ≤ k) ∧ k < wC.heap.size) v0 v2 F) :
    (((((wC.setCell ⟨W.heap.size + 1, 0, none⟩ v0).setCell ⟨W.heap.size + 1, 1, none⟩ (.int .i64 r)).setCell ⟨W.heap.size + 1, 2, none⟩ v2).setCell ⟨W.heap.size + 1, 3, none⟩ (.int .i64 st)).setCell ⟨W.heap.size + 1, 4, none⟩ (.bool o)).heap[W.heap.size + 1]? = some (.cells #[v0, .int .i64 r, v2, .int .i64 st, .bool o] 40 (0, 0)) ∧
      DoPost W S T r st 0 o F (.returned (.tuple #[.agg #[v0, .int .i64 r, v2, .int .i64 st, .bool o], .int .i64 0])) (((((wC.setCell ⟨W.heap.size + 1, 0, none⟩ v0).setCell ⟨W.heap.size + 1, 1, none⟩ (.int .i64 r)).setCell ⟨W.heap.size + 1, 2, none⟩ v2).setCell ⟨W.heap.size + 1, 3, none⟩ (.int .i64 st)).setCell ⟨W.heap.size + 1, 4, none⟩ (.bool o)) := by
  have hr := blk_below h4.res hB
  have hlB := hB.size
  have hr2 := (ht.block _ (blk_lt hr) (fun h => by have := hT _ h; omega)).trans hr
  obtain ⟨h1, h2⟩ := put5 hr2 rfl v0 (.int .i64 r) v2 (.int .i64 st) (.bool o)
  refine ⟨h1, v0, v2, (fun k => (S k ∨ w4.heap.size ≤ k) ∧ k < wC.heap.size), rfl, ⟨?_, ?_, ?_⟩, fun b hb => ?_, ?_⟩
  · exact Kd.V_step hw.1 (fun k hk hl => h2.block k hl (fun e => by
      rcases hk.1.1 with h | h
      · have := hS _ h; omega
      · omega))
  · exact Kd.R_step hw.2.1 (fun k hk hl => h2.block k hl (fun e => by
      rcases hk.1 with h | h
      · have := hS _ h; omega
      · omega))
  · exact fun b hb => Nat.lt_of_lt_of_le hb.2 h2.size
  · exact hb.1.imp id (fun h => Nat.le_trans h4.bl.size h)
  · exact ((Tch.of_below (h4.bl.trans (hB.mono h4.bl.size))).trans ht).then_ h2 (fun i hi => .inr (by omega))
theorem res_at {W w4 wB wC : World} {S : Nat → Prop} {a0 a2 : Value} {r st : Int} {o : Bool} (h4 : Frm W w4 a0 a2 r st o) (hB : Below w4.heap.size w4 wB) (ht : Tch S wB wC) (hS : ∀ b, S b → b < W.heap.size) :
    wC.heap[W.heap.size + 1]? = some (.cells #[.slice none 0 0, .int .i64 0, .slice none 0 0, .int .i64 0, .bool false] 40 (0, 0)) := by
  have hr := blk_below h4.res hB
  exact (ht.block _ (blk_lt hr) (fun h => by have := hS _ h; omega)).trans hr
set_option maxRecDepth 100000 in
set_option maxHeartbeats 4000000 in
theorem do_file (W : World) (S : Nat → Prop) (v0 v2 : Value) (F : List S94) (r st n us : Int) (o : Bool) (x : ByteArray) (B : Option Addr) (p q j : Nat) (b : List Int) (g : S94) {k k2 : Nat} (h : WantP W S v0 v2 F) (hf : leatref18_Find.f k F r [] st o x = some (j : Int)) (hg : F[j]? = some g) (hg2 : g.f2 = [])
    (hu : leatref18_Used.f k2 F r [] st o = some us) (hu0 : 0 ≤ us ∧ us ≤ 4611686018427387904) (hr : 0 ≤ r ∧ r ≤ 16777216) (hl : F.length ≤ 256) (hC : (Kd.int .u8).C W B p b) (hpq : p ≤ q) (hp : b.length ≤ big) (hSW : ∀ b, S b → b < W.heap.size) :
    Calls Try.prog 51 #[.agg #[v0, .int .i64 r, v2, .int .i64 st, .bool o], .int .i64 2, .string x, .int .i64 n, .slice B p q] W (DoIf W S (own2 v2) r st us o F j g b) := by
  obtain ⟨A0, c0, A2, c2, rfl, rfl, hc0, hCG, hC2⟩ := h.form
  have hpb : p = b.length := (Kd.C_len hC).symm
  subst hpb
  have hlm : b.length ≤ 140737488351232 := hp
  have hjl := (List.getElem?_eq_some_iff.1 hg).1
  have H := Lib.hid h
  have HF := Lib.hid hf
  have HU := Lib.hid hu
  have HG := Lib.hid hg
  have HG2 := Lib.hid hg2
  have HC := Lib.hid hC
  have HFR := Lib.hid (frm_start W (.slice A0 F.length c0) (.slice A2 0 c2) r st o)
  obtain ⟨Q, hQ⟩ : ∃ Q, Q = decide (r - us < (b.length : Int)) := ⟨_, rfl⟩
  have HQ := Lib.hid hQ
  clear h hf hCG hC2 hu hg hg2 hC hQ
  go_enter Try.func51, Try.ntmps51
  go_wp2_with fail
  refine (findR_any (H.out.below HFR.out.bl) r st j o x HF.out).mono ?_
  rintro e w2 ⟨rfl, hb⟩
  have HFR2 := Lib.hid (HFR.out.below hb)
  clear hb HFR
  have H2 := Lib.hid (H.out.below HFR2.out.bl)
  obtain ⟨ad, A1, c1, A3, c3, hA, k0, k1, k2, l1, f1, l2, f2⟩ := at_file (Kd.V_F H2.out.1) HG.out
  subst hA
  rw [HG2.out] at k2 l2 f2
  have HK1 := Lib.hid f1
  obtain ⟨x0, x1, x2, x3, x4⟩ := HFR2.out.cells
  obtain ⟨gn, gsv, gun⟩ := g
  simp only at k0 k1 k2 l1 HK1 HG2
  clear f1 f2 l2
  go_upto_region 9 with fail
  have hba : Below w2.heap.size w2 (w2.alloc (.cells #[.string gn, .slice A1 gsv.length c1, .slice A3 0 c3] 94)) := (Below.refl _ _).alloc (Nat.le_refl _) _
  have HFR3 := Lib.hid (HFR2.out.below hba)
  have H3 := Lib.hid (H2.out.below hba)
  have HK3 := Lib.hid (Kd.F_below HK1.out hba)
  have hw2 : W.heap.size ≤ w2.heap.size := HFR2.out.bl.size
  have hw2' : W.heap.size + 1 < w2.heap.size := HFR2.out.free.2.2
  have HX := Lib.hid (heap_alloc_new w2 (.cells #[.string gn, .slice A1 gsv.length c1, .slice A3 0 c3] 94))
  generalize w2.alloc (.cells #[.string gn, .slice A1 gsv.length c1, .slice A3 0 c3] 94) = w3 at HFR3 H3 HK3 HX ⊢
  clear x0 x1 x2 x3 x4 k0 k1 k2 hba HFR2 H2 HK1
  obtain ⟨x0, x1, x2, x3, x4⟩ := HFR3.out.cells
  go_cut [44] from 37 to 43 (fun v wx => v = .bool Q ∧ Below w3.heap.size w3 wx)
  case first =>
    have hd : Below w3.heap.size w3 w3.drew := Below.drew (Below.refl _ _)
    go_region_held3 (fun w' => w'.cell? ⟨W.heap.size, 0, none⟩ = some (.slice (some ad) F.length c0) ∧ w'.cell? ⟨W.heap.size, 1, none⟩ = some (.int .i64 r) ∧ w'.cell? ⟨W.heap.size, 2, none⟩ = some (.slice A2 0 c2) ∧ w'.cell? ⟨W.heap.size, 3, none⟩ = some (.int .i64 st) ∧ w'.cell? ⟨W.heap.size, 4, none⟩ = some (.bool o) ∧ Below w3.heap.size w3 w') (go_keep)
      (first
        | (go_at_call 70; refine (usedR_any (H3.out.below (‹_ ∧ _ ∧ _ ∧ _ ∧ _ ∧ Below w3.heap.size w3 _›).2.2.2.2.2) r st us o HU.out).mono ?_; rintro e wA ⟨rfl, hA⟩; have hA1 : Below w3.heap.size w3 wA := step_bel (‹_ ∧ _ ∧ _ ∧ _ ∧ _ ∧ Below w3.heap.size w3 _›).2.2.2.2.2 hA (‹_ ∧ _ ∧ _ ∧ _ ∧ _ ∧ Below w3.heap.size w3 _›).2.2.2.2.2.size; have q0 := keepc hA1 x0; have q1 := keepc hA1 x1; have q2 := keepc hA1 x2; have q3 := keepc hA1 x3; have q4 := keepc hA1 x4))
    all_goals
      go_wp2_with fail
      go_meet
      exact ⟨by rw [HQ.out, IntWalk.i64_in _ (by omega)], by assumption⟩
  case rest =>
  obtain ⟨rfl, hb4⟩ := hcut
  rename World => w4
  have HFR4 := Lib.hid (HFR3.out.below hb4)
  have H4 := Lib.hid (H3.out.below hb4)
  have HK4 := Lib.hid (Kd.F_below HK3.out hb4)
  have HX4 := Lib.hid (blk_below HX.out hb4)
  have hw4 : w2.heap.size < w4.heap.size := blk_lt HX4.out
  have hbw4 := HFR4.out.bl
  clear x0 x1 x2 x3 x4 hb4 HFR3 H3 HK3 HX
  obtain ⟨x0, x1, x2, x3, x4⟩ := HFR4.out.cells
  obtain ⟨hc, hfz, hlt⟩ := HFR4.out.free
  have k0 := (blk_cell HX4.out 0).trans rfl
  have k1 := (blk_cell HX4.out 1).trans rfl
  have k2 := (blk_cell HX4.out 2).trans rfl
  have HBW4 := Lib.hid hbw4
  clear hbw4
  by_cases hq : r - us < (b.length : Int)
  · have HQ2 : Hid (Q = true) := HQ.out.trans (by simp [hq])
    have hQ := HQ2.out
    subst hQ
    obtain ⟨y0, z0⟩ := hc 0 (by decide)
    obtain ⟨y1, z1⟩ := hc 1 (by decide)
    obtain ⟨y2, z2⟩ := hc 2 (by decide)
    obtain ⟨y3, z3⟩ := hc 3 (by decide)
    obtain ⟨y4, z4⟩ := hc 4 (by decide)
    have g0 := hfz 0
    have g1 := hfz 1
    have g2 := hfz 2
    have g3 := hfz 3
    have g4 := hfz 4
    clear hc hfz
    have HD := Lib.hid (HFR4.out.done (.slice (some ad) F.length c0) (.int .i64 r) (.slice A2 0 c2) (.int .i64 st) (.bool o))
    have HQ3 := Lib.hid hq
    clear hq
    go_wp2_with fail
    refine bodyPost_ret (do_res rfl rfl rfl HD.out.1) rfl ?_
    unfold DoIf
    rw [if_pos HQ3.out]
    exact do_same H.out HD.out.2
  · have HQ2 : Hid (Q = false) := HQ.out.trans (by simp [hq])
    have hQ := HQ2.out
    subst hQ
    have hbl : b.length ≤ 16777216 := by omega
    have HQ3 := Lib.hid hq
    have HT2 : Hid (∀ b, own2 (.slice A2 0 c2) b → b < W.heap.size) := fun b hb => hSW b (H.out.2.1.1 b hb.symm)
    have HNB : Hid (¬ own2 (.slice A2 0 c2) W.heap.size) := fun h => Nat.lt_irrefl _ (HT2.out _ h)
    have HNF : Hid (¬ own2 (.slice A2 0 c2) w2.heap.size) := fun h => by have := HT2.out _ h; omega
    have HSW4 : Hid (∀ b, S b → b < w4.heap.size) := fun b hb => Nat.lt_of_lt_of_le (hSW b hb) HBW4.out.size
    clear hq hc hfz
    have hne1 : ¬ (w2.heap.size = W.heap.size + 1) := by omega
    have hne2 : ¬ (W.heap.size + 1 = w2.heap.size) := by omega
    go_upto_region 11 with fail
    go_region_held3 (fun w' => w'.cell? ⟨W.heap.size, 0, none⟩ = some (.slice (some ad) F.length c0) ∧ w'.cell? ⟨W.heap.size, 1, none⟩ = some (.int .i64 r) ∧ w'.cell? ⟨W.heap.size, 2, none⟩ = some (.slice A2 0 c2) ∧ w'.cell? ⟨W.heap.size, 3, none⟩ = some (.int .i64 st) ∧ w'.cell? ⟨W.heap.size, 4, none⟩ = some (.bool o) ∧ w'.cell? ⟨w2.heap.size, 0, none⟩ = some (.string gn) ∧ w'.cell? ⟨w2.heap.size, 1, none⟩ = some (.slice A1 gsv.length c1) ∧ w'.cell? ⟨w2.heap.size, 2, none⟩ = some (.slice A3 0 c3)) (go_keep)
      (first
        | (go_at_call 73; refine (leatref18_adds.calls (b.length + 1) B q b (b.map addU) _ (Kd.C_below HC.out (HBW4.out.drew)) hpq (adds_f (by omega) (by omega))).mono ?_; rintro e wA ⟨vA, rfl, hRA, hbA⟩; have hA4 : Below w4.heap.size w4 wA := (Below.drew (Below.refl _ _)).trans hbA; have q0 := keepc hA4 x0; have q1 := keepc hA4 x1; have q2 := keepc hA4 x2; have q3 := keepc hA4 x3; have q4 := keepc hA4 x4; have p0 := keepc hA4 k0; have p1 := keepc hA4 k1; have p2 := keepc hA4 k2; obtain ⟨Am, cm, em⟩ := Kd.R_slice hRA; rw [List.length_map] at em; subst em; have HRA := Lib.hid hRA; have HA4 := Lib.hid hA4; clear hRA hbA hA4)
        | (go_at_call 72; refine (units_any wA gn A1 A3 Am gsv.length c1 0 c3 b.length cm [] (b.map addU) (C_none _ _ _) (Nat.zero_le _) (by have h := (Kd.R_reads' HRA.out); rw [h.1]; exact h.2.2) (Kd.R_reads' HRA.out).2.1 (by omega)).mono ?_; rintro e wB ⟨vB, rfl, hRB, hbB⟩; have hB4 : Below w4.heap.size w4 wB := HA4.out.trans (hbB.mono HA4.out.size); have q0 := keepc hB4 x0; have q1 := keepc hB4 x1; have q2 := keepc hB4 x2; have q3 := keepc hB4 x3; have q4 := keepc hB4 x4; have p0 := keepc hB4 k0; have p1 := keepc hB4 k1; have p2 := keepc hB4 k2; have HRB : Hid (RU wB wA.heap.size vB (b.map addU)) := hRB; have HBB := Lib.hid hbB; have HB4 := Lib.hid hB4; clear hRB hbB hB4)
        | (go_at_call 71; refine (with_arm r st o j gn H4.out HK4.out l1 HA4.out HBB.out HRB.out HSW4.out hl).mono ?_; rintro e wC ⟨u0, u2, rfl, hWC, hTC⟩; obtain ⟨A0', c0', A2', c2', e0, e2, _, _, _⟩ := hWC.form; rw [List.length_set] at e0; subst e0; subst e2; have q0 := keept hTC (keepc HB4.out x0) HNB.out; have q1 := keept hTC (keepc HB4.out x1) HNB.out; have q2 := keept hTC (keepc HB4.out x2) HNB.out; have q3 := keept hTC (keepc HB4.out x3) HNB.out; have q4 := keept hTC (keepc HB4.out x4) HNB.out; have p0 := keept hTC (keepc HB4.out k0) HNF.out; have p1 := keept hTC (keepc HB4.out k1) HNF.out; have p2 := keept hTC (keepc HB4.out k2) HNF.out; have hres := res_at HFR4.out HB4.out hTC HT2.out; have y0 := (blk_cell hres 0).trans rfl; have y1 := (blk_cell hres 1).trans rfl; have y2 := (blk_cell hres 2).trans rfl; have y3 := (blk_cell hres 3).trans rfl; have y4 := (blk_cell hres 4).trans rfl; have g0 := blk_frozen hres 0; have g1 := blk_frozen hres 1; have g2 := blk_frozen hres 2; have g3 := blk_frozen hres 3; have g4 := blk_frozen hres 4; have hrl := blk_lt hres; have HDD := Lib.hid (do_stored HFR4.out (by omega) HB4.out hTC HT2.out hSW hWC); clear hWC hTC hres))
    go_wp2_with fail
    refine bodyPost_ret (do_res rfl rfl rfl HDD.out.1) rfl ?_
    unfold DoIf
    rw [if_neg (by have := HQ3.out; omega)]
    exact HDD.out.2

/-- Do, whatever do does. -/
def DoAny (S T : Nat → Prop) (code : Int) (F : List S94) (W : World) (e : Ending) (W' : World) : Prop := DoPost W S T 16777216 1 code false F e W'
theorem do_lift {W W1 W2 : World} {S T : Nat → Prop} {code : Int} {F : List S94} {e : Ending} {a0 a2 : Value} (hF : Frm W W1 a0 a2 16777216 1 false) (hT : ∀ b, T b → b < W.heap.size) (hS : ∀ b, S b → b < W.heap.size) (h : DoPost W1 S T 16777216 1 code false F e W2) :
    ∃ A0 c0 A2 c2, e = .returned (.tuple #[.agg #[.slice A0 F.length c0, .int .i64 16777216, .slice A2 0 c2, .int .i64 1, .bool false], .int .i64 code]) ∧
      (W2.heap[W.heap.size + 1]? = some (.cells #[.slice none 0 0, .int .i64 0, .slice none 0 0, .int .i64 0, .bool false] 40 (0, 0))) ∧
      (((((W2.setCell ⟨W.heap.size + 1, 0, none⟩ (.slice A0 F.length c0)).setCell ⟨W.heap.size + 1, 1, none⟩ (.int .i64 16777216)).setCell ⟨W.heap.size + 1, 2, none⟩ (.slice A2 0 c2)).setCell ⟨W.heap.size + 1, 3, none⟩ (.int .i64 1)).setCell ⟨W.heap.size + 1, 4, none⟩ (.bool false)).heap[W.heap.size + 1]? = some (.cells #[.slice A0 F.length c0, .int .i64 16777216, .slice A2 0 c2, .int .i64 1, .bool false] 40 (0, 0)) ∧
      DoPost W S T 16777216 1 code false F (.returned (.tuple #[.agg #[.slice A0 F.length c0, .int .i64 16777216, .slice A2 0 c2, .int .i64 1, .bool false], .int .i64 code])) (((((W2.setCell ⟨W.heap.size + 1, 0, none⟩ (.slice A0 F.length c0)).setCell ⟨W.heap.size + 1, 1, none⟩ (.int .i64 16777216)).setCell ⟨W.heap.size + 1, 2, none⟩ (.slice A2 0 c2)).setCell ⟨W.heap.size + 1, 3, none⟩ (.int .i64 1)).setCell ⟨W.heap.size + 1, 4, none⟩ (.bool false)) := by
  obtain ⟨v0, v2, S', rfl, hw, hs, ht⟩ := h
  obtain ⟨A0, c0, A2, c2, rfl, rfl, _, _, _⟩ := hw.form
  have hlt := blk_lt hF.res
  have hr := (ht.block _ hlt (fun h => by have := hT _ h; omega)).trans hF.res
  obtain ⟨h1, h2⟩ := put5 hr rfl (.slice A0 F.length c0) (.int .i64 16777216) (.slice A2 0 c2) (.int .i64 1) (.bool false)
  have hne : ∀ k, S' k → k ≠ W.heap.size + 1 := fun k hk e => by
    rcases hs k hk with h | h
    · have := hS _ h; omega
    · omega
  refine ⟨A0, c0, A2, c2, rfl, hr, h1, _, _, S', rfl, ⟨Kd.V_step hw.1 (fun k hk hl => h2.block k hl (hne k hk.1)), Kd.R_step hw.2.1 (fun k hk hl => h2.block k hl (hne k hk)), fun b hb => Nat.lt_of_lt_of_le (hw.2.2 b hb) h2.size⟩, fun b hb => (hs b hb).imp id (fun h => Nat.le_trans hF.bl.size h), ?_⟩
  exact ((Tch.of_below hF.bl).trans ht).then_ h2 (fun i hi => .inr (by omega))
set_option maxRecDepth 100000 in
set_option maxHeartbeats 4000000 in
theorem Do_any (W : World) (S : Nat → Prop) (v0 v2 : Value) (F F' : List S94) (code : Int) (x : ByteArray) (B : Option Addr) (p q : Nat) (h : WantP W S v0 v2 F) (hSW : ∀ b, S b → b < W.heap.size)
    (hdo : ∀ W1, Below W.heap.size W W1 → Calls Try.prog 51 #[.agg #[v0, .int .i64 16777216, v2, .int .i64 1, .bool false], .int .i64 2, .string x, .int .i64 0, .slice B p q] W1 (DoAny S (own2 v2) code F' W1)) :
    Calls Try.prog 18 #[.agg #[v0, .int .i64 16777216, v2, .int .i64 0, .bool false], .int .i64 2, .string x, .int .i64 0, .slice B p q] W (DoAny S (own2 v2) code F' W) := by
  obtain ⟨A0, c0, A2, c2, rfl, rfl, hc0, hCG, hC2⟩ := h.form
  have HFR := Lib.hid (frm_start W (.slice A0 F.length c0) (.slice A2 0 c2) 16777216 1 false)
  have HDO := Lib.hid hdo
  have HT2 : Hid (∀ b, own2 (.slice A2 0 c2) b → b < W.heap.size) := fun b hb => hSW b (h.2.1.1 b hb.symm)
  clear h hCG hC2 hdo
  go_enter Try.func18, Try.ntmps18
  go_wp2_with fail
  go_loop [13] (fun i => i = .int .i64 (-1)) (fun _ => 0)
  case atStart => rfl
  case round =>
    obtain rfl := hrel
    go_wp2_with fail
    have hb3 := (Below.refl _ ((W.alloc (.cells #[.slice A0 F.length c0, .int .i64 16777216, .slice A2 0 c2, .int .i64 1, .bool false] 40)).alloc (.cells #[.slice none 0 0, .int .i64 0, .slice none 0 0, .int .i64 0, .bool false] 40))).alloc (Nat.le_refl _) (.cells #[.int .i64 0, .int .i64 0, .int .i64 0] 26)
    have HF3 := Lib.hid (HFR.out.below hb3)
    clear hb3 HFR
    refine (HDO.out _ HF3.out.bl).mono ?_
    intro e w2 hp
    obtain ⟨B0, d0, B2, d2, rfl, hres, hdone, hpost⟩ := do_lift HF3.out HT2.out hSW hp
    have y0 := (blk_cell hres 0).trans rfl
    have y1 := (blk_cell hres 1).trans rfl
    have y2 := (blk_cell hres 2).trans rfl
    have y3 := (blk_cell hres 3).trans rfl
    have y4 := (blk_cell hres 4).trans rfl
    have g0 := blk_frozen hres 0
    have g1 := blk_frozen hres 1
    have g2 := blk_frozen hres 2
    have g3 := blk_frozen hres 3
    have g4 := blk_frozen hres 4
    have hrl := blk_lt hres
    have HDN := Lib.hid hdone
    have HPO := Lib.hid hpost
    clear hres hdone hpost hp
    go_wp2_with fail
    exact bodyPost_ret (do_res rfl rfl rfl HDN.out) rfl HPO.out
theorem used_leL : ∀ L : List (Nm × Fil), (∀ p ∈ L, p.2.seen.length ≤ big) → used L ≤ L.length * big
  | [], _ => by unfold used; simp
  | p :: r, h => by
    have h1 := used_leL r (fun q hq => h q (List.mem_cons_of_mem _ hq))
    have h2 := h p (List.mem_cons_self ..)
    have h3 : used (p :: r) = p.2.seen.length + used r := by unfold used; simp
    rw [h3, List.length_cons, Nat.succ_mul]
    omega
/-- The reference's append to a disk that was just loaded. -/
theorem doD_any (W W1 : World) (S : Nat → Prop) (v0 v2 : Value) (K : Dk) (N : Nat) (x : ByteArray) (B : Option Addr) (p q : Nat) (b : List Int) (hF : Fresh K) (hok : K.ok N) (hs : Srt K.files) (hroom : K.room = 16777216) (h : WantP W S v0 v2 (refG K.files)) (hC : (Kd.int .u8).C W B p b) (hpq : p ≤ q) (hp : b.length ≤ big) :
    Calls Try.prog 18 #[.agg #[v0, .int .i64 16777216, v2, .int .i64 0, .bool false], .int .i64 2, .string x, .int .i64 0, .slice B p q] W (DoAny S (own2 v2) (stepD (appendD b x.data.toList) (partD b x.data.toList) K).2 (refG (stepD (appendD b x.data.toList) (partD b x.data.toList) K).1.files) W) := by
  have hst : stepD (appendD b x.data.toList) (partD b x.data.toList) K = appendD b x.data.toList { K with steps := K.steps + 1 } := by
    unfold stepD
    rw [hF.off, hF.plan]
    rfl
  rw [hst]
  have hL : (refG K.files).length ≤ 256 := by rw [refG_length]; exact hok.2.2.2.1
  obtain ⟨r, hr, hc⟩ := find_ref hs.apart hok.2.2.2.1 x 16777216 [] 1 false
  refine Do_any W S v0 v2 _ _ _ x B p q h h.2.2 (fun W2 hb => ?_)
  have h2 := h.below hb
  unfold appendD
  show Calls _ _ _ _ (DoAny S (own2 v2) (match look K.files x.data.toList with | none => _ | some f => _ : Dk × Int).2 _ W2)
  rcases hc with ⟨rfl, hn⟩ | ⟨j, f, rfl, hj, hlk⟩
  · simp only [hn]
    exact do_none W2 S v0 v2 (refG K.files) 16777216 1 0 false x B p q h2 hr
  · simp only [hlk]
    have hg := refG_at hj
    obtain ⟨hgo, hgu⟩ := gfs_ok hok hF.grn
    have hmem := List.mem_of_getElem? hj
    have hadd : addsOf f = [] := by unfold addsOf; rw [(hF.files _ hmem).1]; rfl
    have huu : used K.files ≤ 4611686018427387904 := by
      have h1 := used_leL K.files (fun p hp => (hok.1 p hp).1.stop.1)
      have h2 := Nat.mul_le_mul_right big hok.2.2.2.1
      unfold big at h1 h2
      omega
    obtain ⟨kk, hkk⟩ : ∃ kk : Nat, 422212465065984 + 300 ≤ kk := ⟨_, Nat.le_refl _⟩
    have hus : leatref18_Used.f kk (refG K.files) 16777216 [] 1 false = some ((used K.files : Nat) : Int) := by
      have := used_l kk (gfs K.files) 0 16777216 [] 1 false (by rw [gfs_length]; exact hok.2.2.2.1) hgo (by rw [hgu]; exact huu) (by rw [gfs_length]; have := hok.2.2.2.1; omega) (Nat.zero_le _)
      rw [hgu] at this
      exact this
    have hd := do_file W2 S v0 v2 (refG K.files) 16777216 1 0 (used K.files) false x B p q j b _ h2 hr hg (by rw [hadd]; rfl) hus ⟨by omega, by omega⟩ ⟨by omega, by omega⟩ hL (Kd.C_below hC hb) hpq hp (fun b hb2 => h2.2.2 b hb2)
    refine hd.mono fun e w' hpost => ?_
    unfold DoIf at hpost
    rw [← hroom] at hpost
    by_cases hc : K.room - used K.files < b.length
    · rw [if_pos hc] at hpost ⊢
      rw [hroom] at hpost
      exact hpost
    · rw [if_neg hc] at hpost ⊢
      rw [hroom] at hpost
      show DoAny S (own2 v2) 0 (refG (upd K.files x.data.toList (putF f b))) W2 e w'
      rw [upd_set hs.apart _ hj, refG_set, putF_adds, hadd]
      exact hpost
end Go.Proofs.Ytkhopknpadncdaa
