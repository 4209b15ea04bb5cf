/- What the row of TopicsGets hands the walk: the variables' tables, MaxLen's cell; the builder; a configuration that came in. -/
import Derived.Test.YtciikcmiiebfpaaGreatDoorLawG
import Derived.Test.YtciikcmiiebfpaaGreatDoorRows
import Derived.Test.YtciikcmiiebfpaaGreatDoorTie
import Derived.ProofKit
import Derived.OpenShut
import Derived.ShutString
import Derived.ChangeOld
import Derived.SizedLaws
import Derived.ChangeMaps5
import Derived.HandedShaped
import Derived.MakeChecks
import Derived.Lay
import Derived.Lib.LaidTab
import Derived.Shelf.Vars
import Derived.SevenTiedAt
import Derived.Stop.LaidErr
import Derived.Deep.CondSized
import Derived.Deep.Slices
import Derived.ChangeSame
import Derived.ChangeVars
namespace Go.Proofs.YtciikcmiiebfpaaGreatDoor
open Go Go.ChangeShapes Go.WideShapes Go.ChangeAt Go.RowKit Go.Deep Go.Proofs.YtciikcmiiebfpaaGreatDoorW.PrintWords Go.Proofs.YtciikcmiiebfpaaGreatDoor.PTopicsGets
set_option linter.unusedVariables false

theorem own : ownKnob Tryz.prog.godebug = none := by kernel_rfl
theorem laidOutG : laidOutB Tryz.prog = true := by kernel_rfl
theorem pow10_data : (Rows.laid_internal_strconv_uint64pow10 : DataW Unit) = Lib.tabData .u64 Lib.pow10Tab := by kernel_rfl
theorem rows_data : (Rows.laid_leat_crc_rows : DataW Unit) = Lib.tabData .u32 rowsT := by kernel_rfl
theorem gPow : ∃ g, Tryz.prog.globalNamed "internal/strconv.uint64pow10" = some g ∧ ∃ t, (Tryz.prog.globals[g]?).map (·.type) = some t ∧ ∃ e, Tryz.prog.underlying t = some (.array 20 e) ∧ Tryz.prog.underlying e = some (.int .u64) ∧ Tryz.prog.cellsOf e = 1 ∧ Tryz.prog.cellsOf t = 20 := by
  exact ⟨(Tryz.prog.globalNamed "internal/strconv.uint64pow10").getD 0, by kernel_rfl, 382, by kernel_rfl, 316, by kernel_rfl, by kernel_rfl, by kernel_rfl, by kernel_rfl⟩
theorem gRows : Tryz.prog.globalNamed "leat/crc.rows" = some 1 ∧ ∃ t, (Tryz.prog.globals[(1 : Nat)]?).map (·.type) = some t ∧ ∃ e, Tryz.prog.underlying t = some (.array 16 e) ∧ Tryz.prog.underlying e = some (.int .u32) ∧ Tryz.prog.cellsOf e = 1 ∧ Tryz.prog.cellsOf t = 16 := by
  exact ⟨by kernel_rfl, 409, by kernel_rfl, 257, by kernel_rfl, by kernel_rfl, by kernel_rfl, by kernel_rfl⟩
theorem max_of_shaped {W : World} (h : W.ShapedOpen Tryz.prog) : ∃ m : Int, W.cell? ⟨4, 0, none⟩ = some (.int .i64 m) :=
  cell_of_shapedOpen_int (g := 4) (t := 3) (zero := #[.int .i64 0]) h (of_decide_eq_true (by kernel_rfl)) (by kernel_rfl) rfl (by kernel_rfl) (by kernel_rfl) Tryz.underlying3
theorem lib_of {W : World} (hs : W.ShapedOpen Tryz.prog) (h : laidMet Tryz.prog Rows.topicsGetsRow.laid W) : Lb.LibOk W := by
  have h2 := h.tail.tail
  rw [pow10_data] at h2
  obtain ⟨g, h1, t, ht, e, ha, hu, he, hc⟩ := gPow
  exact ⟨Lib.tabIs_of_head h1 ht ha hu he hc h2, max_of_shaped hs⟩
theorem tab_of {W : World} (h : laidMet Tryz.prog Rows.topicsGetsRow.laid W) : Tab W := by
  have h2 := h.tail.tail.tail.tail.tail.tail
  rw [rows_data] at h2
  obtain ⟨h1, t, ht, e, ha, hu, he, hc⟩ := gRows
  have h3 := Lib.tabIs_of_head h1 ht ha hu he hc h2
  exact fun i hi => h3.cell h1 i hi
theorem le_reach (s : ByteArray) (h : s.data.toList.length ≤ reachBytes) : s.size ≤ 140737488351232 := by
  rw [Array.length_toList] at h
  exact h

/-- The builder: the listed variables, the reach, the world's shape. -/
theorem returns_laid {H : Type} {enc : TypeId × Value → H} {a : Assume} {C : Checked} {os : Os} {f : FuncId} {fn : Func} {s : ChangeSpec} {conds : List PathCond} {apart fresh handsOn again : Bool} {X : World → Array Value → Prop}
    (hX : ∀ (w w' : World) (args : Array Value), w.heap = w'.heap → X w args → X w' args)
    (own : ownKnob C.prog.godebug = none) (started : os.Started) (noInit : C.prog.inits.idxOf? f = none) (hfn : C.prog.funcs[f]? = some fn)
    (witness : ∃ (w : World) (tape : Tape) (i : Input), w.os = os ∧ (w.forCall tape i).Shaped C.prog ∧ i.vars = [] ∧ Input.okWide C.prog (w.forCall tape i) .any w.heap.size f i ∧
      ((s.pre enc C.prog fn conds apart (w.forCall tape i).memory i.args ∧ X (w.forCall tape i).memory i.args) ∧ sizedMet enc C.prog fn (OpenSpec.ofChange s) apart (w.forCall tape i).memory i.args) ∧ a.holds C.prog (lone (Frame.enter C.prog f i.args .normal) [] (w.forCall tape i)))
    (contract : ∀ (W : World) (base : Nat) (args : Array Value) (ds gs : List (DataW H)) (before : List MemPlace),
      (∀ (j : Nat) t v, fn.params[j]? = some t → args[j]? = some v → Value.okWide C.prog W .any base t v) →
      DataW.Whole enc C.prog fn.params.toList s.vars apart W args.toList ds gs before →
      conds.all (PathCond.test C.prog ⟨fn.params.toList, ds, s.plain.varTypes C.prog, gs⟩) = true →
      (DataW.weightsEach C.prog (fn.params.toList ++ s.plain.varTypes C.prog) (ds ++ gs)).all (· ≤ reachBytes) = true → X W args →
      W.ShapedOpen C.prog →
      a.holds C.prog (lone (Frame.enter C.prog f args .normal) [] W) →
      Calls C.prog f args W fun e W' => ∃ v, e = .returned v ∧ s.post enc C.prog fn apart fresh handsOn again W args v W') :
    ReturnsInHanded a C os f .any (fun w args => (s.pre enc C.prog fn conds apart w args ∧ X w args) ∧ sizedMet enc C.prog fn (OpenSpec.ofChange s) apart w args) (s.post enc C.prog fn apart fresh handsOn again) := by
  refine returnsInHanded_of_calls own started noInit witness ?_
  intro w tape i _ hsh _ hok hpre hholds
  obtain ⟨_, _, _, fn', hfn', _, _, _, _, hval⟩ := hok
  have e : fn' = fn := Option.some.inj (hfn'.symm.trans hfn)
  subst e
  obtain ⟨⟨⟨ds, gs, before, hw, hc⟩, hx⟩, hz⟩ := hpre
  have hw' := DataW.Whole.of_heap (w' := w.forCall tape i) (by rfl) hw
  refine (contract (w.forCall tape i) w.heap.size i.args ds gs before hval hw' hc (hz.weights hw) (hX _ _ _ (by rfl) hx) hsh hholds).mono fun e W' ⟨v, he, hp⟩ => ?_
  subst he
  exact ChangeSpec.post_blind hp

theorem cells_conf : Tryz.prog.cellsOf 48 = 2 := by kernel_rfl
theorem bytes_conf : Tryz.prog.bytesOf 48 = 24 := by kernel_rfl
section
variable {H : Type} {enc : TypeId × Value → H} {W : World}
/-- Whatever lies in a reading is of a size that the form bears. -/
def Fits (t : TypeId) (d : DataW H) : Prop := ∀ q ∈ d.weights Tryz.prog t, q ≤ reachBytes
theorem weights_all {e : TypeId} {d : DataW H} : ∀ {l : List (DataW H)}, d ∈ l → ∀ q ∈ d.weights Tryz.prog e, q ∈ DataW.weightsAll Tryz.prog e l
  | x :: r, h, q, hq => by
    rw [DataW.weightsAll]
    rcases List.mem_cons.1 h with rfl | h
    · exact List.mem_append_left _ hq
    · exact List.mem_append_right _ (weights_all h q hq)
theorem weights_each : ∀ {ts : List TypeId} {ds : List (DataW H)} {j : Nat} {t : TypeId} {d : DataW H}, ts[j]? = some t → ds[j]? = some d → ∀ q ∈ d.weights Tryz.prog t, q ∈ DataW.weightsEach Tryz.prog ts ds := fun h1 h2 => DataW.weights_mem_each h1 h2
set_option maxRecDepth 100000 in
theorem trod_conf {fuel : Nat} {cs : List Value} {x : DataW H × List MemPlace} (hf : DataW.trod enc Tryz.prog W 0 (fun _ => true) true fuel 48 cs = some x) (hw : Fits 48 x.1) :
    ∃ p : SC, k48.K W p cs ∧ p.f0.size ≤ 140737488351232 := by
  obtain ⟨y0, y1, n, rfl, hlen, h0, h1⟩ := trod_struct2 Tryz.underlying48 hf
  rw [cells_conf] at hlen
  have c0 : Tryz.prog.cellsOf 9 = 1 := by kernel_rfl
  have c1 : Tryz.prog.cellsOf 3 = 1 := by kernel_rfl
  have h0' : DataW.trod enc Tryz.prog W 0 (fun _ => true) true n 9 ((cs.drop 0).take (Tryz.prog.cellsOf 9)) = some y0 := h0
  have h1' : DataW.trod enc Tryz.prog W 0 (fun _ => true) true n 3 ((cs.drop 1).take (Tryz.prog.cellsOf 3)) = some y1 := h1
  rw [c0] at h0'
  rw [c1] at h1'
  obtain ⟨s, g0, ey0, hs⟩ := DataW.trod_string Tryz.underlying9 h0'
  obtain ⟨k, g1, _, _⟩ := DataW.trod_int Tryz.underlying3 h1'
  refine ⟨⟨s, k⟩, ?_, ?_⟩
  · have hcs : cs = [.string s, .int .i64 k] := by
      match cs, hlen with
      | [a0, a1], _ =>
        simp at g0 g1
        rw [g0, g1]
    rw [hcs]
    exact k48_mk W ⟨s, k⟩
  · have h2 := hw s.data.toList.length (by
      rw [ey0]
      show s.data.toList.length ∈ DataW.weights Tryz.prog 48 (.agg [.lit (.string s.data.toList), y1.1])
      simp only [DataW.weights, Tryz.underlying48]
      show s.data.toList.length ∈ (DataW.lit (.string s.data.toList) : DataW H).weights Tryz.prog 9 ++ _
      refine List.mem_append_left _ ?_
      simp [DataW.weights])
    exact le_reach s h2
set_option maxRecDepth 100000 in
theorem open_confs {base : Nat} {v : Value} {d : DataW H} {p : List MemPlace} (hv : Value.okWide Tryz.prog W .any base 22 v) (h : DataW.Trod enc Tryz.prog W 0 (fun _ => true) true 22 v d p) (hw : Fits 22 d) :
    ∃ (A : Option Addr) (n c : Nat) (fs : List SC), v = .slice A n c ∧ n ≤ c ∧ k48.C W A n fs ∧ n ≤ 5864062014800 ∧ ∀ f ∈ fs, f.f0.size ≤ 140737488351232 := by
  obtain ⟨a0, len, cap, rfl⟩ := okWide_slice Tryz.underlying22 hv
  obtain ⟨fuel, hf⟩ := h
  rcases open_slice Tryz.underlying22 hf with ⟨hcs, _⟩ | ⟨a, l, c, m, n, D, Pl, hcs, _, hl, hm, hmm, hx, hi⟩
  · simp [Value.cells] at hcs
    obtain ⟨rfl, rfl, rfl⟩ := hcs
    exact ⟨none, 0, 0, [], rfl, Nat.le_refl _, Kd.C_nil _ _, Nat.zero_le _, fun f hf => (nomatch hf)⟩
  · simp [Value.cells] at hcs
    obtain ⟨rfl, rfl, rfl⟩ := hcs
    rw [if_pos rfl] at hmm
    subst hmm
    rw [cells_conf] at hi
    simp only [Prod.mk.injEq] at hx
    have hww : ∀ q ∈ ((((List.range len).map D).length + ((List.range (m - len)).map fun j => D (len + j)).length) * Tryz.prog.bytesOf 48) :: (DataW.weightsAll Tryz.prog 48 ((List.range len).map D) ++ DataW.weightsAll Tryz.prog 48 ((List.range (m - len)).map fun j => D (len + j))), q ≤ reachBytes := fun q hq => hw q (by
      rw [hx.1]
      simp only [DataW.weights, Tryz.underlying22]
      exact hq)
    have hlen := hww _ (List.mem_cons_self ..)
    rw [bytes_conf] at hlen
    simp only [List.length_map, List.length_range, reachBytes] at hlen
    have each : ∀ i, i < len → ∃ y : SC, (∃ cs, k48.K W y cs ∧ ∀ j u, cs[j]? = some u → W.cell? ((a.add (i * 2)).add j) = some u) ∧ y.f0.size ≤ 140737488351232 := fun i hil => by
      obtain ⟨cs', hc, ht⟩ := hi i (by omega)
      obtain ⟨y, hK, h1⟩ := trod_conf ht (fun q hq => hww q (List.mem_cons_of_mem _ (List.mem_append_left _ (weights_all (List.mem_map.2 ⟨i, List.mem_range.2 hil, rfl⟩) q hq))))
      obtain ⟨_, hlc, hat⟩ := World.cells?_some hc
      refine ⟨y, ⟨cs', hK, fun j u hu => ?_⟩, h1⟩
      have hj := (List.getElem?_eq_some_iff.1 hu).1
      rw [hat j (by omega), hu]
    haveI : Inhabited SC := ⟨⟨ByteArray.empty, 0⟩⟩
    obtain ⟨E, hE⟩ := choose_lt each
    refine ⟨some a, len, _, (List.range len).map E, rfl, hl, ⟨by simp, by unfold maxLen at hm; omega, fun h0 => ⟨a, rfl, fun j q hj => ?_⟩⟩, by omega, fun f hf => ?_⟩
    · have hjl : j < len := by
        have := (List.getElem?_eq_some_iff.1 hj).1
        simpa using this
      simp [hjl] at hj
      subst hj
      obtain ⟨⟨cs, hK, hc⟩, _⟩ := hE j hjl
      refine ⟨cs, Kd.K_len _ hK, hK, fun i u hu => ?_⟩
      have := hc i u hu
      obtain ⟨b, o, sp⟩ := a
      obtain ⟨⟨cs0, hK0, hcc0⟩, _⟩ := hE 0 (by omega)
      obtain rfl := k48_open hK0
      have h00 := hcc0 0 _ rfl
      have hspot : sp = none := by simpa [Addr.add] using World.cell?_spot h00
      subst hspot
      rw [WideShapes.add_plain, WideShapes.add_plain] at this
      show W.cell? ((⟨b, o, none⟩ : Addr).add (j * 2 + i)) = some u
      rw [WideShapes.add_plain, ← Nat.add_assoc]
      exact this
    · obtain ⟨i, hi2, rfl⟩ := List.mem_map.1 hf
      exact (hE i (List.mem_range.1 hi2)).2
end
end Go.Proofs.YtciikcmiiebfpaaGreatDoor
