/- PRINTED by gen_memf.py: DiskMemory: a slice of files and a slice of bytes that came in, opened. -/
import Derived.Test.YtkhopknpadncdaaMemL
import Derived.Test.YtkhopknpadncdaaRows
import Derived.ProofKit
import Derived.OpenShut
import Derived.ShutString
import Derived.ChangeOld
import Derived.SizedLaws
import Derived.Deep.CondSized
import Derived.Deep.Fields
import Derived.ChangeSame
import Derived.ChangeVars
import Derived.JoinedOf
import Derived.RowKitTokens
import Derived.Stop.Joined
namespace Go.Proofs.Ytkhopknpadncdaa
open Go Go.ChangeShapes Go.WideShapes Go.ChangeAt Go.RowKit Go.Deep Go.Proofs.YtkhopknpadncdaaW.PrintWords Go.Proofs.Ytkhopknpadncdaa.PDiskMemory
set_option linter.unusedVariables false
theorem own : ownKnob Try.prog.godebug = none := by kernel_rfl
theorem laidOut : laidOutB Try.prog = true := by kernel_rfl
theorem cells_u8 : Try.prog.cellsOf 5 = 1 := by kernel_rfl
theorem cells_file : Try.prog.cellsOf 45 = 2 := by kernel_rfl
theorem bytes_u8 : Try.prog.bytesOf 5 = 1 := by kernel_rfl
theorem bytes_file : Try.prog.bytesOf 45 = 40 := by kernel_rfl
theorem wf_u8 {x : Int} (h : (Lit.int .u8 x).wf = true) : 0 ≤ x ∧ x ≤ 255 := by
  simpa [Lit.wf, IntKind.min, IntKind.max, IntKind.signed, IntKind.bits] using h
theorem bytes_row {W : World} {A : Option Addr} {n : Nat} {zs : List Int} (hn : n ≤ zs.length) (hm : n ≤ 9223372036854775807) (hz : ∀ a, A = some a → ∀ i, i < zs.length → W.cell? (a.add i) = some (.int .u8 (zs.getD i 0))) (hA : A = none → n = 0) : (Kd.int .u8).C W A n (zs.take n) :=
  Kd.C_of_reads (d := 0) ⟨by rw [List.length_take]; omega, hm, fun h0 => by
    cases A with
    | none => have := hA rfl; omega
    | some a => exact ⟨a, rfl, fun j hj => by rw [hz a rfl j (by omega)]; simp [List.getD_eq_getElem?_getD, hj]⟩⟩
section
variable {H : Type} {enc : TypeId × Value → H} {W : World}
/-- Whatever lies in a reading is of a size that the form bears. -/
def Fits (t : TypeId) (d : DataW H) : Prop := ∀ q ∈ d.weights Try.prog t, q ≤ reachBytes
theorem weights_all {e : TypeId} {d : DataW H} : ∀ {l : List (DataW H)}, d ∈ l → ∀ q ∈ d.weights Try.prog e, q ∈ DataW.weightsAll Try.prog e l
  | x :: r, h, q, hq => by
    rw [DataW.weightsAll]
    rcases List.mem_cons.1 h with rfl | h
    · exact List.mem_append_left _ hq
    · exact List.mem_append_right _ (weights_all h q hq)
set_option maxRecDepth 100000 in
theorem trod_u8 {fuel : Nat} {cs : List Value} {x : DataW H × List MemPlace} (hf : DataW.trod enc Try.prog W 0 (fun _ => true) true fuel 34 cs = some x) (hw : Fits 34 x.1) :
    ∃ (A : Option Addr) (n c : Nat) (xs : List Int), cs = [.slice A n c] ∧ n ≤ c ∧ (Kd.int .u8).C W A n xs ∧ (∀ b ∈ xs, 0 ≤ b ∧ b ≤ 255) ∧ n ≤ 140737488351232 := by
  rcases open_ints Try.underlying34 Try.underlying5 cells_u8 hf with ⟨hcs, _⟩ | ⟨a, l, c, zs, hcs, _, hl, hm, hlen, hx, hi, hwf⟩
  · exact ⟨none, 0, 0, [], hcs, Nat.le_refl _, Kd.C_nil _ _, fun b hb => (nomatch hb), Nat.zero_le _⟩
  · rw [if_pos rfl] at hlen
    refine ⟨some a, l, c, zs.take l, hcs, hl, bytes_row (by omega) (by unfold maxLen at hm; omega) (fun a' e i hi' => by injection e with e; subst e; exact hi i hi') (fun e => nomatch e), fun b hb => wf_u8 (hwf b (List.mem_of_mem_take hb)), ?_⟩
    have h1 := hw (((lits (H := H) .u8 (zs.take l)).length + (lits (H := H) .u8 (zs.drop l)).length) * Try.prog.bytesOf 5) (by
      rw [hx]
      simp only [DataW.weights, Try.underlying34]
      exact List.mem_cons_self ..)
    rw [bytes_u8] at h1
    have h2 : (lits (H := H) .u8 (zs.take l)).length = l := by simp [lits]; omega
    simp only [reachBytes] at h1
    omega
set_option maxRecDepth 100000 in
theorem trod_file {fuel : Nat} {cs : List Value} {x : DataW H × List MemPlace} (hf : DataW.trod enc Try.prog W 0 (fun _ => true) true fuel 45 cs = some x) (hw : Fits 45 x.1) :
    ∃ p : SF, k45.K W p cs ∧ p.f0.size ≤ maxLen ∧ Byt p.f1 ∧ p.f1.length ≤ big := by
  obtain ⟨y0, y1, n, rfl, hlen, h0, h1⟩ := trod_struct2 Try.underlying45 hf
  rw [cells_file] at hlen
  have c0 : Try.prog.cellsOf 9 = 1 := by kernel_rfl
  have c1 : Try.prog.cellsOf 34 = 1 := by kernel_rfl
  have h0' : DataW.trod enc Try.prog W 0 (fun _ => true) true n 9 ((cs.drop 0).take (Try.prog.cellsOf 9)) = some y0 := h0
  have h1' : DataW.trod enc Try.prog W 0 (fun _ => true) true n 34 ((cs.drop 1).take (Try.prog.cellsOf 34)) = some y1 := h1
  rw [c0] at h0'
  rw [c1] at h1'
  obtain ⟨s, g0, _, hs⟩ := DataW.trod_string Try.underlying9 h0'
  obtain ⟨A, m, c, xs, g1, hmc, hC, hb, hml⟩ := trod_u8 h1' (fun q hq => hw q (by
    show q ∈ DataW.weights Try.prog 45 (.agg [y0.1, y1.1])
    simp only [DataW.weights, Try.underlying45]
    show q ∈ y0.1.weights Try.prog 9 ++ (y1.1.weights Try.prog 34 ++ [])
    exact List.mem_append_right _ (List.mem_append_left _ hq)))
  have hm : m = xs.length := (Kd.C_len hC).symm
  subst hm
  refine ⟨⟨s, xs⟩, ?_, hs, hb, hml⟩
  have hcs : cs = [.string s, .slice A xs.length c] := by
    match cs, hlen with
    | [a0, a1], _ =>
      simp at g0 g1
      rw [g0, g1]
  rw [hcs]
  exact k45_mk W ⟨s, xs⟩ hmc hC
set_option maxRecDepth 100000 in
theorem open_files {base : Nat} {v : Value} {d : DataW H} {p : List MemPlace} (hv : Value.okWide Try.prog W .any base 33 v) (h : DataW.Trod enc Try.prog W 0 (fun _ => true) true 33 v d p) (hw : Fits 33 d) :
    ∃ (A : Option Addr) (n c : Nat) (fs : List SF), v = .slice A n c ∧ n ≤ c ∧ k45.C W A n fs ∧ fs.length ≤ 3518437208882 ∧ ∀ f ∈ fs, f.f0.size ≤ maxLen ∧ Byt f.f1 ∧ f.f1.length ≤ big := by
  obtain ⟨a0, len, cap, rfl⟩ := okWide_slice Try.underlying33 hv
  obtain ⟨fuel, hf⟩ := h
  rcases open_slice Try.underlying33 hf with ⟨hcs, _⟩ | ⟨a, l, c, m, n, D, Pl, hcs, _, hl, hm, hmm, hx, hi⟩
  · simp [Value.cells] at hcs
    obtain ⟨rfl, rfl, rfl⟩ := hcs
    exact ⟨none, 0, 0, [], rfl, Nat.le_refl _, Kd.C_nil _ _, Nat.zero_le _, fun f hf => (nomatch hf)⟩
  · simp [Value.cells] at hcs
    obtain ⟨rfl, rfl, rfl⟩ := hcs
    rw [if_pos rfl] at hmm
    subst hmm
    rw [cells_file] at hi
    simp only [Prod.mk.injEq] at hx
    have hww : ∀ q ∈ ((((List.range len).map D).length + ((List.range (m - len)).map fun j => D (len + j)).length) * Try.prog.bytesOf 45) :: (DataW.weightsAll Try.prog 45 ((List.range len).map D) ++ DataW.weightsAll Try.prog 45 ((List.range (m - len)).map fun j => D (len + j))), q ≤ reachBytes := fun q hq => hw q (by
      rw [hx.1]
      simp only [DataW.weights, Try.underlying33]
      exact hq)
    have hlen := hww _ (List.mem_cons_self ..)
    rw [bytes_file] at hlen
    simp only [List.length_map, List.length_range, reachBytes] at hlen
    have each : ∀ i, i < len → ∃ y : SF, (∃ cs, k45.K W y cs ∧ ∀ j u, cs[j]? = some u → W.cell? ((a.add (i * 2)).add j) = some u) ∧ y.f0.size ≤ maxLen ∧ Byt y.f1 ∧ y.f1.length ≤ big := fun i hil => by
      obtain ⟨cs', hc, ht⟩ := hi i (by omega)
      obtain ⟨y, hK, h1, h2, h3⟩ := trod_file ht (fun q hq => hww q (List.mem_cons_of_mem _ (List.mem_append_left _ (weights_all (List.mem_map.2 ⟨i, List.mem_range.2 hil, rfl⟩) q hq))))
      obtain ⟨_, hlc, hat⟩ := World.cells?_some hc
      refine ⟨y, ⟨cs', hK, fun j u hu => ?_⟩, h1, h2, h3⟩
      have hj := (List.getElem?_eq_some_iff.1 hu).1
      rw [hat j (by omega), hu]
    haveI : Inhabited SF := ⟨⟨ByteArray.empty, []⟩⟩
    obtain ⟨E, hE⟩ := choose_lt each
    refine ⟨some a, len, _, (List.range len).map E, rfl, hl, ⟨by simp, by unfold maxLen at hm; omega, fun h0 => ⟨a, rfl, fun j q hj => ?_⟩⟩, by rw [List.length_map, List.length_range]; omega, fun f hf => ?_⟩
    · have hjl : j < len := by
        have := (List.getElem?_eq_some_iff.1 hj).1
        simpa using this
      simp [hjl] at hj
      subst hj
      obtain ⟨⟨cs, hK, hc⟩, _⟩ := hE j hjl
      refine ⟨cs, Kd.K_len _ hK, hK, fun i u hu => ?_⟩
      have := hc i u hu
      obtain ⟨b, o, sp⟩ := a
      obtain ⟨⟨cs0, hK0, hcc0⟩, _⟩ := hE 0 (by omega)
      obtain ⟨A1, c1, rfl, _⟩ := k45_open hK0
      have h00 := hcc0 0 _ rfl
      have hspot : sp = none := by simpa [Addr.add] using World.cell?_spot h00
      subst hspot
      rw [WideShapes.add_plain, WideShapes.add_plain] at this
      show W.cell? ((⟨b, o, none⟩ : Addr).add (j * 2 + i)) = some u
      rw [WideShapes.add_plain, ← Nat.add_assoc]
      exact this
    · obtain ⟨i, hi2, rfl⟩ := List.mem_map.1 hf
      exact (hE i (List.mem_range.1 hi2)).2
theorem weights_each : ∀ {ts : List TypeId} {ds : List (DataW H)} {j : Nat} {t : TypeId} {d : DataW H}, ts[j]? = some t → ds[j]? = some d → ∀ q ∈ d.weights Try.prog t, q ∈ DataW.weightsEach Try.prog ts ds := fun h1 h2 => DataW.weights_mem_each h1 h2
set_option maxRecDepth 100000 in
theorem open_bytes {base : Nat} {v : Value} {d : DataW H} {p : List MemPlace} (hv : Value.okWide Try.prog W .any base 34 v) (h : DataW.Trod enc Try.prog W 0 (fun _ => true) true 34 v d p) (hw : Fits 34 d) :
    ∃ (A : Option Addr) (n c : Nat) (xs : List Int), v = .slice A n c ∧ n ≤ c ∧ (Kd.int .u8).C W A n xs ∧ Byt xs ∧ xs.length ≤ big := by
  obtain ⟨a0, len, cap, rfl⟩ := okWide_slice Try.underlying34 hv
  obtain ⟨fuel, hf⟩ := h
  obtain ⟨A, n, c, xs, hcs, hnc, hC, hb, hn⟩ := trod_u8 hf hw
  simp [Value.cells] at hcs
  obtain ⟨rfl, rfl, rfl⟩ := hcs
  exact ⟨_, _, _, xs, rfl, hnc, hC, hb, by rw [Kd.C_len hC]; exact hn⟩
set_option maxRecDepth 100000 in
theorem open_str {base : Nat} {v : Value} {d : DataW H} {p : List MemPlace} (hv : Value.okWide Try.prog W .any base 9 v) (h : DataW.Trod enc Try.prog W 0 (fun _ => true) true 9 v d p) : ∃ s, v = .string s ∧ s.size ≤ maxLen := by
  obtain ⟨s, rfl⟩ := okWide_string Try.underlying9 hv
  obtain ⟨fuel, hf⟩ := h
  obtain ⟨s', h, _, hs⟩ := DataW.trod_string Try.underlying9 hf
  simp [Value.cells] at h
  rw [h]
  exact ⟨s', rfl, hs⟩
end
end Go.Proofs.Ytkhopknpadncdaa
