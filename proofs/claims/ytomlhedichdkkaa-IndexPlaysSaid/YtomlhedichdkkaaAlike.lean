/- leatref20.Alike of two rows that read the same. -/
import Derived.Test.YtomlhedichdkkaaAdd3
namespace Go.Proofs.Ytomlhedichdkkaa
open Go Go.RowKit
set_option linter.unusedVariables false

/-- A row of entries that is read only. -/
def Row (w : World) (A : Option Addr) (es : List Ent) : Prop :=
  0 < es.length → ∃ b o, A = some ⟨b, o, none⟩ ∧ b < w.heap.size ∧ ∀ i e, es[i]? = some e → EntAt w b (o + i * 8) e
theorem Row.below {w w' : World} {A : Option Addr} {es : List Ent} {B : Nat} (h : Row w A es) (hl : ∀ a, A = some a → a.block < B) (hb : Below B w w') : Row w' A es := fun hn => by
  obtain ⟨b, o, rfl, hlt, hc⟩ := h hn
  exact ⟨b, o, rfl, Nat.lt_of_lt_of_le hlt hb.size, fun i e he => (hc i e he).below hb (hl _ rfl)⟩
theorem Row.below' {w w' : World} {A : Option Addr} {es : List Ent} (h : Row w A es) (hb : Below w.heap.size w w') : Row w' A es := fun hn => by
  obtain ⟨b, o, rfl, hlt, hc⟩ := h hn
  exact ⟨b, o, rfl, Nat.lt_of_lt_of_le hlt hb.size, fun i e he => (hc i e he).below hb hlt⟩
theorem Owns.row {w : World} {B c : Nat} {A : Option Addr} {es : List Ent} (h : Owns w B 30 8 (.slice A es.length c) es.length (entVals es)) : Row w A es := fun hn => by
  obtain ⟨g, cap, hv, _, hg, _, _, hx⟩ := h.ent hn
  injection hv with e1
  exact ⟨g, 0, e1, hg, fun i e he => by rw [Nat.zero_add]; exact hx i e he⟩
theorem Row.take {w : World} {A : Option Addr} {es : List Ent} (h : Row w A es) (k : Nat) : Row w A (es.take k) := fun hn => by
  rw [List.length_take] at hn
  obtain ⟨b, o, e, hlt, hc⟩ := h (by omega)
  refine ⟨b, o, e, hlt, fun i x hx => hc i x ?_⟩
  rw [List.getElem?_take] at hx
  split at hx
  · exact hx
  · cases hx

set_option maxHeartbeats 1000000 in
theorem alike_any (w : World) (es : List Ent) (A A' : Option Addr) (c c' n : Nat) (hn : es.length = n) (hm : n ≤ 140737488355328) (h1 : Row w A es) (h2 : Row w A' es) :
    Calls Try.prog 18 #[.slice A n c, .slice A' n c'] w fun r w' => r = .returned (.bool true) ∧ Below w.heap.size w w' := by
  have hb0 := Below.refl w.heap.size w
  have H1 := Lib.hid h1
  have H2 := Lib.hid h2
  have HN := Lib.hid hn
  clear h1 h2 hn
  go_enter Try.func18, Try.ntmps18
  go_wp2_with fail
  go_loopw [5] (fun i wr => ∃ m : Nat, i = .int .i64 (m : Int) ∧ m ≤ n ∧ Below w.heap.size w wr) (fun i _ => n - (intOf i).toNat)
  case atStart => exact ⟨0, rfl, Nat.zero_le _, hb0⟩
  case round =>
    obtain ⟨m, rfl, hmn, hbr⟩ := hrel
    have HBR := Lib.hid hbr
    by_cases hlt : m < n
    · obtain ⟨e, he⟩ : ∃ e, es[m]? = some e := ⟨_, List.getElem?_eq_getElem (by rw [HN.out]; exact hlt)⟩
      obtain ⟨b, o, rfl, hbl, hc⟩ := H1.out (by rw [HN.out]; omega)
      obtain ⟨b', o', rfl, hbl', hc'⟩ := H2.out (by rw [HN.out]; omega)
      obtain ⟨d0, d1, d2, d3, d4, d5, d6, d7⟩ := (hc m e he).below hbr hbl
      obtain ⟨f0, f1, f2, f3, f4, f5, f6, f7⟩ := (hc' m e he).below hbr hbl'
      clear hbr hc hc' he
      have hq1 : (0 : Int) ≤ (m : Int) := by omega
      have hq2 : (m : Int) < (n : Int) := by omega
      go_wp2_with fail
      go_region
      go_wp2_with fail
      go_roundw
      case rel => exact ⟨m + 1, by go_num, by omega, HBR.out.drew⟩
      case measure => simp [intOf]; omega
    · have : m = n := by omega
      subst this
      clear hbr
      go_wp2_with fail
      go_ret
      exact ⟨rfl, HBR.out⟩
end Go.Proofs.Ytomlhedichdkkaa
