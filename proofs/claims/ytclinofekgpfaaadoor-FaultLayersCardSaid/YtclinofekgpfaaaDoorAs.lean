/- errors.As over a chain of places: the number's arm. -/
import Derived.Test.YtclinofekgpfaaaDoorFacts
namespace Go.Proofs.YtclinofekgpfaaaDoor
open Go Go.RowKit Go.Extern.Stop Go.Stop Go.Extern
set_option linter.unusedVariables false

/-- The number e, come through the places ps, the outermost first, all in blocks below B. -/
def Chain (w : World) (B : Nat) (e : Int) : List Int → Value → Prop
  | [], v => v = .iface 27 (.int .i64 e)
  | p :: ps, v => ∃ b u, v = .iface 43 (.pointer (some ⟨b, 0, none⟩)) ∧ b < B ∧ w.heap[b]? = some (.cells #[.int .i64 p, u] 45 (0, 0)) ∧ Chain w B e ps u

theorem Chain.below {w w' : World} {B : Nat} {e : Int} (hb : Below B w w') : ∀ {ps : List Int} {v : Value}, Chain w B e ps v → Chain w' B e ps v
  | [], _, h => h
  | _ :: _, _, ⟨b, u, h1, h2, h3, h4⟩ => ⟨b, u, h1, h2, (hb.block b h2).trans h3, Chain.below hb h4⟩
theorem Chain.mono {w : World} {B B' : Nat} {e : Int} (hB : B ≤ B') : ∀ {ps : List Int} {v : Value}, Chain w B e ps v → Chain w B' e ps v
  | [], _, h => h
  | _ :: _, _, ⟨b, u, h1, h2, h3, h4⟩ => ⟨b, u, h1, Nat.lt_of_lt_of_le h2 hB, h3, Chain.mono hB h4⟩
theorem Chain.ne {w : World} {B : Nat} {e : Int} {ps : List Int} {v : Value} (h : Chain w B e ps v) (W : World) : (binOp .eql 25 v .nilIface).run Tryd.prog W = .ok (.bool false) W := by
  cases ps with
  | nil => rw [show v = _ from h]; exact f_neNilE _ _
  | cons p ps => obtain ⟨b, u, rfl, _⟩ := h; exact f_neNil _ _

theorem Chain.form {w : World} {B : Nat} {e : Int} {ps : List Int} {v : Value} (h : Chain w B e ps v) : v = .iface 27 (.int .i64 e) ∨ ∃ b, v = .iface 43 (.pointer (some ⟨b, 0, none⟩)) := by
  cases ps with
  | nil => exact .inl h
  | cons p ps => obtain ⟨b, u, rfl, _⟩ := h; exact .inr ⟨b, rfl⟩

/-- (*placed).Unwrap. -/
theorem unwrap_any (w : World) (b : Nat) (p : Int) (u : Value) (h : w.heap[b]? = some (.cells #[.int .i64 p, u] 45 (0, 0))) :
    Calls Tryd.prog 62 #[.pointer (some ⟨b, 0, none⟩)] w fun r w' => r = .returned u ∧ w = w' := by
  have c1 : w.cell? ⟨b, 1, none⟩ = some u := cell_of_row w b 1 _ _ _ h
  clear h
  go_enter Tryd.func62, Tryd.ntmps62
  go_wp2
  go_ret
  exact ⟨rfl, rfl⟩

set_option maxHeartbeats 4000000 in
theorem as26_errno (w : World) (B : Nat) (e : Int) (ps : List Int) (v old : Value) (hc : Chain w B e ps v) (a t : Nat) (ha : w.cell? ⟨a, 0, none⟩ = some (.pointer (some ⟨t, 0, none⟩))) (ht : w.cell? ⟨t, 0, none⟩ = some old) (hf : w.frozen? ⟨t, 0, none⟩ = false) (hBt : B ≤ t) (hB : B ≤ w.heap.size) (hal : a < w.heap.size) (htl : t < w.heap.size) :
    Calls Tryd.prog 26 #[v, .iface 47 (.pointer (some ⟨t, 0, none⟩)), .agg #[.pointer (some ⟨4, 47, none⟩), .pointer (some ⟨a, 0, none⟩), .int .u64 150], .iface 69 (.agg #[.pointer (some ⟨4, 27, none⟩)])] w
      fun r w' => r = .returned (.bool true) ∧ Below B w w' ∧ w'.cell? ⟨t, 0, none⟩ = some (.int .i64 e) := by
  have h21 := @run_callFunc_extern Tryd.prog 21 _ ReflectliteType.typeOf Tryd.func21 (by kernel_rfl) (by kernel_rfl) (by kernel_rfl) (by kernel_rfl)
  have h67 := @run_callFunc_extern Tryd.prog 67 _ (ReflectliteType.relation "AssignableTo" ReflectliteType.assignableTo) Tryd.func67 (by kernel_rfl) (by kernel_rfl) (by kernel_rfl) (by kernel_rfl)
  have h27 := @run_callFunc_extern Tryd.prog 27 _ (ReflectliteValue.method (ReflectliteValue.valueError "reflectlite.Value.Elem" 0) ReflectliteValue.elem) Tryd.func27 (by kernel_rfl) (by kernel_rfl) (by kernel_rfl) (by kernel_rfl)
  have h23 := @run_callFunc_extern Tryd.prog 23 _ (fun args => ReflectliteValue.unpack (args.getD 0 (.tuple #[]))) Tryd.func23 (by kernel_rfl) (by kernel_rfl) (by kernel_rfl) (by kernel_rfl)
  have h28 := @run_callFunc_extern Tryd.prog 28 _ ReflectliteValue.set Tryd.func28 (by kernel_rfl) (by kernel_rfl) (by kernel_rfl) (by kernel_rfl)
  have tE := f_typeOfErrno
  have tP := f_typeOfPlaced
  have mA := f_methodAssignableTo
  have aE := f_asgEE
  have aP := f_asgPE
  have vE := f_valueOfErrno
  have nA := f_noAsP
  have uP := f_hasUnwrapP
  have mU := f_methodUnwrap
  have hb1 : Below B w (w.alloc (.cells #[.pointer (some ⟨4, 47, none⟩), .pointer (some ⟨a, 0, none⟩), .int .u64 150] 61)) := (Below.refl _ _).alloc hB _
  have hbw : Below w.heap.size w (w.alloc (.cells #[.pointer (some ⟨4, 47, none⟩), .pointer (some ⟨a, 0, none⟩), .int .u64 150] 61)) := (Below.refl _ _).alloc (Nat.le_refl _) _
  have HX : Hid ((w.alloc (.cells #[.pointer (some ⟨4, 47, none⟩), .pointer (some ⟨a, 0, none⟩), .int .u64 150] 61)).heap[w.heap.size]? = some (.cells #[.pointer (some ⟨4, 47, none⟩), .pointer (some ⟨a, 0, none⟩), .int .u64 150] 61 (0, 0))) := heap_alloc_new w _
  have HA := Lib.hid (keep_cell hbw hal ha)
  have HT := Lib.hid (keep_cell hbw htl ht)
  have HF : Hid ((w.alloc (.cells #[.pointer (some ⟨4, 47, none⟩), .pointer (some ⟨a, 0, none⟩), .int .u64 150] 61)).frozen? ⟨t, 0, none⟩ = false) := (hbw.frozen (p := ⟨t, 0, none⟩) htl).trans hf
  have HC := Lib.hid (hc.below hb1)
  have HB1 := Lib.hid hb1
  have HS : Hid (w.heap.size < (w.alloc (.cells #[.pointer (some ⟨4, 47, none⟩), .pointer (some ⟨a, 0, none⟩), .int .u64 150] 61)).heap.size) := by show _ < _; simp
  clear hc hb1 hbw ha ht hf
  go_enter Tryd.func26, Tryd.ntmps26
  go_wp2_with fail
  generalize w.alloc (.cells #[.pointer (some ⟨4, 47, none⟩), .pointer (some ⟨a, 0, none⟩), .int .u64 150] 61) = W1 at *
  go_loopg [0] ps.length (fun k v' wr => ∃ qs : List Int, qs.length = k ∧ Chain wr B e qs v' ∧ Below W1.heap.size W1 wr)
  case atStart => exact ⟨ps, rfl, HC.out, Below.refl _ _⟩
  case round =>
    obtain ⟨qs, hk, hch, hbr⟩ := hrel
    have HBR := Lib.hid hbr
    have hx := (hbr.block _ HS.out).trans HX.out
    have x0 := cell_of_row wr w.heap.size 0 _ _ _ hx
    have x1 := cell_of_row wr w.heap.size 1 _ _ _ hx
    have x2 := cell_of_row wr w.heap.size 2 _ _ _ hx
    simp only [List.getElem?_toArray, List.getElem?_cons_zero, List.getElem?_cons_succ] at x0 x1 x2
    have HW1 := HB1.out.size
    cases qs with
    | nil =>
      have hch' : _ = _ := hch
      subst hch'
      have hwl := hbr.size
      have hs := HS.out
      have ha' := keep_cell hbr (Nat.lt_trans hal hs) HA.out
      have ht' := keep_cell hbr (Nat.lt_trans htl hs) HT.out
      have hf' := (hbr.frozen (p := ⟨t, 0, none⟩) (Nat.lt_trans htl hs)).trans HF.out
      have htw : t < wr.heap.size := by omega
      have el := f_elemVE ⟨a, 0, none⟩ ⟨t, 0, none⟩ wr ha'
      have st := f_setErrno ⟨t, 0, none⟩ ⟨wr.heap.size, 0, none⟩ e old (wr.alloc (.cells #[.int .i64 e] 27)) (by simp) (by rw [World.cell?_alloc_lt _ _ ⟨t, 0, none⟩ htw]; exact ht') (by rw [World.frozen?_alloc_old _ _ ⟨t, 0, none⟩ (Nat.ne_of_lt htw)]; exact hf')
      have HT2 := Lib.hid ht'
      clear hx ha' ht' hf' hch hbr hwl hs
      go_wp2
      go_ret
      refine ⟨rfl, ((HB1.out.trans (HBR.out.mono (Nat.le_trans hB HW1))).setCell (p := ⟨t, 0, none⟩) hBt _).alloc (by simp; omega) _, ?_⟩
      rw [World.cell?_alloc_lt _ _ ⟨t, 0, none⟩ (by simpa using htw)]
      exact World.cell?_setCell_same' _ _ _ (by rw [HT2.out]; rfl)
    | cons p qs =>
      obtain ⟨b, u, rfl, hbl, hb, hcu⟩ := hch
      have hform := hcu.form
      have HCU := Lib.hid hcu
      have HPB := Lib.hid hb
      simp only [List.length_cons] at hk
      clear hb hcu hx hbr
      rcases hform with rfl | ⟨b', rfl⟩
      all_goals
        go_wp2_with (first | (go_at_call 62; refine (unwrap_any wr b p _ HPB.out).mono ?_; rintro r w' ⟨rfl, rfl⟩) | go_in)
        go_roundg qs.length
        case measure => omega
        case rel => exact ⟨qs, rfl, HCU.out, HBR.out⟩
end Go.Proofs.YtclinofekgpfaaaDoor
