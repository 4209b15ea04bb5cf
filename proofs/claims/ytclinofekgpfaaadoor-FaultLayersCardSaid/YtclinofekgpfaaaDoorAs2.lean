/- errors.As at a *api.Errno; fault.Root. -/
import Derived.Test.YtclinofekgpfaaaDoorAs
namespace Go.Proofs.YtclinofekgpfaaaDoor
open Go Go.RowKit Go.Extern.Stop Go.Stop Go.Extern
set_option linter.unusedVariables false

/-- The world in which the library's errorType is laid. -/
def Laid (w : World) : Prop := w.cell? ⟨0, 0, none⟩ = some (.iface 69 (.agg #[.pointer (some ⟨4, 25, none⟩)]))
theorem Laid.lt {w : World} (h : Laid w) : 0 < w.heap.size := by
  rcases Nat.eq_zero_or_pos w.heap.size with h0 | h0
  · unfold Laid at h
    simp [World.cell?, h0] at h
  · exact h0
theorem Laid.below {w w' : World} {B : Nat} (h : Laid w) (hb : Below B w w') (hB : 0 < B) : Laid w' := keep_cell hb hB h

set_option maxHeartbeats 4000000 in
theorem as20_errno (w : World) (B : Nat) (e : Int) (ps : List Int) (v old : Value) (hc : Chain w B e ps v) (t : Nat) (ht : w.cell? ⟨t, 0, none⟩ = some old) (hf : w.frozen? ⟨t, 0, none⟩ = false) (hBt : B ≤ t) (hB : B ≤ w.heap.size) (htl : t < w.heap.size) (hg : Laid w) :
    Calls Tryd.prog 20 #[v, .iface 47 (.pointer (some ⟨t, 0, none⟩))] w
      fun r w' => r = .returned (.bool true) ∧ Below B w w' ∧ w'.cell? ⟨t, 0, none⟩ = some (.int .i64 e) := by
  have h23 := @run_callFunc_extern Tryd.prog 23 _ (fun args => ReflectliteValue.unpack (args.getD 0 (.tuple #[]))) Tryd.func23 (by kernel_rfl) (by kernel_rfl) (by kernel_rfl) (by kernel_rfl)
  have h24 := @run_callFunc_extern Tryd.prog 24 _ (ReflectliteValue.methodAny (ReflectliteValue.valueError "reflectlite.Value.Type" 0) (fun t _ _ _ => ReflectliteType.toType t)) Tryd.func24 (by kernel_rfl) (by kernel_rfl) (by kernel_rfl) (by kernel_rfl)
  have h25 := @run_callFunc_extern Tryd.prog 25 _ (ReflectliteValue.method (ReflectliteValue.valueError "reflectlite.Value.IsNil" 0) ReflectliteValue.isNil) Tryd.func25 (by kernel_rfl) (by kernel_rfl) (by kernel_rfl) (by kernel_rfl)
  have h43 := @run_callFunc_extern Tryd.prog 43 _ (ReflectliteType.abiMethod fun t => do pure (.int .u8 (← Rtype.kind t))) Tryd.func43 (by kernel_rfl) (by kernel_rfl) (by kernel_rfl) (by kernel_rfl)
  have h69 := @run_callFunc_extern Tryd.prog 69 _ (ReflectliteType.method ReflectliteType.elem) Tryd.func69 (by kernel_rfl) (by kernel_rfl) (by kernel_rfl) (by kernel_rfl)
  have h70 := @run_callFunc_extern Tryd.prog 70 _ (ReflectliteType.relation "Implements" ReflectliteType.implements_) Tryd.func70 (by kernel_rfl) (by kernel_rfl) (by kernel_rfl) (by kernel_rfl)
  have vE := f_valueOfE
  have yE := f_typeE
  have mK := f_methodKind
  have kE := f_kindE
  have kN := f_kindErrno
  have mE := f_methodElem
  have lE := f_elemE
  have mI := f_methodImplements
  have iE := f_implErrno
  have hb1 : Below w.heap.size w (w.alloc (.cells #[.pointer (some ⟨t, 0, none⟩)] 47)) := (Below.refl _ _).alloc (Nat.le_refl _) _
  have hb2 := hb1.alloc hb1.size (.cells #[.pointer (some ⟨4, 47, none⟩), .pointer (some ⟨w.heap.size, 0, none⟩), .int .u64 150] 61)
  have nE := f_isNilE ⟨w.heap.size, 0, none⟩ ⟨t, 0, none⟩ ((w.alloc (.cells #[.pointer (some ⟨t, 0, none⟩)] 47)).alloc (.cells #[.pointer (some ⟨4, 47, none⟩), .pointer (some ⟨w.heap.size, 0, none⟩), .int .u64 150] 61)) (by simp)
  have hg2 : ((w.alloc (.cells #[.pointer (some ⟨t, 0, none⟩)] 47)).alloc (.cells #[.pointer (some ⟨4, 47, none⟩), .pointer (some ⟨w.heap.size, 0, none⟩), .int .u64 150] 61)).cell? ⟨0, 0, none⟩ = some (.iface 69 (.agg #[.pointer (some ⟨4, 25, none⟩)])) := hg.below hb2 hg.lt
  have hAS := Lib.hid (as26_errno ((w.alloc (.cells #[.pointer (some ⟨t, 0, none⟩)] 47)).alloc (.cells #[.pointer (some ⟨4, 47, none⟩), .pointer (some ⟨w.heap.size, 0, none⟩), .int .u64 150] 61)) B e ps v old (hc.below (hb2.mono hB)) w.heap.size t (by simp) (keep_cell hb2 htl ht) ((hb2.frozen (p := ⟨t, 0, none⟩) htl).trans hf) hBt (Nat.le_trans hB hb2.size) (by simp; omega) (Nat.lt_of_lt_of_le htl hb2.size))
  have HB2 := Lib.hid (hb2.mono hB)
  rcases hc.form with rfl | ⟨b', rfl⟩
  all_goals
    clear hc ht hf hb1 hb2 hg
    go_enter Tryd.func20, Tryd.ntmps20
    go_wp2_with (first | (go_at_call 26; refine hAS.out.mono ?_; rintro r w' ⟨rfl, hb, hc⟩; have HB := Lib.hid hb; have HC := Lib.hid hc; clear hb hc) | go_in)
    go_ret
    exact ⟨rfl, HB2.out.trans HB.out, HC.out⟩

set_option maxHeartbeats 1000000 in
theorem root_any (w : World) (e : Int) (ps : List Int) (v : Value) (hc : Chain w w.heap.size e ps v) (hg : Laid w) :
    Calls Tryd.prog 10 #[v] w fun r w' => r = .returned (.int .i64 e) ∧ Below w.heap.size w w' := by
  have hb1 : Below w.heap.size w (w.alloc (.cells #[.int .i64 0] 27)) := (Below.refl _ _).alloc (Nat.le_refl _) _
  have hAS := Lib.hid (as20_errno (w.alloc (.cells #[.int .i64 0] 27)) w.heap.size e ps v (.int .i64 0) (hc.below hb1) w.heap.size (by go_simp) (by simp) (Nat.le_refl _) hb1.size (by simp) (hg.below hb1 hg.lt))
  have HB1 := Lib.hid hb1
  rcases hc.form with rfl | ⟨b', rfl⟩
  all_goals
    clear hc hg hb1
    go_enter Tryd.func10, Tryd.ntmps10
    go_wp2_with (first | (go_at_call 20; refine hAS.out.mono ?_; rintro r w' ⟨rfl, hb, hc⟩; have HB := Lib.hid hb) | go_in)
    go_ret
    exact ⟨rfl, HB1.out.trans HB.out⟩

theorem root_nil (w : World) : Calls Tryd.prog 10 #[.nilIface] w fun r w' => r = .returned (.int .i64 0) ∧ Below w.heap.size w w' := by
  go_enter Tryd.func10, Tryd.ntmps10
  go_wp2
  go_ret
  exact ⟨rfl, (Below.refl _ _).alloc (Nat.le_refl _) _⟩
end Go.Proofs.YtclinofekgpfaaaDoor
