/- errors.As at a **placed: at a place it hits, at the number it misses. -/
import Derived.Test.YtclinofekgpfaaaDoorAs2
namespace Go.Proofs.YtclinofekgpfaaaDoor
open Go Go.RowKit Go.Extern.Stop Go.Stop Go.Extern
set_option linter.unusedVariables false

set_option maxHeartbeats 4000000 in
theorem as26_hit (w : World) (B : Nat) (b : Nat) (old : Value) (a t : Nat) (ha : w.cell? ⟨a, 0, none⟩ = some (.pointer (some ⟨t, 0, none⟩))) (ht : w.cell? ⟨t, 0, none⟩ = some old) (hf : w.frozen? ⟨t, 0, none⟩ = false) (hBt : B ≤ t) (hB : B ≤ w.heap.size) (hal : a < w.heap.size) (htl : t < w.heap.size) :
    Calls Tryd.prog 26 #[.iface 43 (.pointer (some ⟨b, 0, none⟩)), .iface 48 (.pointer (some ⟨t, 0, none⟩)), .agg #[.pointer (some ⟨4, 48, none⟩), .pointer (some ⟨a, 0, none⟩), .int .u64 150], .iface 69 (.agg #[.pointer (some ⟨4, 43, none⟩)])] w
      fun r w' => r = .returned (.bool true) ∧ w'.cell? ⟨t, 0, none⟩ = some (.pointer (some ⟨b, 0, none⟩)) ∧ w'.frozen? ⟨t, 0, none⟩ = false ∧ Kept (fun k => k = t) w w' := by
  have h21 := @run_callFunc_extern Tryd.prog 21 _ ReflectliteType.typeOf Tryd.func21 (by kernel_rfl) (by kernel_rfl) (by kernel_rfl) (by kernel_rfl)
  have h67 := @run_callFunc_extern Tryd.prog 67 _ (ReflectliteType.relation "AssignableTo" ReflectliteType.assignableTo) Tryd.func67 (by kernel_rfl) (by kernel_rfl) (by kernel_rfl) (by kernel_rfl)
  have h27 := @run_callFunc_extern Tryd.prog 27 _ (ReflectliteValue.method (ReflectliteValue.valueError "reflectlite.Value.Elem" 0) ReflectliteValue.elem) Tryd.func27 (by kernel_rfl) (by kernel_rfl) (by kernel_rfl) (by kernel_rfl)
  have h23 := @run_callFunc_extern Tryd.prog 23 _ (fun args => ReflectliteValue.unpack (args.getD 0 (.tuple #[]))) Tryd.func23 (by kernel_rfl) (by kernel_rfl) (by kernel_rfl) (by kernel_rfl)
  have h28 := @run_callFunc_extern Tryd.prog 28 _ ReflectliteValue.set Tryd.func28 (by kernel_rfl) (by kernel_rfl) (by kernel_rfl) (by kernel_rfl)
  have tP := f_typeOfPlaced
  have mA := f_methodAssignableTo
  have aP := f_asgPP
  have vP := f_valueOfPlaced
  have el := f_elemVP ⟨a, 0, none⟩ ⟨t, 0, none⟩ (w.alloc (.cells #[.pointer (some ⟨4, 48, none⟩), .pointer (some ⟨a, 0, none⟩), .int .u64 150] 61)) (by rw [World.cell?_alloc_lt _ _ ⟨a, 0, none⟩ hal]; exact ha)
  have hbw : Below w.heap.size w ((w.alloc (.cells #[.pointer (some ⟨4, 48, none⟩), .pointer (some ⟨a, 0, none⟩), .int .u64 150] 61)).alloc (.cells #[.pointer (some ⟨b, 0, none⟩)] 43)) := ((Below.refl _ _).alloc (Nat.le_refl _) _).alloc (by simp) _
  have ht2 := keep_cell hbw htl ht
  have hf2 := (hbw.frozen (p := ⟨t, 0, none⟩) htl).trans hf
  have st := f_setPlaced ⟨t, 0, none⟩ ⟨w.heap.size + 1, 0, none⟩ ⟨b, 0, none⟩ old ((w.alloc (.cells #[.pointer (some ⟨4, 48, none⟩), .pointer (some ⟨a, 0, none⟩), .int .u64 150] 61)).alloc (.cells #[.pointer (some ⟨b, 0, none⟩)] 43)) (by simp) ht2 hf2
  have HT := Lib.hid ht
  have HF := Lib.hid hf
  have htl1 : t < (w.alloc (.cells #[.pointer (some ⟨4, 48, none⟩), .pointer (some ⟨a, 0, none⟩), .int .u64 150] 61)).heap.size := by simp; omega
  clear ha ht hf ht2 hf2 hbw
  go_enter Tryd.func26, Tryd.ntmps26
  go_wp2
  refine wp_loop_rounds 1 ?_
  rw [rounds_succ]
  go_wp2
  go_ret
  refine ⟨rfl, ?_, ?_, ?_⟩
  · rw [World.cell?_alloc_lt _ _ ⟨t, 0, none⟩ (by simp; omega), World.cell?_alloc_lt _ _ ⟨t, 0, none⟩ (by simp; omega)]
    exact World.cell?_setCell_same' _ _ _ (by rw [HT.out]; rfl)
  · rw [World.frozen?_alloc_old _ _ ⟨t, 0, none⟩ (Nat.ne_of_lt (by simp; omega)), World.frozen?_alloc_old _ _ ⟨t, 0, none⟩ (Nat.ne_of_lt (by simp; omega)), World.frozen?_setCell]
    exact HF.out
  · exact ((Kept.setCell (S := fun k => k = t) (p := ⟨t, 0, none⟩) (Kept.refl _ w) rfl _).alloc _).alloc _

set_option maxHeartbeats 4000000 in
theorem as26_miss (w : World) (e : Int) (a t : Nat) :
    Calls Tryd.prog 26 #[.iface 27 (.int .i64 e), .iface 48 (.pointer (some ⟨t, 0, none⟩)), .agg #[.pointer (some ⟨4, 48, none⟩), .pointer (some ⟨a, 0, none⟩), .int .u64 150], .iface 69 (.agg #[.pointer (some ⟨4, 43, none⟩)])] w
      fun r w' => r = .returned (.bool false) ∧ Below w.heap.size w w' := by
  have h21 := @run_callFunc_extern Tryd.prog 21 _ ReflectliteType.typeOf Tryd.func21 (by kernel_rfl) (by kernel_rfl) (by kernel_rfl) (by kernel_rfl)
  have h67 := @run_callFunc_extern Tryd.prog 67 _ (ReflectliteType.relation "AssignableTo" ReflectliteType.assignableTo) Tryd.func67 (by kernel_rfl) (by kernel_rfl) (by kernel_rfl) (by kernel_rfl)
  have h27 := @run_callFunc_extern Tryd.prog 27 _ (ReflectliteValue.method (ReflectliteValue.valueError "reflectlite.Value.Elem" 0) ReflectliteValue.elem) Tryd.func27 (by kernel_rfl) (by kernel_rfl) (by kernel_rfl) (by kernel_rfl)
  have h23 := @run_callFunc_extern Tryd.prog 23 _ (fun args => ReflectliteValue.unpack (args.getD 0 (.tuple #[]))) Tryd.func23 (by kernel_rfl) (by kernel_rfl) (by kernel_rfl) (by kernel_rfl)
  have h28 := @run_callFunc_extern Tryd.prog 28 _ ReflectliteValue.set Tryd.func28 (by kernel_rfl) (by kernel_rfl) (by kernel_rfl) (by kernel_rfl)
  have tE := f_typeOfErrno
  have mA := f_methodAssignableTo
  have aE := f_asgEP
  have nA := f_noAsE
  have uE := f_noUnwrapE
  have sE := f_noUnwrapsE
  go_enter Tryd.func26, Tryd.ntmps26
  go_wp2
  refine wp_loop_rounds 1 ?_
  rw [rounds_succ]
  go_wp2
  go_ret
  exact ⟨rfl, (Below.refl _ _).alloc (Nat.le_refl _) _⟩

section
variable (w : World) (t : Nat) (old : Value) (ht : w.cell? ⟨t, 0, none⟩ = some old) (hf : w.frozen? ⟨t, 0, none⟩ = false) (htl : t < w.heap.size) (hg : Laid w)
include ht hf htl hg
set_option maxHeartbeats 4000000 in
theorem as20_hit (b : Nat) :
    Calls Tryd.prog 20 #[.iface 43 (.pointer (some ⟨b, 0, none⟩)), .iface 48 (.pointer (some ⟨t, 0, none⟩))] w
      fun r w' => r = .returned (.bool true) ∧ w'.cell? ⟨t, 0, none⟩ = some (.pointer (some ⟨b, 0, none⟩)) ∧ w'.frozen? ⟨t, 0, none⟩ = false ∧ Kept (fun k => k = t) w w' := by
  have h23 := @run_callFunc_extern Tryd.prog 23 _ (fun args => ReflectliteValue.unpack (args.getD 0 (.tuple #[]))) Tryd.func23 (by kernel_rfl) (by kernel_rfl) (by kernel_rfl) (by kernel_rfl)
  have h24 := @run_callFunc_extern Tryd.prog 24 _ (ReflectliteValue.methodAny (ReflectliteValue.valueError "reflectlite.Value.Type" 0) (fun t _ _ _ => ReflectliteType.toType t)) Tryd.func24 (by kernel_rfl) (by kernel_rfl) (by kernel_rfl) (by kernel_rfl)
  have h25 := @run_callFunc_extern Tryd.prog 25 _ (ReflectliteValue.method (ReflectliteValue.valueError "reflectlite.Value.IsNil" 0) ReflectliteValue.isNil) Tryd.func25 (by kernel_rfl) (by kernel_rfl) (by kernel_rfl) (by kernel_rfl)
  have h43 := @run_callFunc_extern Tryd.prog 43 _ (ReflectliteType.abiMethod fun t => do pure (.int .u8 (← Rtype.kind t))) Tryd.func43 (by kernel_rfl) (by kernel_rfl) (by kernel_rfl) (by kernel_rfl)
  have h69 := @run_callFunc_extern Tryd.prog 69 _ (ReflectliteType.method ReflectliteType.elem) Tryd.func69 (by kernel_rfl) (by kernel_rfl) (by kernel_rfl) (by kernel_rfl)
  have h70 := @run_callFunc_extern Tryd.prog 70 _ (ReflectliteType.relation "Implements" ReflectliteType.implements_) Tryd.func70 (by kernel_rfl) (by kernel_rfl) (by kernel_rfl) (by kernel_rfl)
  have vE := f_valueOfP
  have yE := f_typeP
  have mK := f_methodKind
  have kE := f_kindP
  have kN := f_kindPlaced
  have mE := f_methodElem
  have lE := f_elemP
  have mI := f_methodImplements
  have iE := f_implPlaced
  have hb1 : Below w.heap.size w (w.alloc (.cells #[.pointer (some ⟨t, 0, none⟩)] 48)) := (Below.refl _ _).alloc (Nat.le_refl _) _
  have hb2 := hb1.alloc hb1.size (.cells #[.pointer (some ⟨4, 48, none⟩), .pointer (some ⟨w.heap.size, 0, none⟩), .int .u64 150] 61)
  have nE := f_isNilP ⟨w.heap.size, 0, none⟩ ⟨t, 0, none⟩ ((w.alloc (.cells #[.pointer (some ⟨t, 0, none⟩)] 48)).alloc (.cells #[.pointer (some ⟨4, 48, none⟩), .pointer (some ⟨w.heap.size, 0, none⟩), .int .u64 150] 61)) (by simp)
  have hg2 : ((w.alloc (.cells #[.pointer (some ⟨t, 0, none⟩)] 48)).alloc (.cells #[.pointer (some ⟨4, 48, none⟩), .pointer (some ⟨w.heap.size, 0, none⟩), .int .u64 150] 61)).cell? ⟨0, 0, none⟩ = some (.iface 69 (.agg #[.pointer (some ⟨4, 25, none⟩)])) := hg.below hb2 hg.lt
  have hAS := Lib.hid (as26_hit ((w.alloc (.cells #[.pointer (some ⟨t, 0, none⟩)] 48)).alloc (.cells #[.pointer (some ⟨4, 48, none⟩), .pointer (some ⟨w.heap.size, 0, none⟩), .int .u64 150] 61)) 0 b old w.heap.size t (by simp) (keep_cell hb2 htl ht) ((hb2.frozen (p := ⟨t, 0, none⟩) htl).trans hf) (Nat.zero_le _) (Nat.zero_le _) (by simp; omega) (Nat.lt_of_lt_of_le htl hb2.size))
  have HB2 := Lib.hid hb2
  clear ht hf hb1 hb2 hg
  go_enter Tryd.func20, Tryd.ntmps20
  go_wp2_with (first | (go_at_call 26; refine hAS.out.mono ?_; rintro r w' ⟨rfl, hc, hfz, hk⟩; have HC := Lib.hid hc; have HFZ := Lib.hid hfz; have HK := Lib.hid hk; clear hc hfz hk) | go_in)
  go_ret
  exact ⟨rfl, HC.out, HFZ.out, (Kept.of_below HB2.out).trans HK.out⟩

omit ht hf htl in
set_option maxHeartbeats 4000000 in
theorem as20_miss (e : Int) :
    Calls Tryd.prog 20 #[.iface 27 (.int .i64 e), .iface 48 (.pointer (some ⟨t, 0, none⟩))] w
      fun r w' => r = .returned (.bool false) ∧ Below w.heap.size w w' := by
  have h23 := @run_callFunc_extern Tryd.prog 23 _ (fun args => ReflectliteValue.unpack (args.getD 0 (.tuple #[]))) Tryd.func23 (by kernel_rfl) (by kernel_rfl) (by kernel_rfl) (by kernel_rfl)
  have h24 := @run_callFunc_extern Tryd.prog 24 _ (ReflectliteValue.methodAny (ReflectliteValue.valueError "reflectlite.Value.Type" 0) (fun t _ _ _ => ReflectliteType.toType t)) Tryd.func24 (by kernel_rfl) (by kernel_rfl) (by kernel_rfl) (by kernel_rfl)
  have h25 := @run_callFunc_extern Tryd.prog 25 _ (ReflectliteValue.method (ReflectliteValue.valueError "reflectlite.Value.IsNil" 0) ReflectliteValue.isNil) Tryd.func25 (by kernel_rfl) (by kernel_rfl) (by kernel_rfl) (by kernel_rfl)
  have h43 := @run_callFunc_extern Tryd.prog 43 _ (ReflectliteType.abiMethod fun t => do pure (.int .u8 (← Rtype.kind t))) Tryd.func43 (by kernel_rfl) (by kernel_rfl) (by kernel_rfl) (by kernel_rfl)
  have h69 := @run_callFunc_extern Tryd.prog 69 _ (ReflectliteType.method ReflectliteType.elem) Tryd.func69 (by kernel_rfl) (by kernel_rfl) (by kernel_rfl) (by kernel_rfl)
  have h70 := @run_callFunc_extern Tryd.prog 70 _ (ReflectliteType.relation "Implements" ReflectliteType.implements_) Tryd.func70 (by kernel_rfl) (by kernel_rfl) (by kernel_rfl) (by kernel_rfl)
  have vE := f_valueOfP
  have yE := f_typeP
  have mK := f_methodKind
  have kE := f_kindP
  have kN := f_kindPlaced
  have mE := f_methodElem
  have lE := f_elemP
  have mI := f_methodImplements
  have iE := f_implPlaced
  have hb1 : Below w.heap.size w (w.alloc (.cells #[.pointer (some ⟨t, 0, none⟩)] 48)) := (Below.refl _ _).alloc (Nat.le_refl _) _
  have hb2 := hb1.alloc hb1.size (.cells #[.pointer (some ⟨4, 48, none⟩), .pointer (some ⟨w.heap.size, 0, none⟩), .int .u64 150] 61)
  have nE := f_isNilP ⟨w.heap.size, 0, none⟩ ⟨t, 0, none⟩ ((w.alloc (.cells #[.pointer (some ⟨t, 0, none⟩)] 48)).alloc (.cells #[.pointer (some ⟨4, 48, none⟩), .pointer (some ⟨w.heap.size, 0, none⟩), .int .u64 150] 61)) (by simp)
  have hg2 : ((w.alloc (.cells #[.pointer (some ⟨t, 0, none⟩)] 48)).alloc (.cells #[.pointer (some ⟨4, 48, none⟩), .pointer (some ⟨w.heap.size, 0, none⟩), .int .u64 150] 61)).cell? ⟨0, 0, none⟩ = some (.iface 69 (.agg #[.pointer (some ⟨4, 25, none⟩)])) := hg.below hb2 hg.lt
  have hAS := Lib.hid (as26_miss ((w.alloc (.cells #[.pointer (some ⟨t, 0, none⟩)] 48)).alloc (.cells #[.pointer (some ⟨4, 48, none⟩), .pointer (some ⟨w.heap.size, 0, none⟩), .int .u64 150] 61)) e w.heap.size t)
  have HB2 := Lib.hid hb2
  clear hb1 hb2 hg
  go_enter Tryd.func20, Tryd.ntmps20
  go_wp2_with (first | (go_at_call 26; refine hAS.out.mono ?_; rintro r w' ⟨rfl, hb⟩; have HB := Lib.hid hb; clear hb) | go_in)
  go_ret
  exact ⟨rfl, step_bel HB2.out HB.out⟩
end
end Go.Proofs.YtclinofekgpfaaaDoor
