/- errors.Is and errors.Unwrap over a chain. -/
import Derived.Test.YtclinofekgpfaaaDoorAs
namespace Go.Proofs.YtclinofekgpfaaaDoor
open Go Go.RowKit Go.Extern.Stop Go.Stop Go.Extern
set_option linter.unusedVariables false

theorem f_cmp (w : World) : ((ReflectliteType.method fun t => do Rtype.noPackHeld "Comparable" t; (fun a => Value.bool a.comparable) <$> typeInfo t) #[.agg #[.pointer (some ⟨4, 27, none⟩)]]).run Tryd.prog w = .ok (.bool true) w := by kernel_rfl

set_option maxHeartbeats 4000000 in
theorem is22_any (w : World) (B : Nat) (e k : Int) (ps : List Int) (v : Value) (hc : Chain w B e ps v) (hB : B ≤ w.heap.size) :
    Calls Tryd.prog 22 #[v, .iface 27 (.int .i64 k), .bool true] w
      fun r w' => r = .returned (.bool (e == k)) ∧ Below w.heap.size w w' := by
  have qE := f_eqErrno
  have qP := f_eqPE
  have nE := f_noIsE
  have nP := f_noIsP
  have uE := f_noUnwrapE
  have sE := f_noUnwrapsE
  have uP := f_hasUnwrapP
  have mU := f_methodUnwrap
  have HC := Lib.hid hc
  clear hc
  go_enter Tryd.func22, Tryd.ntmps22
  go_wp2_with fail
  go_loopg [0] ps.length (fun n v' wr => ∃ qs : List Int, qs.length = n ∧ Chain wr B e qs v' ∧ Below w.heap.size w wr)
  case atStart => exact ⟨ps, rfl, HC.out, Below.refl _ _⟩
  case round =>
    obtain ⟨qs, hk, hch, hbr⟩ := hrel
    have HBR := Lib.hid hbr
    cases qs with
    | nil =>
      have hch' : _ = _ := hch
      subst hch'
      clear hch hbr
      cases hek : e == k with
      | true =>
        have q2 := fun W : World => (f_eqErrno e k W).trans (by rw [hek])
        have HEK := Lib.hid hek
        clear qE hek
        go_wp2_with (first | (go_at_call 62; fail) | go_in)
        go_ret
        exact ⟨by rw [HEK.out]; rfl, HBR.out⟩
      | false =>
        have q2 := fun W : World => (f_eqErrno e k W).trans (by rw [hek])
        have HEK := Lib.hid hek
        clear qE hek
        go_wp2_with (first | (go_at_call 62; fail) | go_in)
        go_ret
        exact ⟨by rw [HEK.out]; rfl, HBR.out⟩
    | cons p qs =>
      obtain ⟨b, u, rfl, hbl, hb, hcu⟩ := hch
      have hform := hcu.form
      have HCU := Lib.hid hcu
      have HPB := Lib.hid hb
      simp only [List.length_cons] at hk
      clear hb hcu hbr
      rcases hform with rfl | ⟨b', rfl⟩
      all_goals
        go_wp2_with (first | (go_at_call 62; refine (unwrap_any wr b p _ HPB.out).mono ?_; rintro r w' ⟨rfl, rfl⟩) | go_in)
        go_roundg qs.length
        case measure => omega
        case rel => exact ⟨qs, rfl, HCU.out, HBR.out⟩

set_option maxHeartbeats 2000000 in
theorem is_any (w : World) (e k : Int) (ps : List Int) (v : Value) (hc : Chain w w.heap.size e ps v) :
    Calls Tryd.prog 19 #[v, .iface 27 (.int .i64 k)] w
      fun r w' => r = .returned (.bool (e == k)) ∧ Below w.heap.size w w' := by
  have h21 := @run_callFunc_extern Tryd.prog 21 _ ReflectliteType.typeOf Tryd.func21 (by kernel_rfl) (by kernel_rfl) (by kernel_rfl) (by kernel_rfl)
  have h68 := @run_callFunc_extern Tryd.prog 68 _ (ReflectliteType.method fun t => do Rtype.noPackHeld "Comparable" t; pure (.bool (← typeInfo t).comparable)) Tryd.func68 (by kernel_rfl) (by kernel_rfl) (by kernel_rfl) (by kernel_rfl)
  have tE := f_typeOfErrno
  have mC := f_methodComparable
  have cE := f_cmp
  have hI := Lib.hid (is22_any w w.heap.size e k ps v hc (Nat.le_refl _))
  rcases hc.form with rfl | ⟨b', rfl⟩
  all_goals
    clear hc
    go_enter Tryd.func19, Tryd.ntmps19
    go_wp2_with (first | (go_at_call 22; refine hI.out.mono ?_; rintro r w' ⟨rfl, hb⟩; have HB := Lib.hid hb; clear hb) | go_in)
    go_ret
    exact ⟨rfl, HB.out⟩

theorem eunwrap_any (w : World) (e p : Int) (B : Nat) (ps : List Int) (v : Value) (hc : Chain w B e (p :: ps) v) :
    Calls Tryd.prog 18 #[v] w fun r w' => ∃ u, r = .returned u ∧ Chain w B e ps u ∧ w = w' := by
  have uP := f_hasUnwrapP
  have mU := f_methodUnwrap
  obtain ⟨b, u, rfl, hbl, hb, hcu⟩ := hc
  have HPB := Lib.hid hb
  have HCU := Lib.hid hcu
  clear hb hcu
  go_enter Tryd.func18, Tryd.ntmps18
  go_wp2_with (first | (go_at_call 62; refine (unwrap_any w b p u HPB.out).mono ?_; rintro r w' ⟨rfl, rfl⟩) | go_in)
  go_ret
  exact ⟨u, rfl, HCU.out, rfl⟩
end Go.Proofs.YtclinofekgpfaaaDoor
