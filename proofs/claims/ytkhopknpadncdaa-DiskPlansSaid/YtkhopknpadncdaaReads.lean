/- Steps, Power, look, Size, Read, Units: calls that turn nothing. -/
import Derived.Test.YtkhopknpadncdaaMeth
namespace Go.Proofs.Ytkhopknpadncdaa
open Go Go.RowKit Go.Maps Go.Proofs.YtkhopknpadncdaaW.PrintWords Go.Proofs.Ytkhopknpadncdaa.PDiskMemory Go.Proofs.YtkhopknpadncdaaW.PrintMore
set_option linter.unusedVariables false

set_option maxRecDepth 100000 in
theorem steps_any (w : World) (d N : Nat) (S : Nat → Prop) (k : Dk) (h : Disk w d S k N) : Calls Try.prog 11 #[.pointer (some ⟨d, 0, none⟩)] w fun e w' => e = .returned (.int .i64 k.steps) ∧ w' = w := by
  obtain ⟨_, c3, _, _, hl⟩ := h.own4
  clear h
  go_enter Try.func11, Try.ntmps11
  go_wp2
  go_ret
  exact ⟨rfl, rfl⟩
set_option maxRecDepth 100000 in
theorem power_any (w : World) (d N : Nat) (S : Nat → Prop) (k : Dk) (h : Disk w d S k N) : Calls Try.prog 39 #[.pointer (some ⟨d, 0, none⟩)] w fun e w' => e = .returned (.bool (!k.off)) ∧ w' = w := by
  obtain ⟨_, _, c4, _, hl⟩ := h.own4
  clear h
  go_enter Try.func39, Try.ntmps39
  go_wp2
  go_ret
  exact ⟨rfl, rfl⟩

def lookV (o : Option (Nat × Fil)) (off : Bool) : Value × Int := if off = true then (.pointer none, 180) else match o with | none => (.pointer none, 183) | some pf => (.pointer (some ⟨pf.1, 0, none⟩), 0)
set_option maxRecDepth 100000 in
theorem look_any (w : World) (d m N : Nat) (O : Nat → Own) (k : Dk) (pv : Value) (Z : List (Nm × (Nat × Fil))) (s : ByteArray) (h : DA w d m O k N pv Z) (hs : s.size ≤ maxLen) :
    Calls Try.prog 57 #[.pointer (some ⟨d, 0, none⟩), .string s] w fun e w' => e = .returned (.tuple #[(lookV (look Z s.data.toList) k.off).1, .int .i64 (lookV (look Z s.data.toList) k.off).2]) ∧ w' = w := by
  obtain ⟨⟨c0, _, _, _, c4⟩, hdl⟩ := h.cells
  have LK := h.mp.look_run hs
  rw [look_mapV] at LK
  clear h
  obtain ⟨off, ho⟩ : ∃ off, off = k.off := ⟨_, rfl⟩
  rw [← ho] at c4 ⊢
  clear ho
  cases hz : look Z s.data.toList with
  | none =>
    rw [hz] at LK
    simp only [Option.map_none, optr] at LK
    clear hz
    cases off
    all_goals
      go_enter Try.func57, Try.ntmps57
      go_wp2
      go_ret2
      exact ⟨rfl, rfl⟩
  | some pf =>
    obtain ⟨p, f⟩ := pf
    rw [hz] at LK
    simp only [Option.map_some, optr, fptr] at LK
    clear hz
    cases off
    all_goals
      go_enter Try.func57, Try.ntmps57
      go_wp2
      go_ret2
      exact ⟨rfl, rfl⟩

set_option maxRecDepth 100000 in
theorem size_any (w : World) (d N : Nat) (S : Nat → Prop) (k : Dk) (s : ByteArray) (h : Disk w d S k N) (hs : s.size ≤ maxLen) :
    Calls Try.prog 35 #[.pointer (some ⟨d, 0, none⟩), .string s] w fun e w' => e = .returned (.tuple #[.int .i64 (sizeD k s.data.toList).1, .int .i64 (sizeD k s.data.toList).2]) ∧ w' = w := by
  obtain ⟨m, O, pv, Z, h, hS⟩ := h
  have HL := Lib.hid (look_any w d m N O k pv Z s h hs)
  have hlf := h.look_files s.data.toList
  obtain ⟨off, ho⟩ : ∃ off, off = k.off := ⟨_, rfl⟩
  rw [← ho] at HL
  cases off with
  | true =>
    have HR : Hid (sizeD k s.data.toList = (0, 180)) := by show _ = _; unfold sizeD; rw [if_pos ho.symm]
    clear h hS ho hlf
    unfold lookV at HL
    rw [if_pos rfl] at HL
    go_enter Try.func35, Try.ntmps35
    go_wp2_with (go_at_call 57; refine HL.out.mono ?_; rintro e w' ⟨rfl, rfl⟩)
    go_ret2
    exact ⟨by rw [HR.out]; rfl, rfl⟩
  | false =>
    cases hz : look Z s.data.toList with
    | none =>
      have HR : Hid (sizeD k s.data.toList = (0, 183)) := by show _ = _; unfold sizeD; rw [if_neg (by rw [← ho]; decide), hlf, hz]; rfl
      rw [hz] at HL
      clear h hS ho hlf hz
      unfold lookV at HL
      rw [if_neg (by decide)] at HL
      simp only at HL
      go_enter Try.func35, Try.ntmps35
      go_wp2_with (go_at_call 57; refine HL.out.mono ?_; rintro e w' ⟨rfl, rfl⟩)
      go_ret2
      exact ⟨by rw [HR.out]; rfl, rfl⟩
    | some pf =>
      obtain ⟨p, f⟩ := pf
      have HR : Hid (sizeD k s.data.toList = ((f.seen.length : Int), 0)) := by show _ = _; unfold sizeD; rw [if_neg (by rw [← ho]; decide), hlf, hz]; rfl
      obtain ⟨sv, nv, cv, hF⟩ := h.file _ p f (look_mem hz)
      obtain ⟨A1, q1, A2, q2, A3, q3, e1, e2, e3⟩ := hF.lens
      subst e2
      obtain ⟨_, d1, _, _, _, _, hpl⟩ := hF.see
      rw [hz] at HL
      clear h hS ho hlf hz e1 e3 hF
      unfold lookV at HL
      rw [if_neg (by decide)] at HL
      simp only at HL
      go_enter Try.func35, Try.ntmps35
      go_wp2_with (go_at_call 57; refine HL.out.mono ?_; rintro e w' ⟨rfl, rfl⟩)
      go_ret2
      exact ⟨by rw [HR.out]; rfl, rfl⟩

/-- A piece of a row that is read. -/
theorem C_piece {w : World} {ok : Nat → Prop} {g n c : Nat} {l : List Int} (h : RB w ok (.slice (some ⟨g, 0, none⟩) n c) l) {a t : Nat} (hat : a + t ≤ n) : (Kd.int .u8).C w (some ⟨g, a, none⟩) t ((l.drop a).take t) := by
  have hn := (Kd.R_reads' h).1
  refine ⟨by rw [List.length_take, List.length_drop]; omega, ?_, fun h0 => ⟨_, rfl, fun j p hj => ?_⟩⟩
  · have := (Kd.R_reads' h).2.2.2.1; omega
  · have hjt : j < t := by
      have := (List.getElem?_eq_some_iff.1 hj).1
      rw [List.length_take] at this
      omega
    rw [List.getElem?_take, if_pos hjt, List.getElem?_drop] at hj
    obtain ⟨c', hcl, hM, hcc⟩ := Kd.R_getA h 0 ((a + j : Nat) : Int) (by omega) (by omega)
    rw [Int.toNat_natCast] at hM hcc
    rw [List.getD_eq_getElem?_getD, hj, Option.getD_some] at hM
    refine ⟨c', hcl, hM, fun i u hu => ?_⟩
    have h1 := hcc i u hu
    have hi : i = 0 := by
      have : i < c'.length := (List.getElem?_eq_some_iff.1 hu).1
      have e : c'.length = 1 := hcl
      omega
    subst hi
    rw [addr_zero] at h1
    have e2 : (⟨g, a, none⟩ : Addr).add (j * (Kd.int .u8).sz + 0) = ⟨g, (a + j) * (Kd.int .u8).sz + 0, none⟩ := by
      show (⟨g, a, none⟩ : Addr).add (j * 1 + 0) = ⟨g, (a + j) * 1 + 0, none⟩
      unfold Addr.add
      split <;> simp_all
    rw [e2]
    exact h1

theorem C_zero {α : Type} (d : Kd α) (w : World) (A : Option Addr) : d.C w A 0 [] := ⟨rfl, by omega, fun h => absurd h (by omega)⟩
theorem C_piece2 {w : World} {ok : Nat → Prop} {A : Option Addr} {n c : Nat} {l : List Int} (h : RB w ok (.slice A n c) l) {a t : Nat} (hat : a + t ≤ n) : (Kd.int .u8).C w (Option.map (fun x => x.add a) A) t ((l.drop a).take t) := by
  have hn := (Kd.R_reads' h).1
  by_cases h0 : t = 0
  · subst h0
    rw [List.take_zero]
    exact C_zero _ _ _
  · obtain ⟨g, cap, e, _⟩ := Kd.R_form h (by omega)
    injection e with e1 e2 e3
    subst e1
    have := C_piece h hat
    rw [Option.map_some, addr_zero]
    exact this
/-- What Read hands back. -/
def ReadPost (w : World) (x : List Int × Int) (e : Ending) (w' : World) : Prop := ∃ v, e = .returned (.tuple #[v, .int .i64 x.2]) ∧ RB w' (fun b => w.heap.size ≤ b) v x.1 ∧ Below w.heap.size w w'

set_option maxRecDepth 100000 in
set_option maxHeartbeats 2000000 in
theorem read_any (w : World) (d N : Nat) (S : Nat → Prop) (k : Dk) (s : ByteArray) (at_ n : Int) (h : Disk w d S k N) (hs : s.size ≤ maxLen) (ha : -9223372036854775808 ≤ at_) (hn0 : n ≤ 9223372036854775807) :
    Calls Try.prog 26 #[.pointer (some ⟨d, 0, none⟩), .string s, .int .i64 at_, .int .i64 n] w (ReadPost w (readD k s.data.toList at_ n)) := by
  obtain ⟨m, O, pv, Z, h, hS⟩ := h
  have HL := Lib.hid (look_any w d m N O k pv Z s h hs)
  have hlf := h.look_files s.data.toList
  obtain ⟨off, ho⟩ : ∃ off, off = k.off := ⟨_, rfl⟩
  rw [← ho] at HL
  cases off with
  | true =>
    have HR : Hid (readD k s.data.toList at_ n = ([], 180)) := by show _ = _; unfold readD; rw [if_pos ho.symm]
    clear h hS ho hlf
    unfold lookV at HL
    rw [if_pos rfl] at HL
    go_enter Try.func26, Try.ntmps26
    go_wp2_with (go_at_call 57; refine HL.out.mono ?_; rintro e w' ⟨rfl, rfl⟩)
    go_ret2
    rw [HR.out]
    exact ⟨_, rfl, Kd.R_nil _ _ _ _ _, Below.refl _ _⟩
  | false =>
    cases hz : look Z s.data.toList with
    | none =>
      have HR : Hid (readD k s.data.toList at_ n = ([], 183)) := by show _ = _; unfold readD; rw [if_neg (by rw [← ho]; decide), hlf, hz]; rfl
      rw [hz] at HL
      clear h hS ho hlf hz
      unfold lookV at HL
      rw [if_neg (by decide)] at HL
      simp only at HL
      go_enter Try.func26, Try.ntmps26
      go_wp2_with (go_at_call 57; refine HL.out.mono ?_; rintro e w' ⟨rfl, rfl⟩)
      go_ret2
      rw [HR.out]
      exact ⟨_, rfl, Kd.R_nil _ _ _ _ _, Below.refl _ _⟩
    | some pf =>
      obtain ⟨p, f⟩ := pf
      have HR : Hid (readD k s.data.toList at_ n = if at_ < 0 ∨ n < 0 ∨ (f.seen.length : Int) < at_ ∨ (f.seen.length : Int) - at_ < n then ([], 3) else ((f.seen.drop at_.toNat).take n.toNat, 0)) := by show _ = _; unfold readD; rw [if_neg (by rw [← ho]; decide), hlf, hz]; rfl
      obtain ⟨sv, nv, cv, hF⟩ := h.file _ p f (look_mem hz)
      have hbig := (Wf.stop (h.ok.1 (s.data.toList, f) (look_mem (by rw [hlf, hz]; rfl))).1).1
      simp only at hbig
      obtain ⟨A1, q1, A2, q2, A3, q3, e1, e2, e3⟩ := hF.lens
      subst e2
      obtain ⟨l, hl⟩ : ∃ l, l = f.seen.length := ⟨_, rfl⟩
      rw [← hl] at HR hF hbig
      have HF := Lib.hid hF
      have hcap : l ≤ q2 := (Kd.R_reads' hF.seen).2.1
      obtain ⟨_, d1, _, _, _, _, hpl⟩ := hF.see
      have HLL := Lib.hid hl
      rw [hz] at HL
      clear h hS ho hlf hz e1 e3 hF hl
      unfold lookV at HL
      rw [if_neg (by decide)] at HL
      simp only at HL
      unfold big at hbig
      by_cases b1 : at_ < 0
      · have c1 : decide (at_ < 0) = true := decide_eq_true b1
        rw [if_pos (.inl b1)] at HR
        clear b1
        go_enter Try.func26, Try.ntmps26
        go_wp2_with (go_at_call 57; refine HL.out.mono ?_; rintro e w' ⟨rfl, rfl⟩)
        go_ret2
        rw [HR.out]
        exact ⟨_, rfl, Kd.R_nil _ _ _ _ _, Below.refl _ _⟩
      · have c1 : decide (at_ < 0) = false := decide_eq_false b1
        by_cases b2 : n < 0
        · have c2 : decide (n < 0) = true := decide_eq_true b2
          rw [if_pos (.inr (.inl b2))] at HR
          clear b2
          go_enter Try.func26, Try.ntmps26
          go_wp2_with (go_at_call 57; refine HL.out.mono ?_; rintro e w' ⟨rfl, rfl⟩)
          go_ret2
          rw [HR.out]
          exact ⟨_, rfl, Kd.R_nil _ _ _ _ _, Below.refl _ _⟩
        · have c2 : decide (n < 0) = false := decide_eq_false b2
          obtain ⟨a, rfl⟩ : ∃ a : Nat, at_ = (a : Int) := ⟨at_.toNat, by omega⟩
          obtain ⟨t, rfl⟩ : ∃ t : Nat, n = (t : Int) := ⟨n.toNat, by omega⟩
          by_cases b3 : l < a
          · have c3 : decide (l < a) = true := decide_eq_true b3
            rw [if_pos (.inr (.inr (.inl (by omega))))] at HR
            go_enter Try.func26, Try.ntmps26
            go_wp2_with (go_at_call 57; refine HL.out.mono ?_; rintro e w' ⟨rfl, rfl⟩)
            go_ret2
            rw [HR.out]
            exact ⟨_, rfl, Kd.R_nil _ _ _ _ _, Below.refl _ _⟩
          · have c3 : decide (l < a) = false := decide_eq_false b3
            by_cases b4 : (l : Int) - a < t
            · have c4 : decide ((l : Int) - a < t) = true := decide_eq_true b4
              rw [if_pos (.inr (.inr (.inr b4)))] at HR
              go_enter Try.func26, Try.ntmps26
              go_wp2_with (go_at_call 57; refine HL.out.mono ?_; rintro e w' ⟨rfl, rfl⟩)
              go_ret2
              rw [HR.out]
              exact ⟨_, rfl, Kd.R_nil _ _ _ _ _, Below.refl _ _⟩
            · have c4 : decide ((l : Int) - a < t) = false := decide_eq_false b4
              rw [if_neg (by omega), Int.toNat_natCast, Int.toNat_natCast] at HR
              have i1 : (0 : Int) ≤ (a : Int) := by omega
              have i2 : (a : Int) ≤ (a : Int) + (t : Int) := by omega
              have i3 : (a : Int) + (t : Int) ≤ (q2 : Int) := by omega
              have i4 : IntKind.i64.wrap ((a : Int) + (t : Int)) = (a : Int) + (t : Int) := IntWalk.i64_in _ (by omega)
              have HTB : Hid (t * 1 ≤ 140737488355328) := by show _ ≤ _; omega
              have HAT : Hid (a + t ≤ l) := by show _ ≤ _; omega
              have HC2 := Lib.hid (C_piece2 HF.out.seen HAT.out)
              have HC1 : Hid (q2 = a → (Kd.int .u8).C w A2 t ((f.seen.drop a).take t)) := fun e => by
                have e2 := HAT.out
                obtain rfl : t = 0 := by omega
                rw [List.take_zero]
                exact C_zero _ _ _
              by_cases hqa : q2 = a
              · have HCC := Lib.hid (HC1.out hqa)
                go_enter Try.func26, Try.ntmps26
                go_wp2_with (go_at_call 57; refine HL.out.mono ?_; rintro e w' ⟨rfl, rfl⟩)
                refine (clone_bytes _ t _ ((f.seen.drop a).take t) _ HCC.out HTB.out).mono ?_
                rintro r w3 ⟨v3, rfl, hv, hb⟩
                have HV := Lib.hid hv
                have HB := Lib.hid hb
                clear hv hb
                go_wp2_with fail
                go_ret2
                rw [HR.out]
                exact ⟨_, rfl, HV.out, HB.out⟩
              · go_enter Try.func26, Try.ntmps26
                go_wp2_with (go_at_call 57; refine HL.out.mono ?_; rintro e w' ⟨rfl, rfl⟩)
                refine (clone_bytes _ t _ ((f.seen.drop a).take t) _ HC2.out HTB.out).mono ?_
                rintro r w3 ⟨v3, rfl, hv, hb⟩
                have HV := Lib.hid hv
                have HB := Lib.hid hb
                clear hv hb
                go_wp2_with fail
                go_ret2
                rw [HR.out]
                exact ⟨_, rfl, HV.out, HB.out⟩
end Go.Proofs.Ytkhopknpadncdaa
