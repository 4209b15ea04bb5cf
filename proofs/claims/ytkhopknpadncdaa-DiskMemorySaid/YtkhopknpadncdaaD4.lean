/- D4: Reads, Names, After, On, OnW, All, one text (a claim holds at most 60 files). -/
import Derived.Test.YtkhopknpadncdaaD3
import Derived.Sort.OwnSorted

/- Reads -/
section
/- Steps, Power, look, Size, Read, Units: calls that turn nothing. -/
namespace Go.Proofs.Ytkhopknpadncdaa
open Go Go.RowKit Go.Maps Go.Proofs.YtkhopknpadncdaaW.PrintWords Go.Proofs.Ytkhopknpadncdaa.PDiskMemory Go.Proofs.YtkhopknpadncdaaW.PrintMore
set_option linter.unusedVariables false

set_option maxRecDepth 100000 in
theorem steps_any (w : World) (d N : Nat) (S : Nat → Prop) (k : Dk) (h : Disk w d S k N) : Calls Try.prog 11 #[.pointer (some ⟨d, 0, none⟩)] w fun e w' => e = .returned (.int .i64 k.steps) ∧ w' = w := by
  obtain ⟨_, c3, _, _, hl⟩ := h.own4
  clear h
  go_enter Try.func11, Try.ntmps11
  go_wp2
  go_ret
  exact ⟨rfl, rfl⟩
def lookV (o : Option (Nat × Fil)) (off : Bool) : Value × Int := if off = true then (.pointer none, 180) else match o with | none => (.pointer none, 183) | some pf => (.pointer (some ⟨pf.1, 0, none⟩), 0)
set_option maxRecDepth 100000 in
theorem look_any (w : World) (d m N : Nat) (O : Nat → Own) (k : Dk) (pv : Value) (Z : List (Nm × (Nat × Fil))) (s : ByteArray) (h : DA w d m O k N pv Z) (hs : s.size ≤ maxLen) :
    Calls Try.prog 57 #[.pointer (some ⟨d, 0, none⟩), .string s] w fun e w' => e = .returned (.tuple #[(lookV (look Z s.data.toList) k.off).1, .int .i64 (lookV (look Z s.data.toList) k.off).2]) ∧ w' = w := by
  obtain ⟨⟨c0, _, _, _, c4⟩, hdl⟩ := h.cells
  have LK := h.mp.look_run hs
  rw [look_mapV] at LK
  clear h
  obtain ⟨off, ho⟩ : ∃ off, off = k.off := ⟨_, rfl⟩
  rw [← ho] at c4 ⊢
  clear ho
  cases hz : look Z s.data.toList with
  | none =>
    rw [hz] at LK
    simp only [Option.map_none, optr] at LK
    clear hz
    cases off
    all_goals
      go_enter Try.func57, Try.ntmps57
      go_wp2
      go_ret2
      exact ⟨rfl, rfl⟩
  | some pf =>
    obtain ⟨p, f⟩ := pf
    rw [hz] at LK
    simp only [Option.map_some, optr, fptr] at LK
    clear hz
    cases off
    all_goals
      go_enter Try.func57, Try.ntmps57
      go_wp2
      go_ret2
      exact ⟨rfl, rfl⟩

set_option maxRecDepth 100000 in
theorem size_any (w : World) (d N : Nat) (S : Nat → Prop) (k : Dk) (s : ByteArray) (h : Disk w d S k N) (hs : s.size ≤ maxLen) :
    Calls Try.prog 35 #[.pointer (some ⟨d, 0, none⟩), .string s] w fun e w' => e = .returned (.tuple #[.int .i64 (sizeD k s.data.toList).1, .int .i64 (sizeD k s.data.toList).2]) ∧ w' = w := by
  obtain ⟨m, O, pv, Z, h, hS⟩ := h
  have HL := Lib.hid (look_any w d m N O k pv Z s h hs)
  have hlf := h.look_files s.data.toList
  obtain ⟨off, ho⟩ : ∃ off, off = k.off := ⟨_, rfl⟩
  rw [← ho] at HL
  cases off with
  | true =>
    have HR : Hid (sizeD k s.data.toList = (0, 180)) := by show _ = _; unfold sizeD; rw [if_pos ho.symm]
    clear h hS ho hlf
    unfold lookV at HL
    rw [if_pos rfl] at HL
    go_enter Try.func35, Try.ntmps35
    go_wp2_with (go_at_call 57; refine HL.out.mono ?_; rintro e w' ⟨rfl, rfl⟩)
    go_ret2
    exact ⟨by rw [HR.out]; rfl, rfl⟩
  | false =>
    cases hz : look Z s.data.toList with
    | none =>
      have HR : Hid (sizeD k s.data.toList = (0, 183)) := by show _ = _; unfold sizeD; rw [if_neg (by rw [← ho]; decide), hlf, hz]; rfl
      rw [hz] at HL
      clear h hS ho hlf hz
      unfold lookV at HL
      rw [if_neg (by decide)] at HL
      simp only at HL
      go_enter Try.func35, Try.ntmps35
      go_wp2_with (go_at_call 57; refine HL.out.mono ?_; rintro e w' ⟨rfl, rfl⟩)
      go_ret2
      exact ⟨by rw [HR.out]; rfl, rfl⟩
    | some pf =>
      obtain ⟨p, f⟩ := pf
      have HR : Hid (sizeD k s.data.toList = ((f.seen.length : Int), 0)) := by show _ = _; unfold sizeD; rw [if_neg (by rw [← ho]; decide), hlf, hz]; rfl
      obtain ⟨sv, nv, cv, hF⟩ := h.file _ p f (look_mem hz)
      obtain ⟨A1, q1, A2, q2, A3, q3, e1, e2, e3⟩ := hF.lens
      subst e2
      obtain ⟨_, d1, _, _, _, _, hpl⟩ := hF.see
      rw [hz] at HL
      clear h hS ho hlf hz e1 e3 hF
      unfold lookV at HL
      rw [if_neg (by decide)] at HL
      simp only at HL
      go_enter Try.func35, Try.ntmps35
      go_wp2_with (go_at_call 57; refine HL.out.mono ?_; rintro e w' ⟨rfl, rfl⟩)
      go_ret2
      exact ⟨by rw [HR.out]; rfl, rfl⟩

/-- A piece of a row that is read. -/
theorem C_piece {w : World} {ok : Nat → Prop} {g n c : Nat} {l : List Int} (h : RB w ok (.slice (some ⟨g, 0, none⟩) n c) l) {a t : Nat} (hat : a + t ≤ n) : (Kd.int .u8).C w (some ⟨g, a, none⟩) t ((l.drop a).take t) := by
  have hn := (Kd.R_reads' h).1
  refine ⟨by rw [List.length_take, List.length_drop]; omega, ?_, fun h0 => ⟨_, rfl, fun j p hj => ?_⟩⟩
  · have := (Kd.R_reads' h).2.2.2.1; omega
  · have hjt : j < t := by
      have := (List.getElem?_eq_some_iff.1 hj).1
      rw [List.length_take] at this
      omega
    rw [List.getElem?_take, if_pos hjt, List.getElem?_drop] at hj
    obtain ⟨c', hcl, hM, hcc⟩ := Kd.R_getA h 0 ((a + j : Nat) : Int) (by omega) (by omega)
    rw [Int.toNat_natCast] at hM hcc
    rw [List.getD_eq_getElem?_getD, hj, Option.getD_some] at hM
    refine ⟨c', hcl, hM, fun i u hu => ?_⟩
    have h1 := hcc i u hu
    have hi : i = 0 := by
      have : i < c'.length := (List.getElem?_eq_some_iff.1 hu).1
      have e : c'.length = 1 := hcl
      omega
    subst hi
    rw [addr_zero] at h1
    have e2 : (⟨g, a, none⟩ : Addr).add (j * (Kd.int .u8).sz + 0) = ⟨g, (a + j) * (Kd.int .u8).sz + 0, none⟩ := by
      show (⟨g, a, none⟩ : Addr).add (j * 1 + 0) = ⟨g, (a + j) * 1 + 0, none⟩
      unfold Addr.add
      split <;> simp_all
    rw [e2]
    exact h1

theorem C_zero {α : Type} (d : Kd α) (w : World) (A : Option Addr) : d.C w A 0 [] := ⟨rfl, by omega, fun h => absurd h (by omega)⟩
theorem C_piece2 {w : World} {ok : Nat → Prop} {A : Option Addr} {n c : Nat} {l : List Int} (h : RB w ok (.slice A n c) l) {a t : Nat} (hat : a + t ≤ n) : (Kd.int .u8).C w (Option.map (fun x => x.add a) A) t ((l.drop a).take t) := by
  have hn := (Kd.R_reads' h).1
  by_cases h0 : t = 0
  · subst h0
    rw [List.take_zero]
    exact C_zero _ _ _
  · obtain ⟨g, cap, e, _⟩ := Kd.R_form h (by omega)
    injection e with e1 e2 e3
    subst e1
    have := C_piece h hat
    rw [Option.map_some, addr_zero]
    exact this
/-- What Read hands back. -/
def ReadPost (w : World) (x : List Int × Int) (e : Ending) (w' : World) : Prop := ∃ v, e = .returned (.tuple #[v, .int .i64 x.2]) ∧ RB w' (fun b => w.heap.size ≤ b) v x.1 ∧ Below w.heap.size w w'

set_option maxRecDepth 100000 in
set_option maxHeartbeats 2000000 in
theorem read_any (w : World) (d N : Nat) (S : Nat → Prop) (k : Dk) (s : ByteArray) (at_ n : Int) (h : Disk w d S k N) (hs : s.size ≤ maxLen) (ha : -9223372036854775808 ≤ at_) (hn0 : n ≤ 9223372036854775807) :
    Calls Try.prog 26 #[.pointer (some ⟨d, 0, none⟩), .string s, .int .i64 at_, .int .i64 n] w (ReadPost w (readD k s.data.toList at_ n)) := by
  obtain ⟨m, O, pv, Z, h, hS⟩ := h
  have HL := Lib.hid (look_any w d m N O k pv Z s h hs)
  have hlf := h.look_files s.data.toList
  obtain ⟨off, ho⟩ : ∃ off, off = k.off := ⟨_, rfl⟩
  rw [← ho] at HL
  cases off with
  | true =>
    have HR : Hid (readD k s.data.toList at_ n = ([], 180)) := by show _ = _; unfold readD; rw [if_pos ho.symm]
    clear h hS ho hlf
    unfold lookV at HL
    rw [if_pos rfl] at HL
    go_enter Try.func26, Try.ntmps26
    go_wp2_with (go_at_call 57; refine HL.out.mono ?_; rintro e w' ⟨rfl, rfl⟩)
    go_ret2
    rw [HR.out]
    exact ⟨_, rfl, Kd.R_nil _ _ _ _ _, Below.refl _ _⟩
  | false =>
    cases hz : look Z s.data.toList with
    | none =>
      have HR : Hid (readD k s.data.toList at_ n = ([], 183)) := by show _ = _; unfold readD; rw [if_neg (by rw [← ho]; decide), hlf, hz]; rfl
      rw [hz] at HL
      clear h hS ho hlf hz
      unfold lookV at HL
      rw [if_neg (by decide)] at HL
      simp only at HL
      go_enter Try.func26, Try.ntmps26
      go_wp2_with (go_at_call 57; refine HL.out.mono ?_; rintro e w' ⟨rfl, rfl⟩)
      go_ret2
      rw [HR.out]
      exact ⟨_, rfl, Kd.R_nil _ _ _ _ _, Below.refl _ _⟩
    | some pf =>
      obtain ⟨p, f⟩ := pf
      have HR : Hid (readD k s.data.toList at_ n = if at_ < 0 ∨ n < 0 ∨ (f.seen.length : Int) < at_ ∨ (f.seen.length : Int) - at_ < n then ([], 3) else ((f.seen.drop at_.toNat).take n.toNat, 0)) := by show _ = _; unfold readD; rw [if_neg (by rw [← ho]; decide), hlf, hz]; rfl
      obtain ⟨sv, nv, cv, hF⟩ := h.file _ p f (look_mem hz)
      have hbig := (Wf.stop (h.ok.1 (s.data.toList, f) (look_mem (by rw [hlf, hz]; rfl))).1).1
      simp only at hbig
      obtain ⟨A1, q1, A2, q2, A3, q3, e1, e2, e3⟩ := hF.lens
      subst e2
      obtain ⟨l, hl⟩ : ∃ l, l = f.seen.length := ⟨_, rfl⟩
      rw [← hl] at HR hF hbig
      have HF := Lib.hid hF
      have hcap : l ≤ q2 := (Kd.R_reads' hF.seen).2.1
      obtain ⟨_, d1, _, _, _, _, hpl⟩ := hF.see
      have HLL := Lib.hid hl
      rw [hz] at HL
      clear h hS ho hlf hz e1 e3 hF hl
      unfold lookV at HL
      rw [if_neg (by decide)] at HL
      simp only at HL
      unfold big at hbig
      by_cases b1 : at_ < 0
      · have c1 : decide (at_ < 0) = true := decide_eq_true b1
        rw [if_pos (.inl b1)] at HR
        clear b1
        go_enter Try.func26, Try.ntmps26
        go_wp2_with (go_at_call 57; refine HL.out.mono ?_; rintro e w' ⟨rfl, rfl⟩)
        go_ret2
        rw [HR.out]
        exact ⟨_, rfl, Kd.R_nil _ _ _ _ _, Below.refl _ _⟩
      · have c1 : decide (at_ < 0) = false := decide_eq_false b1
        by_cases b2 : n < 0
        · have c2 : decide (n < 0) = true := decide_eq_true b2
          rw [if_pos (.inr (.inl b2))] at HR
          clear b2
          go_enter Try.func26, Try.ntmps26
          go_wp2_with (go_at_call 57; refine HL.out.mono ?_; rintro e w' ⟨rfl, rfl⟩)
          go_ret2
          rw [HR.out]
          exact ⟨_, rfl, Kd.R_nil _ _ _ _ _, Below.refl _ _⟩
        · have c2 : decide (n < 0) = false := decide_eq_false b2
          obtain ⟨a, rfl⟩ : ∃ a : Nat, at_ = (a : Int) := ⟨at_.toNat, by omega⟩
          obtain ⟨t, rfl⟩ : ∃ t : Nat, n = (t : Int) := ⟨n.toNat, by omega⟩
          by_cases b3 : l < a
          · have c3 : decide (l < a) = true := decide_eq_true b3
            rw [if_pos (.inr (.inr (.inl (by omega))))] at HR
            go_enter Try.func26, Try.ntmps26
            go_wp2_with (go_at_call 57; refine HL.out.mono ?_; rintro e w' ⟨rfl, rfl⟩)
            go_ret2
            rw [HR.out]
            exact ⟨_, rfl, Kd.R_nil _ _ _ _ _, Below.refl _ _⟩
          · have c3 : decide (l < a) = false := decide_eq_false b3
            by_cases b4 : (l : Int) - a < t
            · have c4 : decide ((l : Int) - a < t) = true := decide_eq_true b4
              rw [if_pos (.inr (.inr (.inr b4)))] at HR
              go_enter Try.func26, Try.ntmps26
              go_wp2_with (go_at_call 57; refine HL.out.mono ?_; rintro e w' ⟨rfl, rfl⟩)
              go_ret2
              rw [HR.out]
              exact ⟨_, rfl, Kd.R_nil _ _ _ _ _, Below.refl _ _⟩
            · have c4 : decide ((l : Int) - a < t) = false := decide_eq_false b4
              rw [if_neg (by omega), Int.toNat_natCast, Int.toNat_natCast] at HR
              have i1 : (0 : Int) ≤ (a : Int) := by omega
              have i2 : (a : Int) ≤ (a : Int) + (t : Int) := by omega
              have i3 : (a : Int) + (t : Int) ≤ (q2 : Int) := by omega
              have i4 : IntKind.i64.wrap ((a : Int) + (t : Int)) = (a : Int) + (t : Int) := IntWalk.i64_in _ (by omega)
              have HTB : Hid (t * 1 ≤ 140737488355328) := by show _ ≤ _; omega
              have HAT : Hid (a + t ≤ l) := by show _ ≤ _; omega
              have HC2 := Lib.hid (C_piece2 HF.out.seen HAT.out)
              have HC1 : Hid (q2 = a → (Kd.int .u8).C w A2 t ((f.seen.drop a).take t)) := fun e => by
                have e2 := HAT.out
                obtain rfl : t = 0 := by omega
                rw [List.take_zero]
                exact C_zero _ _ _
              by_cases hqa : q2 = a
              · have HCC := Lib.hid (HC1.out hqa)
                go_enter Try.func26, Try.ntmps26
                go_wp2_with (go_at_call 57; refine HL.out.mono ?_; rintro e w' ⟨rfl, rfl⟩)
                refine (clone_bytes _ t _ ((f.seen.drop a).take t) _ HCC.out HTB.out).mono ?_
                rintro r w3 ⟨v3, rfl, hv, hb⟩
                have HV := Lib.hid hv
                have HB := Lib.hid hb
                clear hv hb
                go_wp2_with fail
                go_ret2
                rw [HR.out]
                exact ⟨_, rfl, HV.out, HB.out⟩
              · go_enter Try.func26, Try.ntmps26
                go_wp2_with (go_at_call 57; refine HL.out.mono ?_; rintro e w' ⟨rfl, rfl⟩)
                refine (clone_bytes _ t _ ((f.seen.drop a).take t) _ HC2.out HTB.out).mono ?_
                rintro r w3 ⟨v3, rfl, hv, hb⟩
                have HV := Lib.hid hv
                have HB := Lib.hid hb
                clear hv hb
                go_wp2_with fail
                go_ret2
                rw [HR.out]
                exact ⟨_, rfl, HV.out, HB.out⟩
end Go.Proofs.Ytkhopknpadncdaa
end

/- Names -/
section
/- (*Disk).names: the files' names in order. -/
namespace Go.Proofs.Ytkhopknpadncdaa
open Go Go.RowKit Go.Maps Go.Shelf Go.Sort Go.Proofs.YtkhopknpadncdaaW.PrintWords Go.Proofs.Ytkhopknpadncdaa.PDiskMemory Go.Proofs.YtkhopknpadncdaaW.PrintMore
set_option linter.unusedVariables false

def toBA (l : List UInt8) : ByteArray := ⟨l.toArray⟩
theorem encs_toBA (ss : List (List UInt8)) : encs Value.string (ss.map toBA) = ss.map encStr := by
  unfold encs
  rw [List.map_map]
  rfl
abbrev RS (w : World) (ok : Nat → Prop) (v : Value) (l : List ByteArray) : Prop := Kd.string.R 9 w 0 ok v l
theorem info_str : (Try.prog.info? 9).map (fun i => (i.zero, i.size, i.bytes)) = some (some (.string .empty), 1, 16) := by kernel_rfl

theorem before_le : ∀ (a b : List UInt8), bytesBefore a b = true → a ≤ b
  | [], b, _ => List.nil_le b
  | _ :: _, [], h => by cases h
  | a :: r, b :: q, h => by
    unfold bytesBefore at h
    rw [Bool.or_eq_true, Bool.and_eq_true] at h
    rw [List.cons_le_cons_iff]
    rcases h with h | ⟨h1, h2⟩
    · exact .inl (by simpa using h)
    · exact .inr ⟨by simpa using h1, before_le r q h2⟩
/-- What was collected, sorted: the names in order. -/
theorem sorted_names {w : World} {b : Nat} {L : List (Nm × Nat)} (h : ML w b L) {ss : List (List UInt8)} (hp : ss.Perm (strKeys (dat L))) : ss.mergeSort leB = L.map (·.1) := by
  rw [mergeSort_of_perm hp, dat_keys]
  refine List.mergeSort_of_pairwise (List.pairwise_map.2 (h.sorted.imp fun {a b} h => ?_))
  simp only [leB, decide_eq_true_eq]
  exact before_le _ _ h
/-- The sort of a row of names. -/
theorem sort_row {w : World} {ok : Nat → Prop} {A : Option Addr} {n c : Nat} {ss : List (List UInt8)} (h : RS w ok (.slice A n c) (ss.map toBA)) (hn : ss.length < 4611686018427387904) :
    Calls Try.prog 75 #[.slice A n c] w fun e w' => e = .returned (.tuple #[]) ∧ RS w' ok (.slice A n c) ((ss.mergeSort leB).map toBA) ∧ w.grownBy w' (Value.slice A n c).ownBlock := by
  have hown := Kd.own_of_R h
  rw [encs_toBA, List.length_map] at hown
  have hlen : n = ss.length := by
    have := (Kd.R_reads' h).1
    rw [List.length_map] at this
    exact this
  rcases hown.2 with ⟨hnil, h0⟩ | ⟨g, cap, cur, hv, hbase, hb, h1, h2, h3, h4⟩
  · injection hnil with e1 e2 e3
    subst e1 e2 e3
    have hss : ss = [] := List.length_eq_zero_iff.1 hlen.symm
    subst hss
    refine (Try.slices_Sort_string_none none 0 w).mono ?_
    rintro e w' ⟨rfl, rfl⟩
    exact ⟨rfl, by rw [List.mergeSort_nil]; exact h, ⟨rfl, rfl, rfl, Nat.le_refl _, fun _ _ _ => rfl⟩⟩
  · injection hv with e1 e2 e3
    subst e1 e3
    subst hlen
    refine (Try.slices_Sort_string g 0 c ss w (holds_of_block hb (by simpa using h4)) (Array.getElem?_eq_some_iff.1 hb).1 hn).mono ?_
    rintro e w' ⟨rfl, nn, os, rfl⟩
    have hl : (ss.mergeSort leB).length = ss.length := List.length_mergeSort _
    have ho := ownsRow_sorted (n := nn) (os := os) (ts := ss.mergeSort leB) hl hbase hb h1 h2 h3
    refine ⟨rfl, Kd.R_of_own (enc := Value.string) (by rw [encs_toBA, List.length_map, hl]; exact ho) h.1, ?_⟩
    rw [show (Value.slice (some ⟨g, 0, none⟩) ss.length c).ownBlock = some g by simp [Value.ownBlock]]
    exact grownBy_sorted _

def namesD (k : Dk) : List ByteArray := k.files.map fun p => toBA p.1
def NamesPost (w : World) (k : Dk) (e : Ending) (w' : World) : Prop := ∃ v, e = .returned v ∧ RS w' (fun b => w.heap.size ≤ b) v (namesD k) ∧ Below w.heap.size w w'
set_option maxRecDepth 100000 in
set_option maxHeartbeats 2000000 in
theorem names_any (w : World) (d N : Nat) (S : Nat → Prop) (k : Dk) (h : Disk w d S k N) :
    Calls Try.prog 64 #[.pointer (some ⟨d, 0, none⟩)] w (NamesPost w k) := by
  obtain ⟨m, O, pv, Z, h, hS⟩ := h
  obtain ⟨⟨c0, _, _, _, _⟩, hdl⟩ := h.cells
  have H := Lib.hid h
  have HM := Lib.hid h.mp
  have HNM : Hid (¬ w.heap.size < m) := by show ¬ _; have := h.mp.lt; omega
  have HLZ : Hid ((mapV (·.1) Z).length ≤ 256) := by
    show _ ≤ _
    rw [mapV_length, ← mapV_length (·.2) Z, ← h.files]
    exact h.ok.2.2.2.1
  clear h hS
  go_enter Try.func64, Try.ntmps64
  go_wp2_with (at_range; refine wpList_range_own _ rfl _ 75 rfl 9 80 keyed Try.underlying75 raw m _ _ rfl HM.out ?_; intro w0 hrg0 hg0 hs0; have HR0 := Lib.hid hrg0; have HB0 : Hid (Below w.heap.size w w0) := grown_new (Below.refl _ _) hg0 (fun k hk => by cases hk); clear hrg0 hg0 hs0)
  go_frame
  go_loopw [3, 4] (fun v _ wr => ∃ (left : Lit → Bool) (cnt : Nat) (ss : List (List UInt8)), Hid (wr.ranges Try.prog 9 raw m w.heap.size (mapV (·.1) Z).length (dat (mapV (·.1) Z)) left cnt) ∧ Hid (Below w.heap.size w wr) ∧ Hid (Collected (dat (mapV (·.1) Z)) left ss) ∧ Hid (ss.length + cnt ≤ (mapV (·.1) Z).length) ∧ Hid (RS wr (fun b => w.heap.size < b) v (ss.map toBA))) (fun _ _ wr => wr.rangeLeft m w.heap.size)
  case atStart => exact ⟨_, _, [], HR0.out, HB0.out, Collected.start _, by show _ ≤ _; rw [dat_size]; exact Nat.le_of_eq (Nat.zero_add _), Kd.R_nil _ _ _ _ _⟩
  case round =>
    clear HR0 HB0
    obtain ⟨left, cnt, ss, HR, HB, HC, HCN, HRS⟩ := hrel
    obtain ⟨ns, As, cs, rfl⟩ : ∃ n A c, u3 = .slice A n c := by obtain ⟨A_, c_, e_⟩ := Kd.R_slice HRS.out; exact ⟨_, A_, c_, e_⟩
    have hsl := HCN.out
    have HSL : Hid (((ss.map toBA).length + 1) * 16 ≤ 140737488355328) := by show _ ≤ _; rw [List.length_map]; have := HLZ.out; omega
    have HSL2 : Hid (ss.length < 4611686018427387904) := by show _ < _; have := HLZ.out; omega
    clear hsl
    go_wp2_with (at_next; refine wpList_next_ranges _ rfl _ rfl 9 keyed raw encStr (fun v => v) (fun key kl hk => by obtain ⟨x, hx, _⟩ := Maps.keyOf_str Try.underlying9 hk; exact ⟨x, hx⟩) (fun v y hv => ⟨v, rfl⟩) m w.heap.size _ _ left cnt rfl HR.out ?_ ?_)
    · intro _ hl0
      have HP := Lib.hid (sorted_names HM.out (HC.out.perm HR.out.owns keyed Try.underlying9 hl0))
      clear hl0
      go_wp2_with (go_at_call 75; refine (sort_row HRS.out HSL2.out).mono ?_; rintro e w4 ⟨rfl, hr, hg⟩; have HR4 := Lib.hid hr; have HB4 : Hid (Below w.heap.size w w4) := grown_new HB.out hg (fun k hk => Nat.le_of_lt (HRS.out.1 k hk)); clear hr hg)
      go_ret
      refine ⟨_, rfl, ?_, HB4.out⟩
      have h4 := HR4.out
      rw [HP.out, mapV_names] at h4
      have e : namesD k = (Z.map (·.1)).map toBA := by
        unfold namesD
        rw [H.out.files, mapV]
        rw [List.map_map, List.map_map]
        rfl
      rw [e]
      exact Kd.R_mono h4 (fun b hb => Nat.le_of_lt hb)
    · intro x c kl yd yp w2 cnt2 hkey hlk hv hat hrg2 hlt hg2 hs2 hen
      have hsz2 : w.heap.size < w2.heap.size := by rw [hs2]; exact HR.out.lt
      clear hs2
      obtain ⟨x', ex, rfl, _⟩ := Maps.keyOf_str Try.underlying9 hkey
      obtain rfl : x = x' := encStr_inj ex
      unfold raw at hv
      simp only [Option.some.injEq, Prod.mk.injEq] at hv
      obtain ⟨rfl, rfl⟩ := hv
      obtain ⟨p, hp, rfl⟩ := dat_came hat
      have HB2 : Hid (Below w.heap.size w w2) := HB.out.trans ((Tch.of_grown (S := fun b => b = w.heap.size) hg2 (fun b hb => (Option.some.inj hb).symm)).below HB.out.size (fun b hb => Nat.le_of_eq hb.symm))
      have HC2 := Lib.hid (HC.out.step hlk hat)
      have HRS2 := Lib.hid (Kd.R_grown HRS.out hg2 (fun b hb => by have h2 : w.heap.size < b := hb; intro e; injection e with e; omega))
      have HRG := Lib.hid hrg2
      have HLT := Lib.hid hlt
      clear hkey hlk hat hp hg2 hrg2 hlt ex
      unfold fptr at hen
      unfold encStr at hen ⊢
      go_wp2_with (at_builtin; refine Kd.R_append Kd.string (w0 := w) 0 rfl (.tmp 14) (.tmp 16) 99 9 (.string .empty) 16 rfl Try.underlying99 info_str rfl (by decide) (by decide) (.slice As ns cs) (ss.map toBA) { data := x.toArray } [.string { data := x.toArray }] (fun b => w.heap.size < b) (fun _ => False) rfl rfl rfl (fun _ h => h.elim) (fun b hb => Nat.lt_of_lt_of_le hsz2 hb) HRS2.out (HB2.out.mono (Nat.zero_le _)) (Nat.zero_le _) HSL.out ?_; intro v3 w3 hr hb hg hat; have HR3 := Lib.hid hr; have HB3 : Hid (Below w.heap.size w w3) := grown_new HB2.out hg (fun k hk => Nat.le_of_lt (HRS2.out.1 k hk)); have HRG3 := Lib.hid (HRG.out.kept hg (fun e => HNM.out (HRS2.out.1 _ e.symm)) (fun e => Nat.lt_irrefl _ (HRS2.out.1 _ e.symm))); clear hr hb hg hat)
      go_roundw
      case rel => exact ⟨_, _, ss ++ [x], HRG3.out, HB3.out, HC2.out, by show _ ≤ _; rw [List.length_append, List.length_singleton]; have h1 := HCN.out; have h2 := HLT.out; omega, by rw [List.map_append]; exact HR3.out⟩
      case measure =>
        have h1 := HLT.out
        rw [HRG3.out.left_eq, HR.out.left_eq]
        exact h1
end Go.Proofs.Ytkhopknpadncdaa
end

/- After -/
section
/- (*file).after: what is safe with the first units made. -/
namespace Go.Proofs.Ytkhopknpadncdaa
open Go Go.RowKit Go.Maps Go.Proofs.YtkhopknpadncdaaW.PrintWords Go.Proofs.Ytkhopknpadncdaa.PDiskMemory Go.Proofs.YtkhopknpadncdaaW.PrintMore
set_option linter.unusedVariables false
attribute [local go_sem] max2_int min2_int max_two min_two max_three min_three

set_option maxRecDepth 100000 in
theorem units_one (c : Chg) (A : Option Addr) (n q : Nat) (hn : n = c.add.length) (w : World) : Calls Try.prog 63 #[.agg #[.bool c.cuts, .int .i64 c.to, .slice A n q]] w fun e w' => e = .returned (.int .i64 c.units) ∧ Below w.heap.size w w' := by
  have HB : Hid (Below w.heap.size w (w.alloc (.cells #[.bool c.cuts, .int .i64 c.to, .slice A n q] 98))) := (Below.refl _ _).alloc (Nat.le_refl _) _
  obtain ⟨cuts, to_, add⟩ := c
  simp only at hn HB ⊢
  have HN := Lib.hid hn
  clear hn
  cases cuts with
  | true =>
    go_enter Try.func63, Try.ntmps63
    go_wp2
    go_ret
    exact ⟨rfl, HB.out⟩
  | false =>
    go_enter Try.func63, Try.ntmps63
    go_wp2
    go_ret
    refine ⟨?_, HB.out⟩
    have : (Chg.units ⟨false, to_, add⟩) = (n : Int) := by unfold Chg.units; rw [HN.out]; rfl
    rw [this]
    rfl

/-- A change of a file's row, read. -/
theorem chg_at {w : World} {ok : Nat → Prop} {A : Option Addr} {n c i : Nat} {L : List Chg} {f : Chg} (h : RC w ok (.slice A n c) L) (hf : L[i]? = some f) :
    ∃ g A3 q3, A = some ⟨g, 0, none⟩ ∧ g < w.heap.size ∧ w.cell? ⟨g, i * 3, none⟩ = some (.bool f.cuts) ∧ w.cell? ⟨g, i * 3 + 1, none⟩ = some (.int .i64 f.to) ∧ w.cell? ⟨g, i * 3 + 2, none⟩ = some (.slice A3 f.add.length q3) ∧ RB w ok (.slice A3 f.add.length q3) f.add := by
  have hn := (Kd.R_reads' h).1
  have hi := (List.getElem?_eq_some_iff.1 hf).1
  obtain ⟨g, cap, e, _⟩ := Kd.R_form h (by omega)
  injection e with e1 e2 e3
  subst e1
  obtain ⟨c', hcl, hM, hcc⟩ := Kd.R_getA h ⟨false, 0, []⟩ (i : Int) (by omega) (by omega)
  rw [Int.toNat_natCast] at hM hcc
  rw [List.getD_eq_getElem?_getD, hf, Option.getD_some] at hM
  obtain ⟨c0, c1, e, h0, c2, c3, e2, h2, v, h3, hr⟩ := hM
  have h0' : c0 = [Value.bool f.cuts] := h0
  have h2' : c2 = [Value.int .i64 f.to] := h2
  obtain ⟨A3, q3, e3⟩ := Kd.R_slice hr
  subst h0' h2' h3 e2 e e3
  have e0 : ∀ j, (⟨g, 0, none⟩ : Addr).add (i * kChg.sz + j) = ⟨g, i * 3 + j, none⟩ := fun j => by rw [addr_zero]; rfl
  exact ⟨g, A3, q3, rfl, (by have := World.block_lt_of_cell? w _ (hcc 0 _ rfl); rwa [e0] at this), by have := hcc 0 _ rfl; rw [e0] at this; exact this, by have := hcc 1 _ rfl; rw [e0] at this; exact this, by have := hcc 2 _ rfl; rw [e0] at this; exact this, Kd.R_mono hr (fun k hk => hk.1)⟩

theorem after_stop (s : List Int) (cs : List Chg) {k : Int} (h : k ≤ 0) : after s cs k = s := by
  cases cs with
  | nil => rfl
  | cons c cs => unfold after; rw [if_pos h]
theorem after_cut {s : List Int} {cs : List Chg} {c : Chg} {k : Int} (h : 0 < k) (hc : c.cuts = true) : after s (c :: cs) k = after (s.take c.to.toNat) cs (k - 1) := by
  show (if k ≤ 0 then s else after (if c.cuts then s.take c.to.toNat else s ++ c.add.take (min k c.add.length).toNat) cs (k - c.units)) = _
  rw [if_neg (by omega), if_pos hc, show c.units = 1 by unfold Chg.units; rw [if_pos hc]]
theorem after_add {s : List Int} {cs : List Chg} {c : Chg} {k : Int} (h : 0 < k) (hc : c.cuts = false) : after s (c :: cs) k = after (s ++ c.add.take (min k c.add.length).toNat) cs (k - c.add.length) := by
  show (if k ≤ 0 then s else after (if c.cuts then s.take c.to.toNat else s ++ c.add.take (min k c.add.length).toNat) cs (k - c.units)) = _
  rw [if_neg (by omega), if_neg (by rw [hc]; decide), show c.units = (c.add.length : Int) by unfold Chg.units; rw [if_neg (by rw [hc]; decide)]]

/-- What is still to be made of a file's changes. -/
def Left (f : Fil) (u0 : Int) (s : List Int) (j : Nat) (u : Int) : Prop := after s (f.chs.drop j) u = after f.safe f.chs u0 ∧ (u ≤ 0 ∨ Wf s (f.chs.drop j) f.seen) ∧ s.length ≤ big
theorem Left.next_cut {f : Fil} {u0 u : Int} {s : List Int} {j : Nat} {c : Chg} (h : Left f u0 s j u) (hj : f.chs[j]? = some c) (hu : 0 < u) (hc : c.cuts = true) : Left f u0 (s.take c.to.toNat) (j + 1) (u - 1) ∧ 0 ≤ c.to ∧ c.to ≤ s.length := by
  obtain ⟨hlt, he⟩ := List.getElem?_eq_some_iff.1 hj
  have hd : f.chs.drop j = c :: f.chs.drop (j + 1) := by rw [List.drop_eq_getElem_cons hlt, he]
  obtain ⟨h1, h2, h3⟩ := h
  rw [hd] at h1 h2
  rw [after_cut hu hc] at h1
  rcases h2 with h2 | ⟨_, _, h5, h6⟩
  · omega
  · rw [if_pos hc] at h5
    unfold Chg.app at h6
    rw [if_pos hc] at h6
    exact ⟨⟨h1, .inr h6, Nat.le_trans (List.length_take_le' ..) h3⟩, h5⟩
theorem Left.next_add {f : Fil} {u0 u : Int} {s : List Int} {j : Nat} {c : Chg} (h : Left f u0 s j u) (hj : f.chs[j]? = some c) (hu : 0 < u) (hc : c.cuts = false) : Left f u0 (s ++ c.add.take (min u c.add.length).toNat) (j + 1) (u - c.add.length) ∧ s.length + c.add.length ≤ big := by
  obtain ⟨hlt, he⟩ := List.getElem?_eq_some_iff.1 hj
  have hd : f.chs.drop j = c :: f.chs.drop (j + 1) := by rw [List.drop_eq_getElem_cons hlt, he]
  obtain ⟨h1, h2, h3⟩ := h
  rw [hd] at h1 h2
  rw [after_add hu hc] at h1
  rcases h2 with h2 | ⟨_, _, h5, h6⟩
  · omega
  · rw [if_neg (by rw [hc]; decide)] at h5
    unfold Chg.app at h6
    rw [if_neg (by rw [hc]; decide)] at h6
    refine ⟨⟨h1, ?_, by rw [List.length_append, List.length_take]; omega⟩, h5.2⟩
    by_cases hl : (c.add.length : Int) ≤ u
    · rw [show (min u (c.add.length : Int)).toNat = c.add.length by omega, List.take_length]
      exact .inr h6
    · exact .inl (by omega)
theorem Left.start {f : Fil} (h : f.ok) (u0 : Int) : Left f u0 f.safe 0 u0 := ⟨rfl, .inr h, (Wf.start h).1⟩

/-- What after hands back. -/
def AfterPost (w : World) (l : List Int) (e : Ending) (w' : World) : Prop := ∃ v, e = .returned v ∧ RB w' (fun b => w.heap.size ≤ b) v l ∧ Below w.heap.size w w'
theorem box_grown {W w1 : World} {b : Nat} {x y z : Value} {T : TypeId} {row : Option Nat} (h : W.heap[b]? = some (.cells #[x, y, z] T (0, 0))) (hg : W.grownBy w1 row) (hn : some b ≠ row) :
    w1.cell? ⟨b, 0, none⟩ = some x ∧ w1.cell? ⟨b, 1, none⟩ = some y ∧ w1.cell? ⟨b, 2, none⟩ = some z := by
  have h1 := blk_grown h hg hn
  exact ⟨(blk_cell h1 0).trans rfl, (blk_cell h1 1).trans rfl, (blk_cell h1 2).trans rfl⟩
theorem chg_box_ne {w : World} {ok : Nat → Prop} {v : Value} {l : List Int} (h : RB w ok v l) : some w.heap.size ≠ v.ownBlock := fun e => by
  have := Kd.R_lt h _ e.symm
  omega
set_option maxRecDepth 100000 in
set_option maxHeartbeats 2000000 in
theorem after_any (w : World) (O : Nat → Own) (x : Nm) (p : Nat) (f : Fil) (sv nv cv : Value) (u0 : Int) (h : FA w O x p f sv nv cv) (hf : f.ok) (hu : u0 ≤ 9223372036854775807) (hcl : f.chs.length ≤ 1000000000000) :
    Calls Try.prog 65 #[.pointer (some ⟨p, 0, none⟩), .int .i64 u0] w (AfterPost w (after f.safe f.chs u0)) := by
  have H := Lib.hid h
  obtain ⟨A1, q1, A2, q2, A3, q3, e1, e2, e3⟩ := h.lens
  obtain ⟨N1, hN1⟩ : ∃ N1, N1 = f.safe.length := ⟨_, rfl⟩
  obtain ⟨N3, hN3⟩ : ∃ N3, N3 = f.chs.length := ⟨_, rfl⟩
  rw [← hN1] at e1
  rw [← hN3] at e3 hcl
  subst e1
  subst e3
  obtain ⟨c0, c1, c2, f0, f1, f2, hpl⟩ := h.see
  have HC : Hid ((Kd.int .u8).C w A1 N1 f.safe) := by rw [hN1]; exact (Kd.R_reads' h.safe).2.2
  have HNL : Hid (N1 * 1 ≤ 140737488355328) := by show _ ≤ _; have := (Wf.start hf).1; unfold big at this; omega
  have HST := Lib.hid (Left.start hf u0)
  have HN3 := Lib.hid hN3
  clear h hN1 hN3 hf e2
  go_enter Try.func65, Try.ntmps65
  go_wp2_with (go_at_call 58; refine (clone_bytes A1 N1 q1 f.safe w HC.out HNL.out).mono ?_; rintro r w1 ⟨v1, rfl, hv, hb⟩; have HV1 := Lib.hid hv; have HB1 := Lib.hid hb; obtain ⟨d0, d1, d2, g0, g1, g2, hpl1⟩ := (H.out.below hb).see; clear hv hb)
  clear c0 c1 c2 f0 f1 f2 d0 d1 d2 g0 g1 g2
  go_loopw [1, 5, 7, 18] (fun kv bv _ i wr => ∃ (j : Nat) (s : List Int) (u : Int), j ≤ N3 ∧ u ≤ 9223372036854775807 ∧ i = .int .i64 j ∧ kv = .int .i64 u ∧ Hid (Left f u0 s j u) ∧ Hid (RB wr (fun b => w.heap.size ≤ b) bv s) ∧ Hid (Below w.heap.size w wr)) (fun _ _ _ i _ => N3 - (intOf i).toNat)
  case atStart => exact ⟨0, f.safe, u0, Nat.zero_le _, hu, rfl, rfl, HST.out, HV1.out, HB1.out⟩
  case round =>
    clear HST HV1 HB1
    obtain ⟨j, s, u, hj, hu, rfl, rfl, HST, HV, HB⟩ := hrel
    obtain ⟨nb, Bb, qb, rfl⟩ : ∃ n A q, u5 = .slice A n q := by obtain ⟨A_, q_, e_⟩ := Kd.R_slice HV.out; exact ⟨_, A_, q_, e_⟩
    by_cases hjn : j < N3
    · obtain ⟨c, hc⟩ : ∃ c, f.chs[j]? = some c := ⟨_, List.getElem?_eq_getElem (by have := HN3.out; omega)⟩
      have HF := Lib.hid (H.out.below HB.out)
      obtain ⟨g, A4, q4, rfl, hgl, p0, p1, p2, hr4⟩ := chg_at HF.out.chgs hc
      have HR4 := Lib.hid hr4
      have HCJ := Lib.hid hc
      have hq4 : c.add.length ≤ q4 := (Kd.R_reads' hr4).2.1
      obtain ⟨n4, hn4⟩ : ∃ n4, n4 = c.add.length := ⟨_, rfl⟩
      rw [← hn4] at p2 hq4
      have HN4 := Lib.hid hn4
      clear hc hr4 hn4
      by_cases hu0 : u ≤ 0
      · have hu1 : decide (u ≤ 0) = true := decide_eq_true hu0
        have HE : Hid (s = after f.safe f.chs u0) := by have := HST.out.1; rw [after_stop _ _ hu0] at this; exact this
        clear hu0
        go_wp2_with fail
        go_ret
        exact ⟨_, rfl, by rw [← HE.out]; exact Kd.R_alloc HV.out _, HB.out.alloc HB.out.size _⟩
      · have hu1 : decide (u ≤ 0) = false := decide_eq_false hu0
        obtain ⟨cc, hcc⟩ : ∃ cc, cc = c.cuts := ⟨_, rfl⟩
        rw [← hcc] at p0
        have HB2 : Hid (Below w.heap.size w (wr.alloc (.cells #[.bool cc, .int .i64 c.to, .slice A4 n4 q4] 98))) := HB.out.alloc HB.out.size _
        have HV2 := Lib.hid (Kd.R_alloc HV.out (.cells #[.bool cc, .int .i64 c.to, .slice A4 n4 q4] 98))
        have HBX := Lib.hid (heap_alloc_new wr (.cells #[.bool cc, .int .i64 c.to, .slice A4 n4 q4] 98))
        have HUN := Lib.hid (fun W => units_one c A4 n4 q4 HN4.out W)
        rw [← hcc] at HUN
        cases cc with
        | true =>
          obtain ⟨HS2, t0, t1⟩ := HST.out.next_cut HCJ.out (by omega) hcc.symm
          have HS2 := Lib.hid HS2
          have hnb := (Kd.R_reads' HV.out).1
          have hqb := (Kd.R_reads' HV.out).2.1
          obtain ⟨t, ht⟩ : ∃ t : Nat, c.to = (t : Int) := ⟨c.to.toNat, by omega⟩
          rw [ht] at HBX HB2 HV2 p1 HUN HS2 t0 t1
          have i1 : (t : Int) ≤ (qb : Int) := by omega
          have htn : t ≤ nb := by omega
          have HUC : Hid (c.units = 1) := by show _ = _; unfold Chg.units; rw [← hcc]; rfl
          rw [HUC.out] at HUN
          have HV3 := Lib.hid (take_row HV2.out htn)
          clear ht t1 hcc
          go_wp2_with (go_at_call 63; refine (HUN.out _).mono ?_; rintro e w3 ⟨rfl, hb⟩; have HB3 := Lib.hid (HB2.out.trans (hb.mono HB2.out.size)); have HV4 := Lib.hid (Kd.R_below HV3.out hb); clear hb)
          go_roundw
          case rel => exact ⟨j + 1, _, u - 1, by omega, by omega, by go_num, rfl, HS2.out, HV4.out, HB3.out⟩
          case measure => simp [intOf]; omega
        | false =>
          obtain ⟨HS2, t1⟩ := HST.out.next_add HCJ.out (by omega) hcc.symm
          have HUC : Hid (c.units = (n4 : Int)) := by show _ = _; unfold Chg.units; rw [← hcc, ← HN4.out]; rfl
          have HCR : Hid ((Kd.int .u8).C (wr.alloc (.cells #[.bool false, .int .i64 c.to, .slice A4 n4 q4] 98)) A4 n4 c.add) := by
            have h1 := (Kd.R_reads' HR4.out).2.2
            rw [HN4.out]
            exact Kd.C_below h1 ((Below.refl _ _).alloc (Nat.le_refl _) _)
          rw [HUC.out] at HUN
          have HBG : Hid (s.length + c.add.length ≤ 140737488351232) := by show _ ≤ _; unfold big at t1; exact t1
          have HNB : Hid (n4 ≤ 140737488351232) := by show _ ≤ _; have := HBG.out; have := HN4.out; omega
          have hn4b : n4 ≤ 140737488351232 := HNB.out
          clear t1 hcc
          obtain ⟨t, ht⟩ : ∃ t : Nat, (t : Int) = min u (n4 : Int) := ⟨(min u (n4 : Int)).toNat, by omega⟩
          have HT : Hid ((min u (c.add.length : Int)).toNat = t) := by show _ = _; rw [← HN4.out]; omega
          rw [HT.out, ← HN4.out] at HS2
          have HS2 := Lib.hid HS2
          have htn : t ≤ n4 := by omega
          have HCT := Lib.hid (C_take HCR.out htn)
          have HLB : Hid ((s.length + t) * 1 ≤ 140737488355328) := by show _ ≤ _; have h1 := HBG.out; have h2 := HN4.out; omega
          by_cases hm : (n4 : Int) < u
          · obtain rfl : t = n4 := by omega
            have i0 : (0 : Int) ≤ (t : Int) ∧ (t : Int) ≤ (q4 : Int) := by omega
            clear ht
            go_wp2_with (first
              | (at_builtin; refine Kd.R_append_rows (Kd.int .u8) (w0 := w) 0 rfl (.tmp 30) (.tmp 38) 34 5 (.int .u8 0) 1 rfl Try.underlying34 info_u8 rfl (by decide) (by decide) (.slice Bb nb qb) s (c.add.take t) A4 t q4 (fun b => w.heap.size ≤ b) (fun _ => False) rfl rfl HV2.out HCT.out (fun x cs h => h) (fun _ h => h.elim) (fun b hb => Nat.le_trans HB2.out.size hb) (HB2.out.mono (Nat.zero_le _)) (Nat.zero_le _) HLB.out ?_; intro v3 w3 hr hb hg hat; obtain ⟨N5, B5, q5, rfl⟩ : ∃ n A q, v3 = .slice A n q := (by obtain ⟨A_, q_, e_⟩ := Kd.R_slice hr; exact ⟨_, A_, q_, e_⟩); have HR3 := Lib.hid hr; have HB3 : Hid (Below w.heap.size w w3) := grown_new HB2.out hg (fun k hk => HV2.out.1 k hk); obtain ⟨k0, k1, k2⟩ := box_grown HBX.out hg (chg_box_ne HV.out); clear hr hb hg hat)
              | (go_at_call 63; refine (HUN.out _).mono ?_; rintro e w5 ⟨rfl, hb⟩; have HB5 := Lib.hid (HB3.out.trans (hb.mono HB3.out.size)); have HR5 := Lib.hid (Kd.R_below HR3.out hb); clear hb))
            go_roundw
            case rel => exact ⟨j + 1, _, u - t, by omega, by omega, by go_num, rfl, HS2.out, HR5.out, HB5.out⟩
            case measure => simp [intOf]; omega
          · obtain rfl : u = (t : Int) := by omega
            have i0 : (0 : Int) ≤ (t : Int) ∧ (t : Int) ≤ (q4 : Int) := by omega
            clear ht
            go_wp2_with (first
              | (at_builtin; refine Kd.R_append_rows (Kd.int .u8) (w0 := w) 0 rfl (.tmp 30) (.tmp 38) 34 5 (.int .u8 0) 1 rfl Try.underlying34 info_u8 rfl (by decide) (by decide) (.slice Bb nb qb) s (c.add.take t) A4 t q4 (fun b => w.heap.size ≤ b) (fun _ => False) rfl rfl HV2.out HCT.out (fun x cs h => h) (fun _ h => h.elim) (fun b hb => Nat.le_trans HB2.out.size hb) (HB2.out.mono (Nat.zero_le _)) (Nat.zero_le _) HLB.out ?_; intro v3 w3 hr hb hg hat; obtain ⟨N5, B5, q5, rfl⟩ : ∃ n A q, v3 = .slice A n q := (by obtain ⟨A_, q_, e_⟩ := Kd.R_slice hr; exact ⟨_, A_, q_, e_⟩); have HR3 := Lib.hid hr; have HB3 : Hid (Below w.heap.size w w3) := grown_new HB2.out hg (fun k hk => HV2.out.1 k hk); obtain ⟨k0, k1, k2⟩ := box_grown HBX.out hg (chg_box_ne HV.out); clear hr hb hg hat)
              | (go_at_call 63; refine (HUN.out _).mono ?_; rintro e w5 ⟨rfl, hb⟩; have HB5 := Lib.hid (HB3.out.trans (hb.mono HB3.out.size)); have HR5 := Lib.hid (Kd.R_below HR3.out hb); clear hb))
            go_roundw
            case rel => exact ⟨j + 1, _, (t : Int) - n4, by omega, by omega, by go_num, rfl, HS2.out, HR5.out, HB5.out⟩
            case measure => simp [intOf]; omega
    · obtain rfl : j = N3 := by omega
      have HE : Hid (s = after f.safe f.chs u0) := by
        have := HST.out.1
        rw [List.drop_of_length_le (by have := HN3.out; omega)] at this
        exact this
      go_wp2_with fail
      go_ret
      exact ⟨_, rfl, by rw [← HE.out]; exact HV.out, HB.out⟩
end Go.Proofs.Ytkhopknpadncdaa
end

/- On -/
section
/- (*Disk).On: the power comes back; of each file so many units are kept. -/
namespace Go.Proofs.Ytkhopknpadncdaa
open Go Go.RowKit Go.Maps Go.Proofs.YtkhopknpadncdaaW.PrintWords Go.Proofs.Ytkhopknpadncdaa.PDiskMemory Go.Proofs.YtkhopknpadncdaaW.PrintMore
set_option linter.unusedVariables false

/-- Up to file j the power's coming back has gone. -/
def onPre (keeps : List Int) (L : List (Nm × Fil)) (j : Nat) : List (Nm × Fil) := onL keeps (L.take j) 0 ++ L.drop j
def kept (keeps : List Int) (i : Nat) : Int := if i < keeps.length then keeps.getD i 0 else 0
def onF (keeps : List Int) (i : Nat) (f : Fil) : Fil := ⟨after f.safe f.chs (kept keeps i), after f.safe f.chs (kept keeps i), []⟩
theorem onL_snoc (keeps : List Int) : ∀ (L : List (Nm × Fil)) (i : Nat) (x : Nm) (f : Fil), onL keeps (L ++ [(x, f)]) i = onL keeps L i ++ [(x, onF keeps (i + L.length) f)]
  | [], i, x, f => rfl
  | (y, g) :: r, i, x, f => by
    have := onL_snoc keeps r (i + 1) x f
    show _ :: onL keeps (r ++ [(x, f)]) (i + 1) = (_ :: onL keeps r (i + 1)) ++ _
    rw [this, List.cons_append, show i + 1 + r.length = i + ((y, g) :: r).length by rw [List.length_cons]; omega]
theorem onL_names (keeps : List Int) : ∀ (L : List (Nm × Fil)) (i : Nat), (onL keeps L i).map (·.1) = L.map (·.1)
  | [], _ => rfl
  | (y, g) :: r, i => by
    show y :: (onL keeps r (i + 1)).map (·.1) = y :: r.map (·.1)
    rw [onL_names keeps r (i + 1)]
theorem onPre_names (keeps : List Int) (L : List (Nm × Fil)) (j : Nat) : (onPre keeps L j).map (·.1) = L.map (·.1) := by
  unfold onPre
  rw [List.map_append, onL_names, ← List.map_append, List.take_append_drop]
theorem onPre_all (keeps : List Int) (L : List (Nm × Fil)) {j : Nat} (h : L.length ≤ j) : onPre keeps L j = onL keeps L 0 := by
  unfold onPre
  rw [List.take_of_length_le h, List.drop_of_length_le h, List.append_nil]
theorem upd_none {L : List (Nm × Fil)} {x : Nm} {v : Fil} (h : ∀ p ∈ L, p.1 ≠ x) : upd L x v = L := by
  unfold upd
  conv => rhs; rw [← List.map_id L]
  exact List.map_congr_left fun p hp => by rw [if_neg (h p hp)]; rfl
theorem onPre_step (keeps : List Int) {L : List (Nm × Fil)} (hn : L.Pairwise fun a b => a.1 ≠ b.1) {j : Nat} {x : Nm} {f : Fil} (hj : L[j]? = some (x, f)) :
    upd (onPre keeps L j) x (onF keeps j f) = onPre keeps L (j + 1) ∧ (x, f) ∈ onPre keeps L j := by
  obtain ⟨hlt, he⟩ := List.getElem?_eq_some_iff.1 hj
  have hd : L.drop j = (x, f) :: L.drop (j + 1) := by rw [List.drop_eq_getElem_cons hlt, he]
  have ht : L.take (j + 1) = L.take j ++ [(x, f)] := by rw [List.take_add_one, hj]; rfl
  have hsplit : L = L.take j ++ (x, f) :: L.drop (j + 1) := by rw [← hd, List.take_append_drop]
  have hn' := hn
  rw [hsplit] at hn'
  have ha := List.pairwise_append.1 hn'
  refine ⟨?_, ?_⟩
  · unfold onPre
    rw [ht, onL_snoc, hd, List.length_take, Nat.min_eq_left (Nat.le_of_lt hlt), Nat.zero_add]
    show upd (onL keeps (L.take j) 0 ++ (x, f) :: L.drop (j + 1)) x _ = _
    have e : ∀ (a b : List (Nm × Fil)), upd (a ++ b) x (onF keeps j f) = upd a x (onF keeps j f) ++ upd b x (onF keeps j f) := fun a b => List.map_append
    rw [e]
    have h1 : upd (onL keeps (L.take j) 0) x (onF keeps j f) = onL keeps (L.take j) 0 := upd_none fun p hp => by
      have : p.1 ∈ (onL keeps (L.take j) 0).map (·.1) := List.mem_map.2 ⟨p, hp, rfl⟩
      rw [onL_names] at this
      obtain ⟨q, hq, hqe⟩ := List.mem_map.1 this
      rw [← hqe]
      exact ha.2.2 q hq (x, f) (List.mem_cons_self ..)
    have h2 : upd (L.drop (j + 1)) x (onF keeps j f) = L.drop (j + 1) := upd_none fun p hp => ((List.pairwise_cons.1 ha.2.1).1 p hp).symm
    rw [h1]
    show _ ++ ((if (x, f).1 = x then (x, onF keeps j f) else (x, f)) :: upd (L.drop (j + 1)) x (onF keeps j f)) = _
    rw [if_pos rfl, h2, List.append_assoc]
    rfl
  · unfold onPre
    rw [hd]
    exact List.mem_append_right _ (List.mem_cons_self ..)
theorem onF_ok {keeps : List Int} {i : Nat} {f : Fil} (h : f.ok) : (onF keeps i f).ok := by
  have := after_ok (kept keeps i) h
  exact Wf.refl this.1 this.2
theorem onPre_ok {keeps : List Int} {k : Dk} {N : Nat} (h : k.ok N) (j : Nat) : Dk.ok { k with files := onPre keeps k.files j } N := by
  refine ⟨fun p hp => ?_, h.2.1, h.2.2.1, ?_, h.2.2.2.2⟩
  · have key : ∀ (L : List (Nm × Fil)) (i : Nat), (∀ q ∈ L, q.2.ok ∧ q.2.chs.length ≤ N ∧ q.1.length ≤ 120) → ∀ q ∈ onL keeps L i, q.2.ok ∧ q.2.chs.length ≤ N ∧ q.1.length ≤ 120 := by
      intro L
      induction L with
      | nil => intro i _ q hq; cases hq
      | cons y r ih =>
        intro i hL q hq
        obtain ⟨y1, y2⟩ := y
        rcases List.mem_cons.1 hq with e | hq
        · have hy := hL _ (List.mem_cons_self ..)
          subst e
          exact ⟨onF_ok (i := i) hy.1, Nat.zero_le _, hy.2.2⟩
        · exact ih (i + 1) (fun q hq => hL q (List.mem_cons_of_mem _ hq)) q hq
    rcases List.mem_append.1 hp with hp | hp
    · exact key _ 0 (fun q hq => h.1 q (List.mem_of_mem_take hq)) p hp
    · exact h.1 p (List.mem_of_mem_drop hp)
  · have : (onPre keeps k.files j).length = k.files.length := by
      have := congrArg List.length (onPre_names keeps k.files j)
      rwa [List.length_map, List.length_map] at this
    show (onPre keeps k.files j).length ≤ 256
    rw [this]
    exact h.2.2.2.1
end Go.Proofs.Ytkhopknpadncdaa
end

/- OnW -/
section
/- (*Disk).On: its walk. -/
namespace Go.Proofs.Ytkhopknpadncdaa
open Go Go.RowKit Go.Maps Go.Proofs.YtkhopknpadncdaaW.PrintWords Go.Proofs.Ytkhopknpadncdaa.PDiskMemory Go.Proofs.YtkhopknpadncdaaW.PrintMore
set_option linter.unusedVariables false

/-- A row of numbers that came in, apart from the disk. -/
def Keeps (w : World) (S : Nat → Prop) (A : Option Addr) (n : Nat) (l : List Int) : Prop :=
  l.length = n ∧ (∀ v ∈ l, v ≤ 9223372036854775807) ∧ (0 < n → ∃ b o, A = some ⟨b, o, none⟩ ∧ b < w.heap.size ∧ ¬ S b ∧ ∀ i, i < n → w.cell? ⟨b, o + i, none⟩ = some (.int .i64 (l.getD i 0)))
theorem name_at {w : World} {ok : Nat → Prop} {A : Option Addr} {n c i : Nat} {L : List ByteArray} {s : ByteArray} (h : RS w ok (.slice A n c) L) (hs : L[i]? = some s) : ∃ g, A = some ⟨g, 0, none⟩ ∧ g < w.heap.size ∧ w.cell? ⟨g, i, none⟩ = some (.string s) := by
  have hn := (Kd.R_reads' h).1
  have hi := (List.getElem?_eq_some_iff.1 hs).1
  obtain ⟨g, cap, e, _, hg, _⟩ := Kd.R_form h (by omega)
  injection e with e1 e2 e3
  subst e1
  obtain ⟨c', hcl, hM, hcc⟩ := Kd.R_getA h ByteArray.empty (i : Int) (by omega) (by omega)
  rw [Int.toNat_natCast] at hM hcc
  rw [List.getD_eq_getElem?_getD, hs, Option.getD_some] at hM
  have hM' : c' = [Value.string s] := hM
  subst hM'
  have := hcc 0 _ rfl
  rw [addr_zero] at this
  exact ⟨g, rfl, hg, by rw [show i = i * Kd.string.sz + 0 from (Nat.mul_one i).symm]; exact this⟩
theorem look_files_Z {w : World} {d m N : Nat} {O : Nat → Own} {k : Dk} {pv : Value} {Z : List (Nm × (Nat × Fil))} (h : DA w d m O k N pv Z) {x : Nm} {f : Fil} (hx : (x, f) ∈ k.files) : ∃ p, look Z x = some (p, f) ∧ look k.files x = some f := by
  have h1 := look_of_mem h.apartF hx
  have h2 := h.look_files x
  rw [h1] at h2
  cases hz : look Z x with
  | none => rw [hz] at h2; cases h2
  | some pf =>
    obtain ⟨p, g⟩ := pf
    rw [hz] at h2
    injection h2 with h2
    simp only at h2
    subst h2
    exact ⟨p, rfl, h1⟩
theorem DA.sortedF {w : World} {d m N : Nat} {O : Nat → Own} {k : Dk} {pv : Value} {Z : List (Nm × (Nat × Fil))} (h : DA w d m O k N pv Z) : Srt k.files := by
  have h1 := h.mp.sorted
  rw [h.files]
  unfold mapV at h1 ⊢
  have h2 := (List.pairwise_map (f := fun p : Nm × (Nat × Fil) => (p.1, p.2.1))).1 h1
  exact List.pairwise_map.2 h2

theorem Disk.apartFiles {w : World} {d N : Nat} {S : Nat → Prop} {k : Dk} (h : Disk w d S k N) : k.files.Pairwise fun a b => a.1 ≠ b.1 := by
  obtain ⟨m, O, pv, Z, h, hS⟩ := h
  exact h.apartF
set_option maxRecDepth 100000 in
set_option maxHeartbeats 4000000 in
theorem on_any (w : World) (d N : Nat) (S : Nat → Prop) (k : Dk) (A : Option Addr) (n c : Nat) (keeps : List Int) (h : Disk w d S k N) (hN : N ≤ 1000000000000) (hK : Keeps w S A n keeps) :
    Calls Try.prog 34 #[.pointer (some ⟨d, 0, none⟩), .slice A n c] w (QPost S d N w (onD keeps k)) := by
  have HD := Lib.hid h
  have HK := Lib.hid hK
  have hnb : k.files.length ≤ 256 := h.okk.2.2.2.1
  obtain ⟨M, hM⟩ : ∃ M, M = k.files.length := ⟨_, rfl⟩
  rw [← hM] at hnb
  have HM := Lib.hid hM
  have HNM := Lib.hid (names_any w d N S k h)
  have HSL : Hid (∀ b, S b → b < w.heap.size) := fun b hb => h.lt hb
  clear h hK hM
  go_enter Try.func34, Try.ntmps34
  go_wp2_with (go_at_call 64; refine HNM.out.mono ?_; rintro r w1 ⟨v1, rfl, hv, hb⟩; obtain ⟨M', hM', An, cn, rfl⟩ : ∃ n, n = (namesD k).length ∧ ∃ A q, v1 = .slice A n q := (by obtain ⟨A_, q_, e_⟩ := Kd.R_slice hv; exact ⟨_, rfl, A_, q_, e_⟩); obtain rfl : M = M' := (by rw [HM.out, hM']; unfold namesD; rw [List.length_map]); have HV := Lib.hid (show RS w1 (fun b => w.heap.size ≤ b ∧ b < w1.heap.size) (.slice An M cn) (namesD k) from Kd.R_mono (Kd.R_bound hv) (fun b hb => ⟨hb.1, hb.2.2.1⟩)); have HB1 := Lib.hid hb; clear hv hb hM')
  go_loopw [4, 5, 6, 7, 8, 12] (fun _ _ _ _ _ i wr => ∃ (j : Nat) (S' : Nat → Prop), j ≤ M ∧ i = .int .i64 j ∧ Hid (Disk wr d S' { k with files := onPre keeps k.files j } N) ∧ Hid (∀ b, S' b → S b ∨ w1.heap.size ≤ b) ∧ Hid (Tch S w wr) ∧ Hid (w1.heap.size ≤ wr.heap.size) ∧ Hid (RS wr (fun b => w.heap.size ≤ b ∧ b < w1.heap.size) (.slice An M cn) (namesD k))) (fun _ _ _ _ _ i _ => M - (intOf i).toNat)
  case atStart => exact ⟨0, S, Nat.zero_le _, rfl, HD.out.below HB1.out, fun b hb => .inl hb, Tch.of_below HB1.out, Nat.le_refl _, HV.out⟩
  case round =>
    clear HV
    obtain ⟨j, S', hj, rfl, HDJ, HSJ, HTJ, HZJ, HRS⟩ := hrel
    by_cases hjm : j < M
    · obtain ⟨xf, hxf⟩ : ∃ xf, k.files[j]? = some xf := ⟨_, List.getElem?_eq_getElem (by have := HM.out; omega)⟩
      obtain ⟨x, f⟩ := xf
      obtain ⟨g, rfl, hgl, hcn⟩ := name_at (s := toBA x) HRS.out (by unfold namesD; rw [List.getElem?_map, hxf]; rfl)
      obtain ⟨m, O, pv, Z, hDA, hS'⟩ := HDJ.out
      have hstep := onPre_step keeps HD.out.apartFiles hxf
      obtain ⟨p, hz, hlf⟩ := look_files_Z hDA (x := x) (f := f) hstep.2
      have hxs : (toBA x).size ≤ maxLen := by
        have := (HD.out.okk.1 (x, f) (List.mem_of_getElem? hxf)).2.2
        simp only at this
        show x.toArray.size ≤ maxLen
        rw [List.size_toArray]
        unfold maxLen
        omega
      have LK := hDA.mp.look_run hxs
      rw [show (toBA x).data.toList = x from rfl, look_mapV, hz] at LK
      simp only [Option.map_some, optr, fptr] at LK
      obtain ⟨⟨c0, _⟩, hdl⟩ := hDA.cells
      obtain ⟨sv, nv, cv, hF⟩ := hDA.file x p f (look_mem hz)
      have hfok := HD.out.okk.1 (x, f) (List.mem_of_getElem? hxf)
      simp only at hfok
      have HDA := Lib.hid hDA
      have HSS := Lib.hid hS'
      have HSTEP := Lib.hid hstep.1
      have HZL := Lib.hid hz
      have HLFL := Lib.hid hlf
      obtain ⟨uk, huk⟩ : ∃ uk, uk = kept keeps j := ⟨_, rfl⟩
      have hukb : uk ≤ 9223372036854775807 := by
        rw [huk]
        unfold kept
        split
        · rename_i hlt
          exact HK.out.2.1 _ (by rw [List.getD_eq_getElem?_getD, List.getElem?_eq_getElem hlt, Option.getD_some]; exact List.getElem_mem _)
        · omega
      have HAF := Lib.hid (fun (W : World) (hW : Below wr.heap.size wr W) => after_any W O x p f sv nv cv uk (hF.below hW) hfok.1 hukb (by omega))
      have HUK := Lib.hid huk
      have HFOK := Lib.hid hfok
      obtain ⟨s, hs⟩ : ∃ s, s = toBA x := ⟨_, rfl⟩
      rw [← hs] at hcn LK hxs
      have HSX := Lib.hid hs
      have HXS := Lib.hid hxs
      clear hxf hDA hS' hz hlf hF hfok huk hs hstep
      have hsd : s.data.toList = x := by rw [HSX.out]; rfl
      have HSD := Lib.hid hsd
      have HPUT : Hid (put (onPre keeps k.files j) x ⟨after f.safe f.chs uk, after f.safe f.chs uk, []⟩ = onPre keeps k.files (j + 1)) := by
        show _ = _
        rw [put_upd HDA.out.sortedF HLFL.out, HUK.out]
        exact HSTEP.out
      have HOK : Hid (Dk.ok { k with files := put (onPre keeps k.files j) x ⟨after f.safe f.chs uk, after f.safe f.chs uk, []⟩ } N) := by
        rw [HPUT.out]
        exact onPre_ok HD.out.okk (j + 1)
      have HLL : Hid ((onPre keeps k.files j).length < maxLen) := by show _ < _; have := HDA.out.ok.2.2.2.1; simp only at this; unfold maxLen; omega
      clear hsd
      by_cases hjn : j < n
      · have hukc : uk = keeps.getD j 0 := by rw [HUK.out]; unfold kept; rw [if_pos (by rw [HK.out.1]; exact hjn)]
        obtain ⟨kb, ko, rfl, hkl, hks, hkc⟩ := HK.out.2.2 (by omega)
        have hkj := (HTJ.out.cell (a := ⟨kb, ko + j, none⟩) hkl hks).trans (hkc j hjn)
        rw [← hukc] at hkj
        have hkl2 := Nat.lt_of_lt_of_le hkl HTJ.out.size
        clear hkc hukc hks
        go_upto_region 8 with (go_at_call 65; refine (HAF.out _ (Below.refl _ _)).mono ?_; rintro r wA ⟨vA, rfl, hv, hb⟩; obtain ⟨NA, BA, qA, rfl⟩ : ∃ n A q, vA = .slice A n q := (by obtain ⟨A_, q_, e_⟩ := Kd.R_slice hv; exact ⟨_, A_, q_, e_⟩); have HVA := Lib.hid hv; have HBA := Lib.hid hb; clear hv hb)
        obtain ⟨⟨e0, _⟩, hdl2⟩ := (HDA.out.below HBA.out).cells
        have HNE : Hid (NA = (after f.safe f.chs uk).length) := (Kd.R_reads' HVA.out).1
        have HNLA : Hid (NA * 1 ≤ 140737488355328) := by show _ ≤ _; rw [HNE.out]; have := (after_ok uk HFOK.out.1).1; unfold big at this; omega
        have HCA : Hid ((Kd.int .u8).C wA.drew BA NA (after f.safe f.chs uk)) := by rw [HNE.out]; exact Kd.C_below (Kd.R_reads' HVA.out).2.2 (below_drew (Below.refl _ _))
        go_region_law (go_simp; go_at_call 58; refine (clone_bytes BA NA qA (after f.safe f.chs uk) _ HCA.out HNLA.out).mono ?_; rintro r wB ⟨vB, rfl, hv, hb⟩; obtain ⟨N6, B6, q6, rfl⟩ : ∃ n A q, vB = .slice A n q := (by obtain ⟨A_, q_, e_⟩ := Kd.R_slice hv; exact ⟨_, A_, q_, e_⟩); have HVB := Lib.hid hv; have HBB : Hid (Below wA.heap.size wA wB) := (below_drew (Below.refl _ _)).trans hb; have hBB : Hid (Below wr.heap.size wr wB) := HBA.out.trans (HBB.out.mono HBA.out.size); obtain ⟨⟨e0, _⟩, hdl3⟩ := (HDA.out.below hBB.out).cells; obtain ⟨wx, hrx, hmx, hgx⟩ := put_box HDA.out hBB.out HLL.out HXS.out (.slice BA NA qA) (.slice B6 N6 q6); rw [HSD.out] at hmx; have HEX := Lib.hid (enter_end HDA.out HSS.out (Below.refl _ _) HVA.out HBA.out HVB.out HBB.out (.inl ⟨rfl, rfl⟩) hmx hgx HOK.out); clear hv hb hmx hgx)
        all_goals
          have hE := HEX.out
          rw [HPUT.out] at hE
          obtain ⟨S2, hD2, hT2, hS2⟩ := hE
          have HD2 := Lib.hid hD2
          have HS2 : Hid (∀ b, S2 b → S b ∨ w1.heap.size ≤ b) := fun b hb => (hS2 b hb).elim (fun h => HSJ.out b h) (fun h => .inr (Nat.le_trans HZJ.out h))
          have HT2 : Hid (Tch S w _) := HTJ.out.then_ hT2 (fun b hb => (HSJ.out b hb).imp_right (fun h => Nat.le_trans HB1.out.size h))
          have HZ2 : Hid (w1.heap.size ≤ _) := Nat.le_trans HZJ.out hT2.size
          have HR2 := Lib.hid (Kd.R_step HRS.out (fun b hb hl => hT2.block b hl (fun hs => by
            rcases HSJ.out b hs with h | h
            · have := HSL.out b h; have := hb.1; omega
            · have := hb.2; omega)))
          clear hD2 hT2 hS2
          go_wp2_with fail
          go_roundw
          case rel => exact ⟨j + 1, S2, by omega, by go_num, HD2.out, HS2.out, HT2.out, HZ2.out, HR2.out⟩
          case measure => simp [intOf]; omega
      · have hukc : uk = 0 := by rw [HUK.out]; unfold kept; rw [if_neg (by rw [HK.out.1]; exact hjn)]
        subst hukc
        go_upto_region 8 with (go_at_call 65; refine (HAF.out _ (Below.refl _ _)).mono ?_; rintro r wA ⟨vA, rfl, hv, hb⟩; obtain ⟨NA, BA, qA, rfl⟩ : ∃ n A q, vA = .slice A n q := (by obtain ⟨A_, q_, e_⟩ := Kd.R_slice hv; exact ⟨_, A_, q_, e_⟩); have HVA := Lib.hid hv; have HBA := Lib.hid hb; clear hv hb)
        obtain ⟨⟨e0, _⟩, hdl2⟩ := (HDA.out.below HBA.out).cells
        have HNE : Hid (NA = (after f.safe f.chs 0).length) := (Kd.R_reads' HVA.out).1
        have HNLA : Hid (NA * 1 ≤ 140737488355328) := by show _ ≤ _; rw [HNE.out]; have := (after_ok 0 HFOK.out.1).1; unfold big at this; omega
        have HCA : Hid ((Kd.int .u8).C wA.drew BA NA (after f.safe f.chs 0)) := by rw [HNE.out]; exact Kd.C_below (Kd.R_reads' HVA.out).2.2 (below_drew (Below.refl _ _))
        go_region_law (go_simp; go_at_call 58; refine (clone_bytes BA NA qA (after f.safe f.chs 0) _ HCA.out HNLA.out).mono ?_; rintro r wB ⟨vB, rfl, hv, hb⟩; obtain ⟨N6, B6, q6, rfl⟩ : ∃ n A q, vB = .slice A n q := (by obtain ⟨A_, q_, e_⟩ := Kd.R_slice hv; exact ⟨_, A_, q_, e_⟩); have HVB := Lib.hid hv; have HBB : Hid (Below wA.heap.size wA wB) := (below_drew (Below.refl _ _)).trans hb; have hBB : Hid (Below wr.heap.size wr wB) := HBA.out.trans (HBB.out.mono HBA.out.size); obtain ⟨⟨e0, _⟩, hdl3⟩ := (HDA.out.below hBB.out).cells; obtain ⟨wx, hrx, hmx, hgx⟩ := put_box HDA.out hBB.out HLL.out HXS.out (.slice BA NA qA) (.slice B6 N6 q6); rw [HSD.out] at hmx; have HEX := Lib.hid (enter_end HDA.out HSS.out (Below.refl _ _) HVA.out HBA.out HVB.out HBB.out (.inl ⟨rfl, rfl⟩) hmx hgx HOK.out); clear hv hb hmx hgx)
        all_goals
          have hE := HEX.out
          rw [HPUT.out] at hE
          obtain ⟨S2, hD2, hT2, hS2⟩ := hE
          have HD2 := Lib.hid hD2
          have HS2 : Hid (∀ b, S2 b → S b ∨ w1.heap.size ≤ b) := fun b hb => (hS2 b hb).elim (fun h => HSJ.out b h) (fun h => .inr (Nat.le_trans HZJ.out h))
          have HT2 : Hid (Tch S w _) := HTJ.out.then_ hT2 (fun b hb => (HSJ.out b hb).imp_right (fun h => Nat.le_trans HB1.out.size h))
          have HZ2 : Hid (w1.heap.size ≤ _) := Nat.le_trans HZJ.out hT2.size
          have HR2 := Lib.hid (Kd.R_step HRS.out (fun b hb hl => hT2.block b hl (fun hs => by
            rcases HSJ.out b hs with h | h
            · have := HSL.out b h; have := hb.1; omega
            · have := hb.2; omega)))
          clear hD2 hT2 hS2
          go_wp2_with fail
          go_roundw
          case rel => exact ⟨j + 1, S2, by omega, by go_num, HD2.out, HS2.out, HT2.out, HZ2.out, HR2.out⟩
          case measure => simp [intOf]; omega
    · obtain rfl : j = M := by omega
      have HE : Hid (onPre keeps k.files j = onL keeps k.files 0) := onPre_all _ _ (by have := HM.out; omega)
      obtain ⟨_, _, c4, f4, hdl⟩ := HDJ.out.own4
      go_wp2_with fail
      go_end0
      refine ⟨S', rfl, ?_, HTJ.out.then_ (Tch.set (S := S') _ ⟨d, 4, none⟩ _ HDJ.out.self) (fun b hb => (HSJ.out b hb).imp_right (fun h => Nat.le_trans HB1.out.size h)), fun b hb => (HSJ.out b hb).imp_right (fun h => Nat.le_trans HB1.out.size h)⟩
      have := HDJ.out.turn false
      rw [HE.out] at this
      exact this
end Go.Proofs.Ytkhopknpadncdaa
end

/- All -/
section
/- (*Disk).all, Files, Safe: the files told. -/
namespace Go.Proofs.Ytkhopknpadncdaa
open Go Go.RowKit Go.Maps Go.Proofs.YtkhopknpadncdaaW.PrintWords Go.Proofs.Ytkhopknpadncdaa.PDiskMemory Go.Proofs.YtkhopknpadncdaaW.PrintMore
set_option linter.unusedVariables false

/-- The files as they are told; rows apart. -/
def filesD (pk : Fil → List Int) (k : Dk) : List S45 := k.files.map fun p => ⟨toBA p.1, pk p.2⟩
abbrev RF (w : World) (base : Nat) (ok : Nat → Prop) (v : Value) (l : List S45) : Prop := Kd.S k45 45 w base ok v l
def FilesPost (w : World) (l : List S45) (e : Ending) (w' : World) : Prop := ∃ v, e = .returned v ∧ RF w' 0 (fun b => w.heap.size ≤ b) v l ∧ Below w.heap.size w w'
/-- A closure that tells one of a file's rows. -/
def Picks (K : Nat) (pk : Fil → List Int) : Prop := (∀ f : Fil, f.ok → (pk f).length ≤ big) ∧ ∀ w O x p f sv nv cv, FA w O x p f sv nv cv → ∃ A c, (Kd.int .u8).C w A (pk f).length (pk f) ∧ ∀ W, Below w.heap.size w W → Calls Try.prog K #[fptr p] W fun e W' => e = .returned (.slice A (pk f).length c) ∧ W' = W
theorem files_take {pk : Fil → List Int} {L : List (Nm × Fil)} {j : Nat} {x : Nm} {f : Fil} (h : L[j]? = some (x, f)) : (L.take (j + 1)).map (fun p => (⟨toBA p.1, pk p.2⟩ : S45)) = (L.take j).map (fun p => (⟨toBA p.1, pk p.2⟩ : S45)) ++ [⟨toBA x, pk f⟩] := by
  rw [List.take_add_one, List.map_append, h]
  rfl
set_option maxRecDepth 100000 in
set_option maxHeartbeats 4000000 in
theorem all_any (w : World) (d N : Nat) (S : Nat → Prop) (k : Dk) (h : Disk w d S k N) (K : Nat) (e1 : ∀ args w, (callFunc K args).run Try.prog w = .ok (.enter K args) w) (pk : Fil → List Int) (hpk : Picks K pk) :
    Calls Try.prog 52 #[.pointer (some ⟨d, 0, none⟩), .func (.func K) #[] #[]] w (FilesPost w (filesD pk k)) := by
  have HD := Lib.hid h
  have HPK := Lib.hid hpk
  have hnb : k.files.length ≤ 256 := h.okk.2.2.2.1
  obtain ⟨M, hM⟩ : ∃ M, M = k.files.length := ⟨_, rfl⟩
  rw [← hM] at hnb
  have HM := Lib.hid hM
  have HNM := Lib.hid (names_any w d N S k h)
  clear h hM hpk
  go_enter Try.func52, Try.ntmps52
  go_wp2_with (go_at_call 64; refine HNM.out.mono ?_; rintro r w1 ⟨v1, rfl, hv, hb⟩; obtain ⟨M', hM', An, cn, rfl⟩ : ∃ n, n = (namesD k).length ∧ ∃ A q, v1 = .slice A n q := (by obtain ⟨A_, q_, e_⟩ := Kd.R_slice hv; exact ⟨_, rfl, A_, q_, e_⟩); obtain rfl : M = M' := (by rw [HM.out, hM']; unfold namesD; rw [List.length_map]); have HV := Lib.hid (show RS w1 (fun b => w.heap.size ≤ b ∧ b < w1.heap.size) (.slice An M cn) (namesD k) from Kd.R_mono (Kd.R_bound hv) (fun b hb => ⟨hb.1, hb.2.2.1⟩)); have HB1 := Lib.hid hb; clear hv hb hM')
  go_loopw [5, 7, 11] (fun vo _ i wr => ∃ (j : Nat), j ≤ M ∧ i = .int .i64 j ∧ Hid (RF wr 0 (fun b => w1.heap.size ≤ b) vo ((k.files.take j).map fun p => (⟨toBA p.1, pk p.2⟩ : S45))) ∧ Hid (Below w1.heap.size w1 wr)) (fun _ _ i _ => M - (intOf i).toNat)
  case atStart => exact ⟨0, Nat.zero_le _, rfl, Kd.S_nil _ _ _ _ _, Below.refl _ _⟩
  case round =>
    obtain ⟨j, hj, rfl, HOUT, HBR⟩ := hrel
    by_cases hjm : j < M
    · obtain ⟨xf, hxf⟩ : ∃ xf, k.files[j]? = some xf := ⟨_, List.getElem?_eq_getElem (by have := HM.out; omega)⟩
      obtain ⟨x, f⟩ := xf
      have HBW : Hid (Below w.heap.size w wr) := HB1.out.trans (HBR.out.mono HB1.out.size)
      have HDR := Lib.hid (HD.out.below HBW.out)
      have HRS : Hid (RS wr (fun b => w.heap.size ≤ b ∧ b < w1.heap.size) (.slice An M cn) (namesD k)) := Kd.R_below HV.out HBR.out
      obtain ⟨g, rfl, hgl, hcn⟩ := name_at (s := toBA x) HRS.out (by unfold namesD; rw [List.getElem?_map, hxf]; rfl)
      obtain ⟨m, O, pv, Z, hDA, hS'⟩ := HDR.out
      obtain ⟨p, hz, hlf⟩ := look_files_Z hDA (x := x) (f := f) (List.mem_of_getElem? hxf)
      have hxs : (toBA x).size ≤ maxLen := by
        have := (HDR.out.okk.1 (x, f) (List.mem_of_getElem? hxf)).2.2
        simp only at this
        show x.toArray.size ≤ maxLen
        rw [List.size_toArray]
        unfold maxLen
        omega
      have LK := hDA.mp.look_run hxs
      rw [show (toBA x).data.toList = x from rfl, look_mapV, hz] at LK
      simp only [Option.map_some, optr, fptr] at LK
      obtain ⟨⟨c0, _⟩, hdl⟩ := hDA.cells
      obtain ⟨sv, nv, cv, hF⟩ := hDA.file x p f (look_mem hz)
      have hfok := (HDR.out.okk.1 (x, f) (List.mem_of_getElem? hxf)).1
      simp only at hfok
      obtain ⟨A, c, hC, hcall⟩ := HPK.out.2 wr O x p f sv nv cv hF
      unfold fptr at hcall
      obtain ⟨n, hn⟩ : ∃ n, n = (pk f).length := ⟨_, rfl⟩
      have HNL : Hid (n * 1 ≤ 140737488355328) := by show _ ≤ _; have := HPK.out.1 f hfok; unfold big at this; omega
      rw [← hn] at hcall hC
      have HC := Lib.hid hC
      have HCALL := Lib.hid hcall
      have HX := Lib.hid hxf
      obtain ⟨vn, ao, qo, rfl⟩ : ∃ n A q, u5 = .slice A n q := by obtain ⟨A_, c_, e_⟩ := Kd.S_slice HOUT.out; exact ⟨_, A_, c_, e_⟩
      obtain ⟨s, hs⟩ : ∃ s, s = toBA x := ⟨_, rfl⟩
      rw [← hs] at hcn LK hxs
      have HSX := Lib.hid hs
      have HLL : Hid ((((k.files.take j).map fun p => (⟨toBA p.1, pk p.2⟩ : S45)).length + 1) * 40 ≤ 140737488355328) := by show _ ≤ _; rw [List.length_map, List.length_take]; omega
      have HOK : Hid (∀ b, wr.heap.size ≤ b → w1.heap.size ≤ b ∧ some b ≠ (Value.slice ao vn qo).ownBlock) := fun b hb => ⟨Nat.le_trans HBR.out.size hb, fun e => by have := Kd.S_lt HOUT.out b e.symm; omega⟩
      have HFT := Lib.hid (files_take (pk := pk) hxf)
      obtain ⟨FL, hFL⟩ : ∃ FL, FL = ((k.files.take j).map fun p => (⟨toBA p.1, pk p.2⟩ : S45)) := ⟨_, rfl⟩
      rw [← hFL] at HOUT HLL HFT
      clear hFL
      clear hxf hDA hS' hz hlf hF hfok hC hcall hn hs
      go_wp2_with (first
        | (at_builtin; refine Kd.S_append k45 (w0 := w1) 0 rfl _ _ 33 45 (.agg #[.string ⟨#[]⟩, .slice none 0 0]) 40 rfl Try.underlying33 info45 rfl (by decide) (by decide) (.slice ao vn qo) FL (⟨s, pk f⟩ : S45) [.string s, .slice B6 N6 q6] (fun b => w1.heap.size ≤ b) (fun b => wr.heap.size ≤ b) rfl rfl HMK.out HOK.out HFR.out HSO.out HBO.out (Nat.zero_le _) HLL.out ?_; intro v4 w4 hr hb hg hat; have HR4 := Lib.hid hr; have HB4 := Lib.hid (HGN.out w4 hg); clear hr hb hg hat)
        | (go_at_call 58; refine (clone_bytes A n c (pk f) _ HC.out HNL.out).mono ?_; rintro r wB ⟨vB, rfl, hv, hb⟩; obtain ⟨N6, B6, q6, rfl⟩ : ∃ n A q, vB = .slice A n q := (by obtain ⟨A_, q_, e_⟩ := Kd.R_slice hv; exact ⟨_, A_, q_, e_⟩); have HBB := Lib.hid hb; have HVB := Lib.hid hv; have HMK := Lib.hid (k45_mkM wB 0 (fun b => wr.heap.size ≤ b) ⟨s, pk f⟩ hv); have HFR : Hid (∀ b, wB.heap.size ≤ b → w1.heap.size ≤ b) := (fun b hb => Nat.le_trans HBR.out.size (Nat.le_trans HBB.out.size hb)); have HSO : Hid (RF wB 0 (fun b => w1.heap.size ≤ b ∧ ¬ wr.heap.size ≤ b) (.slice ao vn qo) FL) := Kd.S_mono (Kd.S_old HOUT.out HBB.out) (fun b hb => ⟨hb.1, Nat.not_le.2 hb.2⟩); have hB1 : Below w1.heap.size w1 wB := HBR.out.trans (HBB.out.mono HBR.out.size); have HBO : Hid (Below 0 w1 wB) := hB1.mono (Nat.zero_le _); have HGN : Hid (∀ w4, wB.grownBy w4 (Value.slice ao vn qo).ownBlock → Below w1.heap.size w1 w4) := (fun w4 hg => grown_new hB1 hg (fun b hb => (Kd.S_R HOUT.out).1 b hb)); clear hv hb hB1)
        | (with_reducible refine (HCALL.out _ (Below.refl _ _)).mono ?_; rintro r wA ⟨rfl, hw⟩; obtain rfl := hw.symm; clear hw))
      go_roundw
      case rel => exact ⟨j + 1, by omega, by go_num, by rw [HFT.out, ← HSX.out]; exact HR4.out, HB4.out⟩
      case measure => simp [intOf]; omega
    · obtain rfl : j = M := by omega
      have htk : k.files.take j = k.files := by rw [HM.out]; exact List.take_length
      rw [htk] at HOUT
      go_wp2_with fail
      go_ret
      exact ⟨_, rfl, Kd.S_mono HOUT.out (fun b hb => Nat.le_trans HB1.out.size hb), HB1.out.trans (HBR.out.mono HB1.out.size)⟩

set_option maxRecDepth 100000 in
theorem picks_seen : Picks 53 (·.seen) := by
  refine ⟨fun f hf => hf.stop.1, fun w O x p f sv nv cv h => ?_⟩
  obtain ⟨A2, q2, e2⟩ := Kd.R_slice h.seen
  subst e2
  refine ⟨A2, q2, (Kd.R_reads' h.seen).2.2, fun W hW => ?_⟩
  obtain ⟨n, hn⟩ : ∃ n, n = f.seen.length := ⟨_, rfl⟩
  obtain ⟨c0, c1, c2, f0, f1, f2, hpl⟩ := (h.below hW).see
  rw [← hn] at c1 ⊢
  clear h hW hn
  unfold fptr
  go_enter Try.func53, Try.ntmps53
  go_wp2
  go_ret
  exact ⟨rfl, rfl⟩
set_option maxRecDepth 100000 in
theorem picks_safe : Picks 54 (·.safe) := by
  refine ⟨fun f hf => hf.start.1, fun w O x p f sv nv cv h => ?_⟩
  obtain ⟨A2, q2, e2⟩ := Kd.R_slice h.safe
  subst e2
  refine ⟨A2, q2, (Kd.R_reads' h.safe).2.2, fun W hW => ?_⟩
  obtain ⟨n, hn⟩ : ∃ n, n = f.safe.length := ⟨_, rfl⟩
  obtain ⟨c0, c1, c2, f0, f1, f2, hpl⟩ := (h.below hW).see
  rw [← hn] at c0 ⊢
  clear h hW hn
  unfold fptr
  go_enter Try.func54, Try.ntmps54
  go_wp2
  go_ret
  exact ⟨rfl, rfl⟩
set_option maxRecDepth 100000 in
theorem files_any (w : World) (d N : Nat) (S : Nat → Prop) (k : Dk) (h : Disk w d S k N) : Calls Try.prog 19 #[.pointer (some ⟨d, 0, none⟩)] w (FilesPost w (filesD (·.seen) k)) := by
  have HA := Lib.hid (all_any w d N S k h 53 (fun args w => by kernel_rfl) (·.seen) picks_seen)
  clear h
  go_enter Try.func19, Try.ntmps19
  go_wp2_with (go_at_call 52; refine HA.out.mono ?_; rintro r w1 ⟨v1, rfl, hv, hb⟩; have HV := Lib.hid hv; have HB := Lib.hid hb; clear hv hb)
  go_ret
  exact ⟨_, rfl, HV.out, HB.out⟩
set_option maxRecDepth 100000 in
theorem safe_any (w : World) (d N : Nat) (S : Nat → Prop) (k : Dk) (h : Disk w d S k N) : Calls Try.prog 20 #[.pointer (some ⟨d, 0, none⟩)] w (FilesPost w (filesD (·.safe) k)) := by
  have HA := Lib.hid (all_any w d N S k h 54 (fun args w => by kernel_rfl) (·.safe) picks_safe)
  clear h
  go_enter Try.func20, Try.ntmps20
  go_wp2_with (go_at_call 52; refine HA.out.mono ?_; rintro r w1 ⟨v1, rfl, hv, hb⟩; have HV := Lib.hid hv; have HB := Lib.hid hb; clear hv hb)
  go_ret
  exact ⟨_, rfl, HV.out, HB.out⟩
end Go.Proofs.Ytkhopknpadncdaa
end
