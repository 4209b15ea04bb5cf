/- D4, D5n, LoadS as one text (a claim holds at most 60 files). -/
import Derived.Test.YtciikcmiiebfpaaGreatDoorD3
import Derived.Sort.OwnSorted
import Derived.Carry
import Derived.Lib.SlBytesConst
import Derived.Laws.BytesArg

/- D4 -/
section
/- D4: Reads, Names, After, On, OnW, All, one text (a claim holds at most 60 files). -/

/- Reads -/
section
/- Steps, Power, look, Size, Read, Units: calls that turn nothing. -/
namespace Go.Proofs.YtciikcmiiebfpaaGreatDoor
open Go Go.RowKit Go.Maps Go.Proofs.YtciikcmiiebfpaaGreatDoorW.PrintWords Go.Proofs.YtciikcmiiebfpaaGreatDoor.PTopicsGets Go.Proofs.YtciikcmiiebfpaaGreatDoorW.PrintMore
set_option linter.unusedVariables false


def lookV (o : Option (Nat × Fil)) (off : Bool) : Value × Int := if off = true then (.pointer none, 180) else match o with | none => (.pointer none, 183) | some pf => (.pointer (some ⟨pf.1, 0, none⟩), 0)
set_option maxRecDepth 100000 in
theorem look_any (w : World) (d m N : Nat) (O : Nat → Own) (k : Dk) (pv : Value) (Z : List (Nm × (Nat × Fil))) (s : ByteArray) (h : DA w d m O k N pv Z) (hs : s.size ≤ maxLen) :
    Calls Tryz.prog 152 #[.pointer (some ⟨d, 0, none⟩), .string s] w fun e w' => e = .returned (.tuple #[(lookV (look Z s.data.toList) k.off).1, .int .i64 (lookV (look Z s.data.toList) k.off).2]) ∧ w' = w := by
  obtain ⟨⟨c0, _, _, _, c4⟩, hdl⟩ := h.cells
  have LK := h.mp.look_run hs
  rw [look_mapV] at LK
  clear h
  obtain ⟨off, ho⟩ : ∃ off, off = k.off := ⟨_, rfl⟩
  rw [← ho] at c4 ⊢
  clear ho
  cases hz : look Z s.data.toList with
  | none =>
    rw [hz] at LK
    simp only [Option.map_none, optr] at LK
    clear hz
    cases off
    all_goals
      go_enter Tryz.func152, Tryz.ntmps152
      go_wp2
      go_ret2
      exact ⟨rfl, rfl⟩
  | some pf =>
    obtain ⟨p, f⟩ := pf
    rw [hz] at LK
    simp only [Option.map_some, optr, fptr] at LK
    clear hz
    cases off
    all_goals
      go_enter Tryz.func152, Tryz.ntmps152
      go_wp2
      go_ret2
      exact ⟨rfl, rfl⟩

set_option maxRecDepth 100000 in
theorem size_any (w : World) (d N : Nat) (S : Nat → Prop) (k : Dk) (s : ByteArray) (h : Disk w d S k N) (hs : s.size ≤ maxLen) :
    Calls Tryz.prog 93 #[.pointer (some ⟨d, 0, none⟩), .string s] w fun e w' => e = .returned (.tuple #[.int .i64 (sizeD k s.data.toList).1, .int .i64 (sizeD k s.data.toList).2]) ∧ w' = w := by
  obtain ⟨m, O, pv, Z, h, hS⟩ := h
  have HL := Lib.hid (look_any w d m N O k pv Z s h hs)
  have hlf := h.look_files s.data.toList
  obtain ⟨off, ho⟩ : ∃ off, off = k.off := ⟨_, rfl⟩
  rw [← ho] at HL
  cases off with
  | true =>
    have HR : Hid (sizeD k s.data.toList = (0, 180)) := by show _ = _; unfold sizeD; rw [if_pos ho.symm]
    clear h hS ho hlf
    unfold lookV at HL
    rw [if_pos rfl] at HL
    go_enter Tryz.func93, Tryz.ntmps93
    go_wp2_with (go_at_call 152; refine HL.out.mono ?_; rintro e w' ⟨rfl, rfl⟩)
    go_ret2
    exact ⟨by rw [HR.out]; rfl, rfl⟩
  | false =>
    cases hz : look Z s.data.toList with
    | none =>
      have HR : Hid (sizeD k s.data.toList = (0, 183)) := by show _ = _; unfold sizeD; rw [if_neg (by rw [← ho]; decide), hlf, hz]; rfl
      rw [hz] at HL
      clear h hS ho hlf hz
      unfold lookV at HL
      rw [if_neg (by decide)] at HL
      simp only at HL
      go_enter Tryz.func93, Tryz.ntmps93
      go_wp2_with (go_at_call 152; refine HL.out.mono ?_; rintro e w' ⟨rfl, rfl⟩)
      go_ret2
      exact ⟨by rw [HR.out]; rfl, rfl⟩
    | some pf =>
      obtain ⟨p, f⟩ := pf
      have HR : Hid (sizeD k s.data.toList = ((f.seen.length : Int), 0)) := by show _ = _; unfold sizeD; rw [if_neg (by rw [← ho]; decide), hlf, hz]; rfl
      obtain ⟨sv, nv, cv, hF⟩ := h.file _ p f (look_mem hz)
      obtain ⟨A1, q1, A2, q2, A3, q3, e1, e2, e3⟩ := hF.lens
      subst e2
      obtain ⟨_, d1, _, _, _, _, hpl⟩ := hF.see
      rw [hz] at HL
      clear h hS ho hlf hz e1 e3 hF
      unfold lookV at HL
      rw [if_neg (by decide)] at HL
      simp only at HL
      go_enter Tryz.func93, Tryz.ntmps93
      go_wp2_with (go_at_call 152; refine HL.out.mono ?_; rintro e w' ⟨rfl, rfl⟩)
      go_ret2
      exact ⟨by rw [HR.out]; rfl, rfl⟩

theorem C_zero {α : Type} (d : Kd α) (w : World) (A : Option Addr) : d.C w A 0 [] := ⟨rfl, by omega, fun h => absurd h (by omega)⟩
end Go.Proofs.YtciikcmiiebfpaaGreatDoor
end

/- Names -/
section
/- (*Disk).names: the files' names in order. -/
namespace Go.Proofs.YtciikcmiiebfpaaGreatDoor
open Go Go.RowKit Go.Maps Go.Shelf Go.Sort Go.Proofs.YtciikcmiiebfpaaGreatDoorW.PrintWords Go.Proofs.YtciikcmiiebfpaaGreatDoor.PTopicsGets Go.Proofs.YtciikcmiiebfpaaGreatDoorW.PrintMore
set_option linter.unusedVariables false

def toBA (l : List UInt8) : ByteArray := ⟨l.toArray⟩
theorem encs_toBA (ss : List (List UInt8)) : encs Value.string (ss.map toBA) = ss.map encStr := by
  unfold encs
  rw [List.map_map]
  rfl
abbrev RS (w : World) (ok : Nat → Prop) (v : Value) (l : List ByteArray) : Prop := Kd.string.R 9 w 0 ok v l
theorem info_str : (Tryz.prog.info? 9).map (fun i => (i.zero, i.size, i.bytes)) = some (some (.string .empty), 1, 16) := by kernel_rfl

theorem before_le : ∀ (a b : List UInt8), bytesBefore a b = true → a ≤ b
  | [], b, _ => List.nil_le b
  | _ :: _, [], h => by cases h
  | a :: r, b :: q, h => by
    unfold bytesBefore at h
    rw [Bool.or_eq_true, Bool.and_eq_true] at h
    rw [List.cons_le_cons_iff]
    rcases h with h | ⟨h1, h2⟩
    · exact .inl (by simpa using h)
    · exact .inr ⟨by simpa using h1, before_le r q h2⟩
/-- What was collected, sorted: the names in order. -/
theorem sorted_names {w : World} {b : Nat} {L : List (Nm × Nat)} (h : ML w b L) {ss : List (List UInt8)} (hp : ss.Perm (strKeys (dat L))) : ss.mergeSort leB = L.map (·.1) := by
  rw [mergeSort_of_perm hp, dat_keys]
  refine List.mergeSort_of_pairwise (List.pairwise_map.2 (h.sorted.imp fun {a b} h => ?_))
  simp only [leB, decide_eq_true_eq]
  exact before_le _ _ h
/-- The sort of a row of names. -/
theorem sort_row {w : World} {ok : Nat → Prop} {A : Option Addr} {n c : Nat} {ss : List (List UInt8)} (h : RS w ok (.slice A n c) (ss.map toBA)) (hn : ss.length < 4611686018427387904) :
    Calls Tryz.prog 192 #[.slice A n c] w fun e w' => e = .returned (.tuple #[]) ∧ RS w' ok (.slice A n c) ((ss.mergeSort leB).map toBA) ∧ w.grownBy w' (Value.slice A n c).ownBlock := by
  have hown := Kd.own_of_R h
  rw [encs_toBA, List.length_map] at hown
  have hlen : n = ss.length := by
    have := (Kd.R_reads' h).1
    rw [List.length_map] at this
    exact this
  rcases hown.2 with ⟨hnil, h0⟩ | ⟨g, cap, cur, hv, hbase, hb, h1, h2, h3, h4⟩
  · injection hnil with e1 e2 e3
    subst e1 e2 e3
    have hss : ss = [] := List.length_eq_zero_iff.1 hlen.symm
    subst hss
    refine (Tryz.slices_Sort_string_none none 0 w).mono ?_
    rintro e w' ⟨rfl, rfl⟩
    exact ⟨rfl, by rw [List.mergeSort_nil]; exact h, ⟨rfl, rfl, rfl, Nat.le_refl _, fun _ _ _ => rfl⟩⟩
  · injection hv with e1 e2 e3
    subst e1 e3
    subst hlen
    refine (Tryz.slices_Sort_string g 0 c ss w (holds_of_block hb (by simpa using h4)) (Array.getElem?_eq_some_iff.1 hb).1 hn).mono ?_
    rintro e w' ⟨rfl, nn, os, rfl⟩
    have hl : (ss.mergeSort leB).length = ss.length := List.length_mergeSort _
    have ho := ownsRow_sorted (n := nn) (os := os) (ts := ss.mergeSort leB) hl hbase hb h1 h2 h3
    refine ⟨rfl, Kd.R_of_own (enc := Value.string) (by rw [encs_toBA, List.length_map, hl]; exact ho) h.1, ?_⟩
    rw [show (Value.slice (some ⟨g, 0, none⟩) ss.length c).ownBlock = some g by simp [Value.ownBlock]]
    exact grownBy_sorted _

def namesD (k : Dk) : List ByteArray := k.files.map fun p => toBA p.1
def NamesPost (w : World) (k : Dk) (e : Ending) (w' : World) : Prop := ∃ v, e = .returned v ∧ RS w' (fun b => w.heap.size ≤ b) v (namesD k) ∧ Below w.heap.size w w'
set_option maxRecDepth 100000 in
set_option maxHeartbeats 2000000 in
theorem names_any (w : World) (d N : Nat) (S : Nat → Prop) (k : Dk) (h : Disk w d S k N) :
    Calls Tryz.prog 145 #[.pointer (some ⟨d, 0, none⟩)] w (NamesPost w k) := by
  obtain ⟨m, O, pv, Z, h, hS⟩ := h
  obtain ⟨⟨c0, _, _, _, _⟩, hdl⟩ := h.cells
  have H := Lib.hid h
  have HM := Lib.hid h.mp
  have HNM : Hid (¬ w.heap.size < m) := by show ¬ _; have := h.mp.lt; omega
  have HLZ : Hid ((mapV (·.1) Z).length ≤ 256) := by
    show _ ≤ _
    rw [mapV_length, ← mapV_length (·.2) Z, ← h.files]
    exact h.ok.2.2.2.1
  clear h hS
  go_enter Tryz.func145, Tryz.ntmps145
  go_wp2_with (at_range; refine wpList_range_own _ rfl _ 55 rfl 9 206 keyed Tryz.underlying55 raw m _ _ rfl HM.out ?_; intro w0 hrg0 hg0 hs0; have HR0 := Lib.hid hrg0; have HB0 : Hid (Below w.heap.size w w0) := grown_new (Below.refl _ _) hg0 (fun k hk => by cases hk); clear hrg0 hg0 hs0)
  go_frame
  go_loopw [3, 4] (fun v _ wr => ∃ (left : Lit → Bool) (cnt : Nat) (ss : List (List UInt8)), Hid (wr.ranges Tryz.prog 9 raw m w.heap.size (mapV (·.1) Z).length (dat (mapV (·.1) Z)) left cnt) ∧ Hid (Below w.heap.size w wr) ∧ Hid (Collected (dat (mapV (·.1) Z)) left ss) ∧ Hid (ss.length + cnt ≤ (mapV (·.1) Z).length) ∧ Hid (RS wr (fun b => w.heap.size < b) v (ss.map toBA))) (fun _ _ wr => wr.rangeLeft m w.heap.size)
  case atStart => exact ⟨_, _, [], HR0.out, HB0.out, Collected.start _, by show _ ≤ _; rw [dat_size]; exact Nat.le_of_eq (Nat.zero_add _), Kd.R_nil _ _ _ _ _⟩
  case round =>
    clear HR0 HB0
    obtain ⟨left, cnt, ss, HR, HB, HC, HCN, HRS⟩ := hrel
    obtain ⟨ns, As, cs, rfl⟩ : ∃ n A c, u3 = .slice A n c := by obtain ⟨A_, c_, e_⟩ := Kd.R_slice HRS.out; exact ⟨_, A_, c_, e_⟩
    have hsl := HCN.out
    have HSL : Hid (((ss.map toBA).length + 1) * 16 ≤ 140737488355328) := by show _ ≤ _; rw [List.length_map]; have := HLZ.out; omega
    have HSL2 : Hid (ss.length < 4611686018427387904) := by show _ < _; have := HLZ.out; omega
    clear hsl
    go_wp2_with (at_next; refine wpList_next_ranges _ rfl _ rfl 9 keyed raw encStr (fun v => v) (fun key kl hk => by obtain ⟨x, hx, _⟩ := Maps.keyOf_str Tryz.underlying9 hk; exact ⟨x, hx⟩) (fun v y hv => ⟨v, rfl⟩) m w.heap.size _ _ left cnt rfl HR.out ?_ ?_)
    · intro _ hl0
      have HP := Lib.hid (sorted_names HM.out (HC.out.perm HR.out.owns keyed Tryz.underlying9 hl0))
      clear hl0
      go_wp2_with (go_at_call 192; refine (sort_row HRS.out HSL2.out).mono ?_; rintro e w4 ⟨rfl, hr, hg⟩; have HR4 := Lib.hid hr; have HB4 : Hid (Below w.heap.size w w4) := grown_new HB.out hg (fun k hk => Nat.le_of_lt (HRS.out.1 k hk)); clear hr hg)
      go_ret
      refine ⟨_, rfl, ?_, HB4.out⟩
      have h4 := HR4.out
      rw [HP.out, mapV_names] at h4
      have e : namesD k = (Z.map (·.1)).map toBA := by
        unfold namesD
        rw [H.out.files, mapV]
        rw [List.map_map, List.map_map]
        rfl
      rw [e]
      exact Kd.R_mono h4 (fun b hb => Nat.le_of_lt hb)
    · intro x c kl yd yp w2 cnt2 hkey hlk hv hat hrg2 hlt hg2 hs2 hen
      have hsz2 : w.heap.size < w2.heap.size := by rw [hs2]; exact HR.out.lt
      clear hs2
      obtain ⟨x', ex, rfl, _⟩ := Maps.keyOf_str Tryz.underlying9 hkey
      obtain rfl : x = x' := encStr_inj ex
      unfold raw at hv
      simp only [Option.some.injEq, Prod.mk.injEq] at hv
      obtain ⟨rfl, rfl⟩ := hv
      obtain ⟨p, hp, rfl⟩ := dat_came hat
      have HB2 : Hid (Below w.heap.size w w2) := HB.out.trans ((Tch.of_grown (S := fun b => b = w.heap.size) hg2 (fun b hb => (Option.some.inj hb).symm)).below HB.out.size (fun b hb => Nat.le_of_eq hb.symm))
      have HC2 := Lib.hid (HC.out.step hlk hat)
      have HRS2 := Lib.hid (Kd.R_grown HRS.out hg2 (fun b hb => by have h2 : w.heap.size < b := hb; intro e; injection e with e; omega))
      have HRG := Lib.hid hrg2
      have HLT := Lib.hid hlt
      clear hkey hlk hat hp hg2 hrg2 hlt ex
      unfold fptr at hen
      unfold encStr at hen ⊢
      go_wp2_with (at_builtin; refine Kd.R_append Kd.string (w0 := w) 0 rfl (.tmp 14) (.tmp 16) 193 9 (.string .empty) 16 rfl Tryz.underlying193 info_str rfl (by decide) (by decide) (.slice As ns cs) (ss.map toBA) { data := x.toArray } [.string { data := x.toArray }] (fun b => w.heap.size < b) (fun _ => False) rfl rfl rfl (fun _ h => h.elim) (fun b hb => Nat.lt_of_lt_of_le hsz2 hb) HRS2.out (HB2.out.mono (Nat.zero_le _)) (Nat.zero_le _) HSL.out ?_; intro v3 w3 hr hb hg hat; have HR3 := Lib.hid hr; have HB3 : Hid (Below w.heap.size w w3) := grown_new HB2.out hg (fun k hk => Nat.le_of_lt (HRS2.out.1 k hk)); have HRG3 := Lib.hid (HRG.out.kept hg (fun e => HNM.out (HRS2.out.1 _ e.symm)) (fun e => Nat.lt_irrefl _ (HRS2.out.1 _ e.symm))); clear hr hb hg hat)
      go_roundw
      case rel => exact ⟨_, _, ss ++ [x], HRG3.out, HB3.out, HC2.out, by show _ ≤ _; rw [List.length_append, List.length_singleton]; have h1 := HCN.out; have h2 := HLT.out; omega, by rw [List.map_append]; exact HR3.out⟩
      case measure =>
        have h1 := HLT.out
        rw [HRG3.out.left_eq, HR.out.left_eq]
        exact h1
end Go.Proofs.YtciikcmiiebfpaaGreatDoor
end

/- After -/
section
/- (*file).after: what is safe with the first units made. -/
namespace Go.Proofs.YtciikcmiiebfpaaGreatDoor
open Go Go.RowKit Go.Maps Go.Proofs.YtciikcmiiebfpaaGreatDoorW.PrintWords Go.Proofs.YtciikcmiiebfpaaGreatDoor.PTopicsGets Go.Proofs.YtciikcmiiebfpaaGreatDoorW.PrintMore
set_option linter.unusedVariables false
attribute [local go_sem] max2_int min2_int max_two min_two max_three min_three


end Go.Proofs.YtciikcmiiebfpaaGreatDoor
end

/- On -/
section
/- (*Disk).On: the power comes back; of each file so many units are kept. -/
namespace Go.Proofs.YtciikcmiiebfpaaGreatDoor
open Go Go.RowKit Go.Maps Go.Proofs.YtciikcmiiebfpaaGreatDoorW.PrintWords Go.Proofs.YtciikcmiiebfpaaGreatDoor.PTopicsGets Go.Proofs.YtciikcmiiebfpaaGreatDoorW.PrintMore
set_option linter.unusedVariables false

def kept (keeps : List Int) (i : Nat) : Int := if i < keeps.length then keeps.getD i 0 else 0
end Go.Proofs.YtciikcmiiebfpaaGreatDoor
end

/- OnW -/
section
/- (*Disk).On: its walk. -/
namespace Go.Proofs.YtciikcmiiebfpaaGreatDoor
open Go Go.RowKit Go.Maps Go.Proofs.YtciikcmiiebfpaaGreatDoorW.PrintWords Go.Proofs.YtciikcmiiebfpaaGreatDoor.PTopicsGets Go.Proofs.YtciikcmiiebfpaaGreatDoorW.PrintMore
set_option linter.unusedVariables false

end Go.Proofs.YtciikcmiiebfpaaGreatDoor
end

/- All -/
section
/- (*Disk).all, Files, Safe: the files told. -/
namespace Go.Proofs.YtciikcmiiebfpaaGreatDoor
open Go Go.RowKit Go.Maps Go.Proofs.YtciikcmiiebfpaaGreatDoorW.PrintWords Go.Proofs.YtciikcmiiebfpaaGreatDoor.PTopicsGets Go.Proofs.YtciikcmiiebfpaaGreatDoorW.PrintMore
set_option linter.unusedVariables false


end Go.Proofs.YtciikcmiiebfpaaGreatDoor
end
end

/- D5n -/
section
/- D5n: D5 without the law's example (other seats). -/

/- New -/
section
/- disk.New, Plan. -/
namespace Go.Proofs.YtciikcmiiebfpaaGreatDoor
open Go Go.RowKit Go.Maps Go.Proofs.YtciikcmiiebfpaaGreatDoorW.PrintWords Go.Proofs.YtciikcmiiebfpaaGreatDoor.PTopicsGets Go.Proofs.YtciikcmiiebfpaaGreatDoorW.PrintMore
set_option linter.unusedVariables false
attribute [local go_sem] max2_int min2_int max_two min_two max_three min_three

def newD (room : Int) : Dk := ⟨[], min (max room 0) 16777216, [], 0, false⟩
theorem newD_ok (room : Int) : (newD room).ok 0 := by
  refine ⟨fun p hp => (nomatch hp), ?_, ?_, Nat.zero_le _, Int.le_refl _, Int.le_refl _⟩
  · show 0 ≤ min (max room 0) 16777216
    omega
  · show min (max room 0) 16777216 ≤ 16777216
    omega
/-- A call that makes a disk. -/
def MadeP (w : World) (k : Dk) (N : Nat) (e : Ending) (w' : World) : Prop := ∃ d S, e = .returned (.pointer (some ⟨d, 0, none⟩)) ∧ Disk w' d S k N ∧ (∀ b, S b → w.heap.size ≤ b) ∧ Below w.heap.size w w'
theorem new_disk (w : World) (room r : Int) (hr : r = min (max room 0) 16777216) : MadeP w (newD room) 0 (.returned (.pointer (some ⟨w.heap.size + 1, 0, none⟩))) ((w.alloc (.map #[] 0)).alloc (.cells #[.map (some w.heap.size), .int .i64 r, .slice none 0 0, .int .i64 0, .bool false] 57)) := by
  have hs : ((w.alloc (.map #[] 0)).alloc (.cells #[.map (some w.heap.size), .int .i64 r, .slice none 0 0, .int .i64 0, .bool false] 57)).heap.size = w.heap.size + 2 := by simp
  have hb : Below w.heap.size w ((w.alloc (.map #[] 0)).alloc (.cells #[.map (some w.heap.size), .int .i64 r, .slice none 0 0, .int .i64 0, .bool false] 57)) := ((Below.refl w.heap.size w).alloc (Nat.le_refl _) _).alloc (by simp) _
  have hc := heap_alloc_new (w.alloc (.map #[] 0)) (.cells #[.map (some w.heap.size), .int .i64 r, .slice none 0 0, .int .i64 0, .bool false] 57)
  rw [World.size_alloc] at hc
  obtain ⟨O, hO⟩ : ∃ O : Nat → Own, O = fun b => if b = w.heap.size + 1 then .disk else if b = w.heap.size then .map else .none := ⟨_, rfl⟩
  have hO2 : ∀ b, O b ≠ .none → b = w.heap.size + 1 ∨ b = w.heap.size := fun b h => by
    rw [hO] at h
    simp only at h
    by_cases h1 : b = w.heap.size + 1
    · exact .inl h1
    · by_cases h2 : b = w.heap.size
      · exact .inr h2
      · rw [if_neg h1, if_neg h2] at h; exact absurd rfl h
  refine ⟨w.heap.size + 1, fun b => O b ≠ .none, rfl, ⟨w.heap.size, O, .slice none 0 0, [], ⟨?_, ?_, ?_, ?_, Kd.R_nil _ _ _ _ _, rfl, fun x p f hz => (nomatch hz), fun b h => ?_, newD_ok room⟩, fun b => Iff.rfl⟩, fun b h => ?_, hb⟩
  · rw [hc, hr]; rfl
  · rw [hO]; simp
  · rw [hO]; simp
  · exact (ML.made w).kept (Below.heap_alloc _ _ _ (by simp))
  · rw [hs]
    rcases hO2 b h with h | h <;> omega
  · rcases hO2 b h with h | h <;> omega
set_option maxRecDepth 100000 in
theorem new_any (w : World) (room : Int) : Calls Tryz.prog 5 #[.int .i64 room] w (MadeP w (newD room) 0) := by
  have hmm := @run_makeMap Tryz.prog
  have HN := Lib.hid (new_disk w room)
  by_cases h1 : room < 0
  · have hr : (0 : Int) = min (max room 0) 16777216 := by omega
    have HE := Lib.hid (HN.out 0 hr)
    clear hr HN
    go_enter Tryz.func5, Tryz.ntmps5
    go_wp2_with fail
    go_ret
    exact HE.out
  · by_cases h2 : 16777216 < room
    · have hr : (16777216 : Int) = min (max room 0) 16777216 := by omega
      have HE := Lib.hid (HN.out 16777216 hr)
      clear hr HN
      go_enter Tryz.func5, Tryz.ntmps5
      go_wp2_with fail
      go_ret
      exact HE.out
    · have hr : room = min (max room 0) 16777216 := by omega
      have HE := Lib.hid (HN.out room hr)
      clear hr HN
      go_enter Tryz.func5, Tryz.ntmps5
      go_wp2_with fail
      go_ret
      exact HE.out

end Go.Proofs.YtciikcmiiebfpaaGreatDoor
end

/- Al -/
section
/- A disk of the call's own: the methods' contracts over it. -/
namespace Go.Proofs.YtciikcmiiebfpaaGreatDoor
open Go Go.RowKit Go.Maps Go.Proofs.YtciikcmiiebfpaaGreatDoorW.PrintWords Go.Proofs.YtciikcmiiebfpaaGreatDoor.PTopicsGets Go.Proofs.YtciikcmiiebfpaaGreatDoorW.PrintMore
set_option linter.unusedVariables false

/-- Since w alone new memory was written; in W a disk stands at d. -/
def Al (w W : World) (d : Nat) (k : Dk) (N : Nat) : Prop := ∃ S, Disk W d S k N ∧ (∀ b, S b → w.heap.size ≤ b) ∧ Below w.heap.size w W
theorem Al.bl {w W : World} {d N : Nat} {k : Dk} (h : Al w W d k N) : Below w.heap.size w W := by obtain ⟨S, _, _, h⟩ := h; exact h
theorem Al.below {w W W' : World} {d N : Nat} {k : Dk} (h : Al w W d k N) (hb : Below W.heap.size W W') : Al w W' d k N := by
  obtain ⟨S, h1, h2, h3⟩ := h
  exact ⟨S, h1.below hb, h2, h3.trans (hb.mono h3.size)⟩
theorem Al.next {w W W' : World} {d N' : Nat} {S S' : Nat → Prop} {k : Dk} (hS : ∀ b, S b → w.heap.size ≤ b) (hb : Below w.heap.size w W) (hD : Disk W' d S' k N') (hT : Tch S W W') (hn : ∀ b, S' b → S b ∨ W.heap.size ≤ b) : Al w W' d k N' :=
  ⟨S', hD, fun b h => (hn b h).elim (hS b) (fun h => Nat.le_trans hb.size h), hb.trans (hT.below hb.size hS)⟩
/-- A step's answer, and the disk behind it. -/
def APost (w : World) (d N : Nat) (x : Dk × Int) (e : Ending) (W' : World) : Prop := e = .returned (.int .i64 x.2) ∧ Al w W' d x.1 N
theorem al_s {w W W' : World} {d N : Nat} {S : Nat → Prop} {x : Dk × Int} {e : Ending} (hS : ∀ b, S b → w.heap.size ≤ b) (hb : Below w.heap.size w W) (h : SPost S d N W x e W') : APost w d N x e W' := by
  obtain ⟨S', he, hD, hT, hn⟩ := h
  exact ⟨he, Al.next hS hb hD hT hn⟩
section
variable {w W W0 : World} {d N : Nat} {k : Dk}
theorem al_new (h : Below w.heap.size w W) (room : Int) : Calls Tryz.prog 5 #[.int .i64 room] W fun e W' => ∃ d, e = .returned (.pointer (some ⟨d, 0, none⟩)) ∧ Al w W' d (newD room) 0 :=
  (new_any W room).mono fun e W' ⟨d, S, he, hD, hS, hb⟩ => ⟨d, he, S, hD, fun b hb2 => Nat.le_trans h.size (hS b hb2), h.trans (hb.mono h.size)⟩
end
/-- A literal row, read. -/
theorem lit_C {C : Array Value} {n : Nat} {fr : Nat × Nat} {ty : TypeId} {W : World} {g : Nat} (l : List Int) (h : W.heap[g]? = some (.cells C ty fr)) (hC : C = (l.map (Value.int .u8)).toArray) (hn : n = l.length) (hm : n ≤ 9223372036854775807) : (Kd.int .u8).C W (some ⟨g, 0, none⟩) n l :=
  Kd.C_of_reads (d := 0) ⟨hn.symm, hm, fun _ => ⟨_, rfl, fun j hj => by
    rw [addr_zero, cell_of_row W g j C ty fr h, hC]
    simp [List.getD_eq_getElem?_getD, List.getElem?_eq_getElem (show j < l.length by omega)]⟩⟩
end Go.Proofs.YtciikcmiiebfpaaGreatDoor
end
end

/- LoadS -/
section
/- disk.Load. -/
namespace Go.Proofs.YtciikcmiiebfpaaGreatDoor
open Go Go.RowKit Go.Maps Go.Proofs.YtciikcmiiebfpaaGreatDoorW.PrintWords Go.Proofs.YtciikcmiiebfpaaGreatDoor.PTopicsGets Go.Proofs.YtciikcmiiebfpaaGreatDoorW.PrintMore
set_option linter.unusedVariables false

/-- A file as it comes in. -/
structure FileIn where
  f0 : ByteArray
  f1 : List Int
/-- Files entered one by one. -/
def loadL : Dk → List FileIn → Dk × Int
  | k, [] => (k, 0)
  | k, f :: r => if (enterD k f.f0.data.toList f.f1).2 = 0 then loadL (enterD k f.f0.data.toList f.f1).1 r else enterD k f.f0.data.toList f.f1
def loadD (room : Int) (fs : List FileIn) : Dk × Int := loadL (newD room) fs
def LoadP (W : World) (x : Dk × Int) (e : Ending) (W' : World) : Prop :=
  (x.2 = 0 ∧ ∃ d, e = .returned (.tuple #[.pointer (some ⟨d, 0, none⟩), .int .i64 0]) ∧ Al W W' d x.1 0) ∨ (x.2 ≠ 0 ∧ e = .returned (.tuple #[.pointer none, .int .i64 x.2]) ∧ Below W.heap.size W W')
/-- A row of files that came in, element by element. -/
def FRow (w : World) (A : Option Addr) (n : Nat) (fs : List FileIn) : Prop :=
  n = fs.length ∧ ∀ i f, fs[i]? = some f → ∃ b o Ai ci, A = some ⟨b, o, none⟩ ∧ b < w.heap.size ∧ w.cell? ⟨b, o + i * 2, none⟩ = some (.string f.f0) ∧ w.cell? ⟨b, o + i * 2 + 1, none⟩ = some (.slice Ai f.f1.length ci) ∧ f.f1.length ≤ ci ∧ (Kd.int .u8).C w Ai f.f1.length f.f1
theorem loadL_step {k : Dk} {fs : List FileIn} {j : Nat} {f : FileIn} (h : fs[j]? = some f) : loadL k (fs.drop j) = if (enterD k f.f0.data.toList f.f1).2 = 0 then loadL (enterD k f.f0.data.toList f.f1).1 (fs.drop (j + 1)) else enterD k f.f0.data.toList f.f1 := by
  obtain ⟨hlt, he⟩ := List.getElem?_eq_some_iff.1 h
  rw [List.drop_eq_getElem_cons hlt, he]
  rfl
set_option maxRecDepth 100000 in
set_option maxHeartbeats 4000000 in
theorem load_any (w : World) (room : Int) (A : Option Addr) (n c : Nat) (fs : List FileIn) (h : FRow w A n fs) (hn : n ≤ 4611686018427387904) (hok : ∀ f ∈ fs, f.f0.size ≤ maxLen ∧ Byt f.f1 ∧ f.f1.length ≤ big) :
    Calls Tryz.prog 87 #[.int .i64 room, .slice A n c] w (LoadP w (loadD room fs)) := by
  have HN := Lib.hid (al_new (Below.refl w.heap.size w) room)
  have HF := Lib.hid h
  have HOK := Lib.hid hok
  have HL : Hid (n = fs.length) := h.1
  clear h hok
  go_enter Tryz.func87, Tryz.ntmps87
  go_wp2_with (go_at_call 5; refine HN.out.mono ?_; rintro e w1 ⟨d, rfl, h⟩; have H1 := Lib.hid h; clear h)
  go_loopw [8, 9, 14] (fun _ _ i wr => ∃ (j : Nat) (k : Dk), j ≤ n ∧ i = .int .i64 j ∧ Hid (Al w wr d k 0) ∧ Hid (loadD room fs = loadL k (fs.drop j))) (fun _ _ i _ => n - (intOf i).toNat)
  case atStart => exact ⟨0, newD room, Nat.zero_le _, rfl, H1.out, by show _ = _; rw [List.drop_zero]; rfl⟩
  case round =>
    clear HN H1
    obtain ⟨j, k, hj, rfl, HA, HE⟩ := hrel
    by_cases hjn : j < n
    · obtain ⟨f, hf⟩ : ∃ f, fs[j]? = some f := ⟨_, List.getElem?_eq_getElem (by have := HL.out; omega)⟩
      obtain ⟨b, o, Ai, ci, rfl, hbl0, hc0, hc1, hci, hC⟩ := HF.out.2 j f hf
      have hbl := Nat.lt_of_lt_of_le hbl0 HA.out.bl.size
      have k0 := (HA.out.bl.cell (p := ⟨b, o + j * 2, none⟩) hbl0).trans hc0
      have k1 := (HA.out.bl.cell (p := ⟨b, o + j * 2 + 1, none⟩) hbl0).trans hc1
      obtain ⟨hfs, hfb, hfl⟩ := HOK.out f (List.mem_of_getElem? hf)
      have hst := loadL_step (k := k) hf
      rw [← HE.out] at hst
      have HST := Lib.hid hst
      have HC := Lib.hid hC
      have HFS := Lib.hid hfs
      have HFB := Lib.hid hfb
      have HFL := Lib.hid hfl
      obtain ⟨nm, hnm⟩ : ∃ nm, nm = f.f0 := ⟨_, rfl⟩
      obtain ⟨l, hl⟩ : ∃ l, l = f.f1 := ⟨_, rfl⟩
      obtain ⟨m, hm⟩ : ∃ m, m = f.f1.length := ⟨_, rfl⟩
      rw [← hnm] at k0 HST HFS
      rw [← hm] at k1 hci HC
      rw [← hl] at HC HST HFB HFL
      have HM : Hid (m = l.length) := by show _ = _; rw [hm, hl]
      clear hbl0 hc0 hc1 hC hfs hfb hfl hst hnm hl hm hf
      have HAB : Hid (Al w (wr.alloc (.cells #[.string nm, .slice Ai m ci] 192)) d k 0) := HA.out.below ((Below.refl _ _).alloc (Nat.le_refl _) _)
      have HENT : Hid (∀ W, W = wr.alloc (.cells #[.string nm, .slice Ai m ci] 192) → Calls Tryz.prog 130 #[.pointer (some ⟨d, 0, none⟩), .string nm, .slice Ai m ci] W (APost w d 0 (enterD k nm.data.toList l))) := by
        intro W hW
        subst hW
        obtain ⟨S, h1, h2, h3⟩ := HAB.out
        exact (enter_any _ d 0 S k nm Ai m ci l h1 HFS.out (fun W' hT => Kd.C_below HC.out (h3.trans (hT.mono h3.size))) HFB.out (by rw [HM.out]; exact HFL.out)).mono fun e W' h => al_s h2 h3 h
      obtain ⟨x, hx⟩ : ∃ x, x = enterD k nm.data.toList l := ⟨_, rfl⟩
      rw [← hx] at HENT HST
      obtain ⟨k2, e2⟩ := x
      have HBX := Lib.hid (heap_alloc_new wr (.cells #[.string nm, .slice Ai m ci] 192))
      clear hx
      by_cases he : e2 = 0
      · subst he
        have HST2 : Hid (loadD room fs = loadL k2 (fs.drop (j + 1))) := by show _ = _; rw [HST.out]; rfl
        go_wp2_with (go_at_call 130; refine (HENT.out _ rfl).mono ?_; rintro e w3 ⟨rfl, h⟩; have H3 : Hid (Al w w3 d k2 0) := h; clear h)
        go_roundw
        case rel => exact ⟨j + 1, k2, by omega, by go_num, H3.out, HST2.out⟩
        case measure => simp [intOf]; omega
      · have HST2 : Hid (loadD room fs = (k2, e2)) := by show _ = _; rw [HST.out, if_neg he]
        go_wp2_with (go_at_call 130; refine (HENT.out _ rfl).mono ?_; rintro e w3 ⟨rfl, h⟩; have H3 : Hid (Al w w3 d k2 0) := h; clear h)
        go_ret2
        rw [HST2.out]
        exact .inr ⟨he, rfl, H3.out.bl⟩
    · obtain rfl : j = n := by omega
      have HST2 : Hid (loadD room fs = (k, 0)) := by show _ = _; rw [HE.out, HL.out, List.drop_length]; rfl
      go_wp2_with fail
      go_ret2
      rw [HST2.out]
      exact .inl ⟨rfl, d, rfl, HA.out⟩
end Go.Proofs.YtciikcmiiebfpaaGreatDoor
end
