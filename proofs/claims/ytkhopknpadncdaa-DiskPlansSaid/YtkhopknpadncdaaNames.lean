/- (*Disk).names: the files' names in order. -/
import Derived.Test.YtkhopknpadncdaaReads
import Derived.Sort.OwnSorted
namespace Go.Proofs.Ytkhopknpadncdaa
open Go Go.RowKit Go.Maps Go.Shelf Go.Sort Go.Proofs.YtkhopknpadncdaaW.PrintWords Go.Proofs.Ytkhopknpadncdaa.PDiskMemory Go.Proofs.YtkhopknpadncdaaW.PrintMore
set_option linter.unusedVariables false

def toBA (l : List UInt8) : ByteArray := ⟨l.toArray⟩
theorem enc_toBA (l : List UInt8) : encStr l = Value.string (toBA l) := rfl
theorem encs_toBA (ss : List (List UInt8)) : encs Value.string (ss.map toBA) = ss.map encStr := by
  unfold encs
  rw [List.map_map]
  rfl
abbrev RS (w : World) (ok : Nat → Prop) (v : Value) (l : List ByteArray) : Prop := Kd.string.R 9 w 0 ok v l
theorem info_str : (Try.prog.info? 9).map (fun i => (i.zero, i.size, i.bytes)) = some (some (.string .empty), 1, 16) := by kernel_rfl

theorem before_le : ∀ (a b : List UInt8), bytesBefore a b = true → a ≤ b
  | [], b, _ => List.nil_le b
  | _ :: _, [], h => by cases h
  | a :: r, b :: q, h => by
    unfold bytesBefore at h
    rw [Bool.or_eq_true, Bool.and_eq_true] at h
    rw [List.cons_le_cons_iff]
    rcases h with h | ⟨h1, h2⟩
    · exact .inl (by simpa using h)
    · exact .inr ⟨by simpa using h1, before_le r q h2⟩
/-- What was collected, sorted: the names in order. -/
theorem sorted_names {w : World} {b : Nat} {L : List (Nm × Nat)} (h : ML w b L) {ss : List (List UInt8)} (hp : ss.Perm (strKeys (dat L))) : ss.mergeSort leB = L.map (·.1) := by
  rw [mergeSort_of_perm hp, dat_keys]
  refine List.mergeSort_of_pairwise (List.pairwise_map.2 (h.sorted.imp fun {a b} h => ?_))
  simp only [leB, decide_eq_true_eq]
  exact before_le _ _ h
/-- The sort of a row of names. -/
theorem sort_row {w : World} {ok : Nat → Prop} {A : Option Addr} {n c : Nat} {ss : List (List UInt8)} (h : RS w ok (.slice A n c) (ss.map toBA)) (hn : ss.length < 4611686018427387904) :
    Calls Try.prog 75 #[.slice A n c] w fun e w' => e = .returned (.tuple #[]) ∧ RS w' ok (.slice A n c) ((ss.mergeSort leB).map toBA) ∧ w.grownBy w' (Value.slice A n c).ownBlock := by
  have hown := Kd.own_of_R h
  rw [encs_toBA, List.length_map] at hown
  have hlen : n = ss.length := by
    have := (Kd.R_reads' h).1
    rw [List.length_map] at this
    exact this
  rcases hown.2 with ⟨hnil, h0⟩ | ⟨g, cap, cur, hv, hbase, hb, h1, h2, h3, h4⟩
  · injection hnil with e1 e2 e3
    subst e1 e2 e3
    have hss : ss = [] := List.length_eq_zero_iff.1 hlen.symm
    subst hss
    refine (Try.slices_Sort_string_none none 0 w).mono ?_
    rintro e w' ⟨rfl, rfl⟩
    exact ⟨rfl, by rw [List.mergeSort_nil]; exact h, ⟨rfl, rfl, rfl, Nat.le_refl _, fun _ _ _ => rfl⟩⟩
  · injection hv with e1 e2 e3
    subst e1 e3
    subst hlen
    refine (Try.slices_Sort_string g 0 c ss w (holds_of_block hb (by simpa using h4)) (Array.getElem?_eq_some_iff.1 hb).1 hn).mono ?_
    rintro e w' ⟨rfl, nn, os, rfl⟩
    have hl : (ss.mergeSort leB).length = ss.length := List.length_mergeSort _
    have ho := ownsRow_sorted (n := nn) (os := os) (ts := ss.mergeSort leB) hl hbase hb h1 h2 h3
    refine ⟨rfl, Kd.R_of_own (enc := Value.string) (by rw [encs_toBA, List.length_map, hl]; exact ho) h.1, ?_⟩
    rw [show (Value.slice (some ⟨g, 0, none⟩) ss.length c).ownBlock = some g by simp [Value.ownBlock]]
    exact grownBy_sorted _

def namesD (k : Dk) : List ByteArray := k.files.map fun p => toBA p.1
def NamesPost (w : World) (k : Dk) (e : Ending) (w' : World) : Prop := ∃ v, e = .returned v ∧ RS w' (fun b => w.heap.size ≤ b) v (namesD k) ∧ Below w.heap.size w w'
set_option maxRecDepth 100000 in
set_option maxHeartbeats 2000000 in
theorem names_any (w : World) (d N : Nat) (S : Nat → Prop) (k : Dk) (h : Disk w d S k N) :
    Calls Try.prog 64 #[.pointer (some ⟨d, 0, none⟩)] w (NamesPost w k) := by
  obtain ⟨m, O, pv, Z, h, hS⟩ := h
  obtain ⟨⟨c0, _, _, _, _⟩, hdl⟩ := h.cells
  have H := Lib.hid h
  have HM := Lib.hid h.mp
  have HNM : Hid (¬ w.heap.size < m) := by show ¬ _; have := h.mp.lt; omega
  have HLZ : Hid ((mapV (·.1) Z).length ≤ 256) := by
    show _ ≤ _
    rw [mapV_length, ← mapV_length (·.2) Z, ← h.files]
    exact h.ok.2.2.2.1
  clear h hS
  go_enter Try.func64, Try.ntmps64
  go_wp2_with (at_range; refine wpList_range_own _ rfl _ 75 rfl 9 80 keyed Try.underlying75 raw m _ _ rfl HM.out ?_; intro w0 hrg0 hg0 hs0; have HR0 := Lib.hid hrg0; have HB0 : Hid (Below w.heap.size w w0) := grown_new (Below.refl _ _) hg0 (fun k hk => by cases hk); clear hrg0 hg0 hs0)
  go_frame
  go_loopw [3, 4] (fun v _ wr => ∃ (left : Lit → Bool) (cnt : Nat) (ss : List (List UInt8)), Hid (wr.ranges Try.prog 9 raw m w.heap.size (mapV (·.1) Z).length (dat (mapV (·.1) Z)) left cnt) ∧ Hid (Below w.heap.size w wr) ∧ Hid (Collected (dat (mapV (·.1) Z)) left ss) ∧ Hid (ss.length + cnt ≤ (mapV (·.1) Z).length) ∧ Hid (RS wr (fun b => w.heap.size < b) v (ss.map toBA))) (fun _ _ wr => wr.rangeLeft m w.heap.size)
  case atStart => exact ⟨_, _, [], HR0.out, HB0.out, Collected.start _, by show _ ≤ _; rw [dat_size]; exact Nat.le_of_eq (Nat.zero_add _), Kd.R_nil _ _ _ _ _⟩
  case round =>
    clear HR0 HB0
    obtain ⟨left, cnt, ss, HR, HB, HC, HCN, HRS⟩ := hrel
    obtain ⟨ns, As, cs, rfl⟩ : ∃ n A c, u3 = .slice A n c := by obtain ⟨A_, c_, e_⟩ := Kd.R_slice HRS.out; exact ⟨_, A_, c_, e_⟩
    have hsl := HCN.out
    have HSL : Hid (((ss.map toBA).length + 1) * 16 ≤ 140737488355328) := by show _ ≤ _; rw [List.length_map]; have := HLZ.out; omega
    have HSL2 : Hid (ss.length < 4611686018427387904) := by show _ < _; have := HLZ.out; omega
    clear hsl
    go_wp2_with (at_next; refine wpList_next_ranges _ rfl _ rfl 9 keyed raw encStr (fun v => v) (fun key kl hk => by obtain ⟨x, hx, _⟩ := Maps.keyOf_str Try.underlying9 hk; exact ⟨x, hx⟩) (fun v y hv => ⟨v, rfl⟩) m w.heap.size _ _ left cnt rfl HR.out ?_ ?_)
    · intro _ hl0
      have HP := Lib.hid (sorted_names HM.out (HC.out.perm HR.out.owns keyed Try.underlying9 hl0))
      clear hl0
      go_wp2_with (go_at_call 75; refine (sort_row HRS.out HSL2.out).mono ?_; rintro e w4 ⟨rfl, hr, hg⟩; have HR4 := Lib.hid hr; have HB4 : Hid (Below w.heap.size w w4) := grown_new HB.out hg (fun k hk => Nat.le_of_lt (HRS.out.1 k hk)); clear hr hg)
      go_ret
      refine ⟨_, rfl, ?_, HB4.out⟩
      have h4 := HR4.out
      rw [HP.out, mapV_names] at h4
      have e : namesD k = (Z.map (·.1)).map toBA := by
        unfold namesD
        rw [H.out.files, mapV]
        rw [List.map_map, List.map_map]
        rfl
      rw [e]
      exact Kd.R_mono h4 (fun b hb => Nat.le_of_lt hb)
    · intro x c kl yd yp w2 cnt2 hkey hlk hv hat hrg2 hlt hg2 hs2 hen
      have hsz2 : w.heap.size < w2.heap.size := by rw [hs2]; exact HR.out.lt
      clear hs2
      obtain ⟨x', ex, rfl, _⟩ := Maps.keyOf_str Try.underlying9 hkey
      obtain rfl : x = x' := encStr_inj ex
      unfold raw at hv
      simp only [Option.some.injEq, Prod.mk.injEq] at hv
      obtain ⟨rfl, rfl⟩ := hv
      obtain ⟨p, hp, rfl⟩ := dat_came hat
      have HB2 : Hid (Below w.heap.size w w2) := HB.out.trans ((Tch.of_grown (S := fun b => b = w.heap.size) hg2 (fun b hb => (Option.some.inj hb).symm)).below HB.out.size (fun b hb => Nat.le_of_eq hb.symm))
      have HC2 := Lib.hid (HC.out.step hlk hat)
      have HRS2 := Lib.hid (Kd.R_grown HRS.out hg2 (fun b hb => by have h2 : w.heap.size < b := hb; intro e; injection e with e; omega))
      have HRG := Lib.hid hrg2
      have HLT := Lib.hid hlt
      clear hkey hlk hat hp hg2 hrg2 hlt ex
      unfold fptr at hen
      unfold encStr at hen ⊢
      go_wp2_with (at_builtin; refine Kd.R_append Kd.string (w0 := w) 0 rfl (.tmp 14) (.tmp 16) 99 9 (.string .empty) 16 rfl Try.underlying99 info_str rfl (by decide) (by decide) (.slice As ns cs) (ss.map toBA) { data := x.toArray } [.string { data := x.toArray }] (fun b => w.heap.size < b) (fun _ => False) rfl rfl rfl (fun _ h => h.elim) (fun b hb => Nat.lt_of_lt_of_le hsz2 hb) HRS2.out (HB2.out.mono (Nat.zero_le _)) (Nat.zero_le _) HSL.out ?_; intro v3 w3 hr hb hg hat; have HR3 := Lib.hid hr; have HB3 : Hid (Below w.heap.size w w3) := grown_new HB2.out hg (fun k hk => Nat.le_of_lt (HRS2.out.1 k hk)); have HRG3 := Lib.hid (HRG.out.kept hg (fun e => HNM.out (HRS2.out.1 _ e.symm)) (fun e => Nat.lt_irrefl _ (HRS2.out.1 _ e.symm))); clear hr hb hg hat)
      go_roundw
      case rel => exact ⟨_, _, ss ++ [x], HRG3.out, HB3.out, HC2.out, by show _ ≤ _; rw [List.length_append, List.length_singleton]; have h1 := HCN.out; have h2 := HLT.out; omega, by rw [List.map_append]; exact HR3.out⟩
      case measure =>
        have h1 := HLT.out
        rw [HRG3.out.left_eq, HR.out.left_eq]
        exact h1
end Go.Proofs.Ytkhopknpadncdaa
