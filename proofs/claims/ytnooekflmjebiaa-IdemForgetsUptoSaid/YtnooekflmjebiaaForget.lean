/- The walk of Forget. -/
import Derived.Test.YtnooekflmjebiaaDels2
import Derived.Test.YtnooekflmjebiaaAll
namespace Go.Proofs.Ytnooekflmjebiaa
open Go Go.RowKit Go.Maps
set_option linter.unusedVariables false

/-- What is remembered behind Forget. -/
def forgetT (g : Int → Option (Int × List Mk)) (base x : Int) : Option (Int × List Mk) := match g x with
  | none => none
  | some (e, ms) => if (ms.any fun k => decide (base ≤ k.base)) = true then some (e, ms.filter fun m => !decide (m.base < base)) else none

theorem filter_len {base : Int} {ms : List Mk} (h : (ms.any fun k => decide (base ≤ k.base)) = true) : 0 < (ms.filter fun m => !decide (m.base < base)).length := by
  obtain ⟨k, hk, hd⟩ := List.any_eq_true.1 h
  refine List.length_pos_of_mem (a := k) (List.mem_filter.2 ⟨hk, ?_⟩)
  simp only [decide_eq_true_eq] at hd
  simp
  omega
theorem forget_ok {g : Int → Option (Int × List Mk)} (hg : GOK g) (base : Int) : GOK (forgetT g base) := by
  intro x m hm
  unfold forgetT at hm
  cases hgx : g x with
  | none => rw [hgx] at hm; cases hm
  | some m0 =>
    obtain ⟨e, ms⟩ := m0
    rw [hgx] at hm
    simp only at hm
    obtain ⟨h0, h1, h2, h3, h4, h5, h6⟩ := hg x _ hgx
    split at hm
    · rename_i hany
      injection hm with hm
      subst hm
      refine ⟨h0, h1, h2, h3, filter_len hany, Nat.le_trans (List.length_filter_le _ _) h5, fun k hk => h6 k (List.mem_filter.1 hk).1⟩
    · cases hm

/-- A map's bound is the number of its keys. -/
theorem Mp.tight {w w' : World} {b b' n n' : Nat} {f f' : Int → Option Value} (h : Mp w' b' n' f') (h0 : Mp w b n f) (hsub : ∀ x, (f' x).isSome = true → (f x).isSome = true) : Mp w' b' n f' := by
  obtain ⟨D', hD', hnd', hm', _, hl', _, hv'⟩ := h.keys
  obtain ⟨D, _, hnd, hm, _, hl, hsz, _⟩ := h0.keys
  have hle : (intKeys D').length ≤ (intKeys D).length := by
    refine List.Nodup.length_le_of_subset hnd' fun x hx => ?_
    exact (hm x).2 (hsub x ((hm' x).1 hx))
  refine ⟨D', ?_, hv'⟩
  obtain ⟨es, clock, hb, F, hs, rfl⟩ := hD'
  have e1 : Maps.size (DataW.map ((es.toList.map (WideElems.rg Try.prog 2 raw)).foldr DataW.insert [])) = es.size := by simp [Maps.size, length_sorted]
  exact ⟨es, clock, hb, F, by omega, rfl⟩
theorem Tab.tight {w w' : World} {t t' b b' n n' : Nat} {g g' : Int → Option (Int × List Mk)} (h : Tab w' t' b' n' g') (h0 : Tab w t b n g) (hsub : ∀ x, (g' x).isSome = true → (g x).isSome = true) : Tab w' t' b' n g' := by
  obtain ⟨f', hT', hg', hf'⟩ := h
  obtain ⟨f, hT, hg, hf⟩ := h0
  have e : ∀ {f : Int → Option Value} {g : Int → Option (Int × List Mk)} {W : World}, (∀ x, (g x = none → f x = none) ∧ ∀ m, g x = some m → ∃ v, f x = some v ∧ Elem W v m) → ∀ x, (f x).isSome = (g x).isSome := fun {f g W} hf x => by
    cases hgx : g x with
    | none => rw [(hf x).1 hgx]; rfl
    | some m => obtain ⟨v, hv, _⟩ := (hf x).2 m hgx; rw [hv]; rfl
  exact ⟨f', ⟨hT'.c, hT'.mp.tight hT.mp (fun x hx => by rw [e hf]; rw [e hf'] at hx; exact hsub x hx), hT'.ne, hT'.ty⟩, hg', hf'⟩

theorem forget_sub (g : Int → Option (Int × List Mk)) (base x : Int) (h : (forgetT g base x).isSome = true) : (g x).isSome = true := by
  unfold forgetT at h
  cases hgx : g x with
  | none => rw [hgx] at h; cases h
  | some m => rfl
theorem stays_eq (g : Int → Option (Int × List Mk)) (base x : Int) : (if stays g base x = true then g x else none).isSome = (forgetT g base x).isSome := by
  unfold stays forgetT
  cases hgx : g x with
  | none => simp
  | some m =>
    obtain ⟨e, ms⟩ := m
    simp only
    split <;> rfl

theorem Tab.view {w : World} {t b n : Nat} {g : Int → Option (Int × List Mk)} (h : Tab w t b n g) : ∃ f, Mp w b n f ∧ (∀ x, (f x).isSome = (g x).isSome) ∧ ∀ x m, g x = some m → ∃ v, f x = some v ∧ Elem w v m := by
  obtain ⟨f, hT, hg, hf⟩ := h
  exact ⟨f, hT.mp, fun x => by
    cases hgx : g x with
    | none => rw [(hf x).1 hgx]; rfl
    | some m => obtain ⟨v, hv, _⟩ := (hf x).2 m hgx; rw [hv]; rfl, fun x m hm => (hf x).2 m hm⟩
theorem ne_map {w : World} {a o b : Nat} {v : Value} (h : w.cell? ⟨a, o, none⟩ = some v) (hb : ∃ es c, w.heap[b]? = some (.map es c)) : a ≠ b := by
  rintro rfl
  obtain ⟨es, c, h2⟩ := hb
  unfold World.cell? at h
  simp only at h
  rw [h2] at h
  cases h
theorem Owns.row {w : World} {B n : Nat} {v : Value} {ms : List Mk} (h : Owns w B 66 3 v n (mkVals ms)) (hn : ms.length = n) (h0 : 0 < n) : ∃ g cap, v = .slice (some ⟨g, 0, none⟩) n cap ∧ B ≤ g ∧ n ≤ cap ∧ Row w g ms := by
  obtain ⟨g, cap, rfl, hB, hl, hc, _, hx⟩ := h.form h0
  refine ⟨g, cap, rfl, hB, hc, h.block_type g rfl, fun j k hj => ?_⟩
  have f := fun (i : Nat) (u : Value) (hi : i < 3) (hu : k.vs[i]? = some u) => hx (j * 3 + i) u (by rw [mkVals_get ms j k hj i hi, hu])
  exact ⟨f 0 _ (by omega) rfl, f 1 _ (by omega) rfl, f 2 _ (by omega) rfl⟩
theorem kept_trans {S : Nat → Prop} {a b c : World} (h1 : Kept S a b) (h2 : Kept S b c) : Kept S a c :=
  ⟨h2.os.trans h1.os, h2.tape.trans h1.tape, h2.output.trans h1.output, Nat.le_trans h1.size h2.size, fun k hk hne => (h2.block k (Nat.lt_of_lt_of_le hk h1.size) hne).trans (h1.block k hk hne)⟩
theorem kept_of_below {S : Nat → Prop} {w w' : World} (hb : Below w.heap.size w w') : Kept S w w' := ⟨hb.os, hb.tape, hb.output, hb.size, fun k hk _ => hb.block k hk⟩

set_option maxRecDepth 100000 in
set_option maxHeartbeats 8000000 in
theorem forget_any (t b n : Nat) (g : Int → Option (Int × List Mk)) (base : Int) (w : World) (h : Tab w t b n g) (hn : n * 8 ≤ 140737488355328) :
    Calls Try.prog 13 #[.pointer (some ⟨t, 0, none⟩), .int .i64 base] w fun e w' => e = .returned (.tuple #[]) ∧ Tab w' t b n (forgetT g base) ∧ Kept (fun j => j = b) w w' := by
  have HTAB := Lib.hid h
  have hlt : t < w.heap.size ∧ b < w.heap.size := by obtain ⟨f, hT, _⟩ := h; exact hT.lt
  have htb : t ≠ b := by obtain ⟨f, hT, _⟩ := h; exact hT.ne
  have hgok : GOK g := by obtain ⟨f, hT, hg, _⟩ := h; exact hg
  have HGOK := Lib.hid hgok
  have HB1 : Hid (Below w.heap.size w (w.alloc (.cells #[.int .i64 base] 2))) := (Below.refl _ _).alloc (Nat.le_refl _) _
  have HT1 := Lib.hid (h.below HB1.out)
  have c0 : (w.alloc (.cells #[.int .i64 base] 2)).cell? ⟨t, 0, none⟩ = some (.map (some b)) := by obtain ⟨f, hT, _⟩ := HT1.out; exact hT.c
  have hBc : (w.alloc (.cells #[.int .i64 base] 2)).cell? ⟨w.heap.size, 0, none⟩ = some (.int .i64 base) := cell_new w _ _
  have HBC := Lib.hid hBc
  have HD := Lib.hid (del_any t b n w.heap.size g base (w.alloc (.cells #[.int .i64 base] 2)) HT1.out hBc)
  have hz1 : (w.alloc (.cells #[.int .i64 base] 2)).heap.size = w.heap.size + 1 := World.size_alloc _ _
  have HZ1 := Lib.hid hz1
  clear h hBc hgok hz1
  go_enter Try.func13, Try.ntmps13
  go_wp2_with (first
    | (go_at_call 24; refine HD.out.mono ?_; rintro e w2 ⟨rfl, hT2, hk2⟩; have HT2 := Lib.hid hT2; have HK2 := Lib.hid hk2; have c2 : w2.cell? ⟨t, 0, none⟩ = some (.map (some b)) := (by obtain ⟨f, hT, _⟩ := HT2.out; exact hT.c); obtain ⟨f2, hm2, hs2, he2⟩ := hT2.view; have HM2 := Lib.hid hm2; have HS2 := Lib.hid hs2; clear hT2 hk2 hm2 hs2 he2)
    | (go_at_call 29; refine (keys_any b _).mono ?_; rintro e w' ⟨rfl, rfl⟩)
    | (go_at_call 28; refine (collect_any b n f2 w2 HM2.out hn).mono ?_; rintro e w3 ⟨v, ks, rfl, hnd, hmem, hlen, hrow, hb3⟩; obtain ⟨A, cap, rfl, hA⟩ := own_ints hrow; have HND := Lib.hid hnd; have HMEM := Lib.hid (fun x => (hmem x).trans (by rw [HS2.out, stays_eq])); have HA := Lib.hid hA; have HB3 := Lib.hid hb3; have HROW := Lib.hid hrow; clear hnd hmem hrow hb3 hA))
  have hz2 : w.heap.size + 1 ≤ w2.heap.size := by have := HK2.out.size; rw [HZ1.out] at this; exact this
  have HB23 : Hid (Below w2.heap.size w2 w3) := ((Below.refl _ _).alloc (Nat.le_refl _) _).trans (HB3.out.mono (Nat.le_succ _))
  have hz3 := HB23.out.size
  have HT3 := Lib.hid (HT2.out.below HB23.out)
  have HKW : Hid (Kept (fun j => j = b) w w3) := kept_trans (kept_of_below HB1.out) (kept_trans HK2.out (kept_of_below HB23.out))
  have c3 : w3.cell? ⟨t, 0, none⟩ = some (.map (some b)) := by obtain ⟨f, hT, _⟩ := HT3.out; exact hT.c
  have hBne : w.heap.size ≠ b := by have := hlt.2; omega
  have hB3 : w3.cell? ⟨w.heap.size, 0, none⟩ = some (.int .i64 base) := (HB23.out.cell (p := ⟨w.heap.size, 0, none⟩) (by show w.heap.size < _; omega)).trans ((HK2.out.cell (a := ⟨w.heap.size, 0, none⟩) (by show w.heap.size < _; rw [HZ1.out]; omega) hBne).trans HBC.out)
  have HBASE := Lib.hid hB3
  have hmapb : ∃ es c, w3.heap[b]? = some (.map es c) := by obtain ⟨f, hT, _⟩ := HT3.out; exact hT.mp.is_map
  have HMAPB := Lib.hid hmapb
  clear hB3 hmapb c0 c2
  obtain ⟨len, hl⟩ : ∃ len, len = ks.length := ⟨_, rfl⟩
  have HL := Lib.hid hl
  rw [← hl] at hlen ⊢
  clear hl
  go_loopw [20] (fun i wr => ∃ k : Nat, k ≤ len ∧ i = .int .i64 k ∧ Hid (Tab wr t b (n + k) (fun x => if x ∈ ks.take k then forgetT g base x else if stays g base x = true then g x else none)) ∧ Hid (Kept (fun j => j = b) w3 wr)) (fun i _ => len - (intOf i).toNat)
  case atStart => exact ⟨0, Nat.zero_le _, rfl, by show Tab _ _ _ _ _; simpa using HT3.out, Kept.refl _ _⟩
  case round =>
    obtain ⟨k, hk, rfl, HTK, HKR⟩ := hrel
    rename World => wr
    by_cases hkl : k < len
    · obtain ⟨x, hx⟩ : ∃ x, ks[k]? = some x := ⟨_, List.getElem?_eq_getElem (by have := HL.out; omega)⟩
      obtain ⟨gk, hgk, hgkl, hcell⟩ := HA.out k x hx
      subst hgk
      have hkl2 : k < ks.length := by have := HL.out; omega
      have hxk : x ∉ ks.take k := by
        intro hmem
        obtain ⟨i, hi, he⟩ := List.mem_iff_getElem.1 hmem
        have hi' : i < k ∧ i < ks.length := by have h := hi; rw [List.length_take] at h; omega
        rw [List.getElem_take] at he
        have hx2 := (List.getElem?_eq_some_iff.1 hx).2
        exact (List.pairwise_iff_getElem.1 HND.out i k hi'.2 hkl2 hi'.1) (by rw [he, hx2])
      have hxs : (forgetT g base x).isSome = true := (HMEM.out x).1 (List.mem_of_getElem? hx)
      obtain ⟨m0, hgx⟩ := Option.isSome_iff_exists.1 (forget_sub g base x hxs)
      obtain ⟨e, ms⟩ := m0
      have hany : (ms.any fun k => decide (base ≤ k.base)) = true := by
        unfold forgetT at hxs
        rw [hgx] at hxs
        simp only at hxs
        split at hxs
        · assumption
        · cases hxs
      have hst : stays g base x = true := by unfold stays; rw [hgx]; exact hany
      have hfx : forgetT g base x = some (e, ms.filter fun m => !decide (m.base < base)) := by unfold forgetT; rw [hgx]; simp only; rw [if_pos hany]
      obtain ⟨f, hT, hgok', hf⟩ := HTK.out
      obtain ⟨v0, hv0, hel⟩ := (hf x).2 (e, ms) (by show (if x ∈ ks.take k then forgetT g base x else if stays g base x = true then g x else none) = _; rw [if_neg hxk, if_pos hst, hgx])
      obtain ⟨hx0, hx1, hok0, hok01, hok1, hok5, hok⟩ := HGOK.out x _ hgx
      obtain ⟨gb, go, cap0, rfl, ⟨gcs, hgcs⟩, hat⟩ := hel
      have hgbl : gb < wr.heap.size := (Array.getElem?_eq_some_iff.1 hgcs).1
      have c1 : wr.cell? ⟨gk, k, none⟩ = some (.int .i64 x) := (HKR.out.cell (a := ⟨gk, k, none⟩) hgkl (ne_map hcell HMAPB.out)).trans hcell
      have c2 : wr.cell? ⟨t, 0, none⟩ = some (.map (some b)) := hT.c
      have hBw : wr.cell? ⟨w.heap.size, 0, none⟩ = some (.int .i64 base) := (HKR.out.cell (a := ⟨w.heap.size, 0, none⟩) (by show w.heap.size < _; omega) hBne).trans HBASE.out
      have hwr := HKR.out.size
      have hmem := Elem.mem (w := wr) (m := (e, ms)) ⟨gb, go, cap0, rfl, ⟨gcs, hgcs⟩, hat⟩ hok1
      obtain ⟨A0, cc0, hv0e, hrd, _, _⟩ := hmem
      injection hv0e with hv0e
      have hA0 : A0 = some ⟨gb, go, none⟩ := by simp at hv0e; exact hv0e.1.symm
      subst hA0
      obtain ⟨L, hLe⟩ : ∃ L, L = ms.length := ⟨_, rfl⟩
      have HLE := Lib.hid hLe
      have HC := Lib.hid (show ∀ W : World, Below wr.heap.size wr W → Calls Try.prog 21 #[.slice (some ⟨gb, go, none⟩) L cap0] W fun r w' => ∃ v, r = .returned v ∧ Owns w' W.heap.size 66 3 v L (mkVals ms) ∧ Below W.heap.size W w' by
        intro W hb
        have := clone_any (some ⟨gb, go, none⟩) cap0 ms W (hrd.below hb) (fun h => by cases h) (by simp only at hok5; omega)
        rw [← hLe] at this
        exact this)
      have HV := Lib.hid (show (f x).getD zmem = .agg #[.int .i16 e, .slice (some ⟨gb, go, none⟩) L cap0] by rw [hv0, hLe]; rfl)
      have HMP := Lib.hid hT.mp
      have HTT := Lib.hid hT
      have HF := Lib.hid hf
      have HGO := Lib.hid hgok'
      have HFX := Lib.hid hfx
      have HXK := Lib.hid hxk
      have HX := Lib.hid hx
      have HANY := Lib.hid hany
      have hwf : wf64 x := ⟨by omega, hx1⟩
      have hL0 : 0 < L := by rw [hLe]; exact hok1
      have hL5 : L ≤ 5 := by rw [hLe]; exact hok5
      have htw := hT.lt
      have HTW := Lib.hid htw
      have HBX : Hid (Below wr.heap.size wr (wr.alloc (.cells #[.int .i16 e, .slice (some ⟨gb, go, none⟩) L cap0] 60))) := (Below.refl _ _).alloc (Nat.le_refl _) _
      have HBC2 := Lib.hid (box_cells wr (.int .i16 e) (.slice (some ⟨gb, go, none⟩) L cap0) 60)
      have HSB := Lib.hid (World.size_alloc wr (.cells #[.int .i16 e, .slice (some ⟨gb, go, none⟩) L cap0] 60))
      have HBW := Lib.hid hBw
      clear hx hxs hst hfx hgx hT hf hgok' hv0 hat hrd hv0e hany hxk hLe hBw hgcs hok hok1 hok5 hok0 hok01 htw
      go_wp2_with (at_lookup; refine look_at _ rfl _ _ rfl (zeroE _) b (n + k) f rfl HMP.out x hwf rfl ?_; rw [HV.out])
      refine (HC.out _ HBX.out).mono ?_
      generalize wr.alloc (.cells #[.int .i16 e, .slice (some ⟨gb, go, none⟩) L cap0] 60) = W1 at HBX HBC2 HSB ⊢
      have hs1 : W1.heap.size = wr.heap.size + 1 := HSB.out
      rintro r w5 ⟨v5, rfl, ho5, hb5⟩
      obtain ⟨g5, cap5, rfl, hg5, hcap5, hrow5⟩ := ho5.row HLE.out.symm hL0
      have hw5 := hb5.size
      have hB5 : w5.cell? ⟨w.heap.size, 0, none⟩ = some (.int .i64 base) := (hb5.cell (p := ⟨w.heap.size, 0, none⟩) (by show w.heap.size < _; omega)).trans ((HBX.out.cell (p := ⟨w.heap.size, 0, none⟩) (by show w.heap.size < _; omega)).trans HBW.out)
      have HS := Lib.hid (sdel_any g5 L cap5 w.heap.size base ms w5 HLE.out.symm hL5 hcap5 hrow5 hB5 (by omega))
      have q0 : w5.cell? ⟨wr.heap.size, 0, none⟩ = some (.int .i16 e) := (hb5.cell (p := ⟨wr.heap.size, 0, none⟩) (by show wr.heap.size < _; omega)).trans HBC2.out.1
      have q1 : w5.cell? ⟨wr.heap.size, 1, none⟩ = some (.slice (some ⟨gb, go, none⟩) L cap0) := (hb5.cell (p := ⟨wr.heap.size, 1, none⟩) (by show wr.heap.size < _; omega)).trans HBC2.out.2.1
      have q2 : w5.frozen? ⟨wr.heap.size, 1, none⟩ = false := (hb5.frozen (p := ⟨wr.heap.size, 1, none⟩) (by show wr.heap.size < _; omega)).trans HBC2.out.2.2
      have HK15 : Hid (Below W1.heap.size W1 w5) := hb5
      have HQ := Lib.hid (show ∀ W, Kept (fun j => j = g5) w5 W → W.cell? ⟨wr.heap.size, 0, none⟩ = some (.int .i16 e) ∧ W.cell? ⟨wr.heap.size, 1, none⟩ = some (.slice (some ⟨gb, go, none⟩) L cap0) ∧ W.frozen? ⟨wr.heap.size, 1, none⟩ = false ∧ wr.heap.size < W.heap.size from fun W hk => by
        have hbl := hk.block wr.heap.size (by omega) (by show ¬ wr.heap.size = g5; omega)
        have hsz := hk.size
        exact ⟨(World.cell?_of_block (w := w5) (a := ⟨wr.heap.size, 0, none⟩) hbl).trans q0, (World.cell?_of_block (w := w5) (a := ⟨wr.heap.size, 1, none⟩) hbl).trans q1, by rw [← q2]; unfold World.frozen?; rw [hbl], by omega⟩)
      clear ho5 hb5 hrow5 hB5 q0 q1 q2
      go_wp2_with (go_at_call 30; refine HS.out.mono ?_; rintro r w6 ⟨kk, rfl, hkk, hrow6, hk6⟩; obtain ⟨q0, q1, q2, q3⟩ := HQ.out w6 hk6; have HKK := Lib.hid hkk; have HR6 := Lib.hid hrow6; have HK6 := Lib.hid hk6; clear hkk hrow6 hk6)
      have htw := HTW.out
      obtain ⟨X, hX⟩ : ∃ X, X = Value.slice (some ⟨g5, 0, none⟩) kk cap5 := ⟨_, rfl⟩
      rw [← hX]
      have HXE := Lib.hid hX
      have hg56 := HR6.out.lt
      have hk6s := HK6.out.size
      have c26 : w6.cell? ⟨t, 0, none⟩ = some (.map (some b)) := (HK6.out.cell (a := ⟨t, 0, none⟩) (by show t < _; omega) (by show ¬ t = g5; omega)).trans ((HK15.out.cell (p := ⟨t, 0, none⟩) (by show t < _; omega)).trans ((HBX.out.cell (p := ⟨t, 0, none⟩) htw.1).trans c2))
      generalize hW7 : w6.setCell ⟨wr.heap.size, 1, none⟩ X = W7
      obtain ⟨a1, a2, hblk, hsz, ho1, ho2, ho3⟩ : W7.cell? ⟨wr.heap.size, 0, none⟩ = some (.int .i16 e) ∧ W7.cell? ⟨wr.heap.size, 1, none⟩ = some X ∧ (∀ k, k ≠ wr.heap.size → W7.heap[k]? = w6.heap[k]?) ∧ W7.heap.size = w6.heap.size ∧ W7.os = w6.os ∧ W7.tape = w6.tape ∧ W7.output = w6.output := by
        rw [← hW7]
        exact ⟨(World.cell?_setCell_other _ _ _ _ (by simp)).trans q0, World.cell?_setCell_same _ _ _ q1, fun k hk => setCell_block _ _ _ _ hk, by simp, rfl, rfl, rfl⟩
      clear hW7 q0 q1 q2 hX
      have a0 : W7.cell? ⟨t, 0, none⟩ = some (.map (some b)) := (World.cell?_of_block (w := w6) (a := ⟨t, 0, none⟩) (hblk t (by omega))).trans c26
      have hb7 : w6.heap[b]? = wr.heap[b]? := (HK6.out.block b (by omega) (by omega)).trans ((HK15.out.block b (by omega)).trans (HBX.out.block b htw.2))
      have HM7 : Hid (Mp W7.drew b (n + k) f) := HMP.out.kept ((hblk b (by omega)).trans hb7)
      obtain ⟨w8, hrun, hmp8, hgr⟩ : ∃ w8, (Instr.mapUpdate 54 (.map (some b)) (.int .i64 x) (.agg #[.int .i16 e, X])).run Try.prog W7.drew = .ok () w8 ∧ Mp w8 b (n + k + 1) (fun y => if y = x then some (.agg #[.int .i16 e, X]) else f y) ∧ W7.drew.grownBy w8 (some b) := by
        obtain ⟨D, hD, hview⟩ := HM7.out
        obtain ⟨w', hr, r1, r2⟩ := hD.update keyed Try.underlying54 (by unfold maxLen; omega) (val := .agg #[.int .i16 e, X]) (d := .held (.agg #[.int .i16 e, X])) (ps := []) (hkey hwf) rfl
        exact ⟨w', hr, ⟨_, r1, Mp.store_view hD.isMap hview x _⟩, r2⟩
      have HMP8 := Lib.hid hmp8
      have HGR := Lib.hid hgr
      have HBLK := Lib.hid hblk
      have HSZ := Lib.hid hsz
      have HO := Lib.hid (And.intro ho1 (And.intro ho2 ho3))
      have HB7 := Lib.hid hb7
      clear hmp8 hgr hblk hsz ho1 ho2 ho3 c26 hb7
      go_region
      go_wp2_with fail
      have hb8 : ∀ j, j < w6.heap.size → j ≠ wr.heap.size → j ≠ b → w8.heap[j]? = w6.heap[j]? := fun j h1 h2 h3 =>
        (HGR.out.block j (by show j < W7.heap.size; rw [HSZ.out]; exact h1) (fun h => h3 (Option.some.inj h))).trans (HBLK.out j h2)
      have hsz8 : w6.heap.size ≤ w8.heap.size := by rw [← HSZ.out]; exact HGR.out.size
      have hold : ∀ j, j < wr.heap.size → w6.heap[j]? = wr.heap[j]? := fun j hj => (HK6.out.block j (by omega) (by show ¬ j = g5; omega)).trans ((HK15.out.block j (by omega)).trans (HBX.out.block j hj))
      have hK8 : Kept (fun j => j = b) wr w8 := ⟨?os, ?tape, ?out, by omega, fun j h1 h2 => (hb8 j (by omega) (by omega) h2).trans (hold j h1)⟩
      case os => exact HGR.out.os.trans (HO.out.1.trans (HK6.out.os.trans (HK15.out.os.trans HBX.out.os)))
      case tape => exact HGR.out.tape.trans (HO.out.2.1.trans (HK6.out.tape.trans (HK15.out.tape.trans HBX.out.tape)))
      case out => exact HGR.out.output.trans (HO.out.2.2.trans (HK6.out.output.trans (HK15.out.output.trans HBX.out.output)))
      have hty : ∃ cs, w8.heap[t]? = some (.cells cs 56 (0, 0)) := by obtain ⟨cs, hc⟩ := HTT.out.ty; exact ⟨cs, (hK8.block t htw.1 htb).trans hc⟩
      have hTB8 : TB w8 t b (n + k + 1) (fun y => if y = x then some (.agg #[.int .i16 e, X]) else f y) := ⟨(hK8.cell (a := ⟨t, 0, none⟩) htw.1 htb).trans c2, HMP8.out, htb, hty⟩
      have hrow8 : Row w8 g5 (ms.filter fun m => !decide (m.base < base)) := by
        obtain ⟨⟨cs, hc⟩, hat⟩ := HR6.out
        have hbl := hb8 g5 hg56 (by omega) (by omega)
        exact ⟨⟨cs, hbl.trans hc⟩, fun j m hj => ⟨(World.cell?_of_block (w := w6) (a := ⟨g5, j * 3, none⟩) hbl).trans (hat j m hj).c0, (World.cell?_of_block (w := w6) (a := ⟨g5, j * 3 + 1, none⟩) hbl).trans (hat j m hj).c1, (World.cell?_of_block (w := w6) (a := ⟨g5, j * 3 + 2, none⟩) hbl).trans (hat j m hj).c2⟩⟩
      have hel8 : Elem w8 (.agg #[.int .i16 e, X]) (e, ms.filter fun m => !decide (m.base < base)) := ⟨g5, 0, cap5, by rw [HXE.out, HKK.out], hrow8.ty, fun j m hj => by rw [Nat.zero_add]; exact hrow8.at_ j m hj⟩
      have hfun : (fun y => if y ∈ ks.take (k + 1) then forgetT g base y else if stays g base y = true then g y else none) = fun y => if y = x then some (e, ms.filter fun m => !decide (m.base < base)) else if y ∈ ks.take k then forgetT g base y else if stays g base y = true then g y else none := by
        funext y
        have htk : ks.take (k + 1) = ks.take k ++ [x] := by rw [List.take_add_one, HX.out]; rfl
        rw [htk]
        by_cases hy : y = x
        · subst hy
          rw [if_pos (by simp), if_pos rfl, HFX.out]
        · rw [if_neg hy]
          have : (y ∈ ks.take k ++ [x]) ↔ y ∈ ks.take k := by simp [hy]
          simp only [this]
      have hgk : GOK (fun y => if y = x then some (e, ms.filter fun m => !decide (m.base < base)) else if y ∈ ks.take k then forgetT g base y else if stays g base y = true then g y else none) := by
        intro y m hy
        simp only at hy
        split at hy
        · rename_i hyx
          exact forget_ok HGOK.out base y m (by rw [hyx, HFX.out]; exact hy)
        · exact HGO.out y m hy
      have hTab := Tab.noted HGO.out HF.out HMP.out.is_map hK8 hTB8 hel8 hgk
      rw [← hfun] at hTab
      go_roundw
      case rel => exact ⟨k + 1, by omega, by go_num, by rw [show n + (k + 1) = n + k + 1 by omega]; exact hTab, kept_trans HKR.out hK8⟩
      case measure => simp [intOf]; omega
    · obtain rfl : k = len := by omega
      go_wp2_with fail
      go_end0
      have hend : (fun x => if x ∈ ks.take k then forgetT g base x else if stays g base x = true then g x else none) = forgetT g base := by
        funext x
        rw [show ks.take k = ks by rw [HL.out]; exact List.take_length]
        by_cases hx : x ∈ ks
        · rw [if_pos hx]
        · rw [if_neg hx]
          have h1 : forgetT g base x = none := by
            cases hfx : forgetT g base x with
            | none => rfl
            | some m => exact absurd ((HMEM.out x).2 (by rw [hfx]; rfl)) hx
          have h2 := stays_eq g base x
          rw [h1] at h2 ⊢
          cases hs : (if stays g base x = true then g x else none) with
          | none => rfl
          | some m => rw [hs] at h2; cases h2
      have hT := HTK.out
      rw [hend] at hT
      exact ⟨rfl, hT.tight HTAB.out (forget_sub g base), kept_trans HKW.out HKR.out⟩
end Go.Proofs.Ytnooekflmjebiaa
