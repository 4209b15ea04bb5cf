/- Datas: the files' rows as they lie; SpoilLists: turned, grown, still just turned. -/
import Derived.Test.YtkhopknpadncdaaGrow
import Derived.Test.YtkhopknpadncdaaMemF
import Derived.Deep.QuietTactic
import Derived.BigQuiet
import Derived.Test.YtkhopknpadncdaaPDiskMemoryx14
namespace Go.Proofs.Ytkhopknpadncdaa
open Go Go.RowKit Go.Maps Go.Proofs.YtkhopknpadncdaaW.PrintWords Go.Proofs.Ytkhopknpadncdaa.PDiskMemory Go.Proofs.YtkhopknpadncdaaW.PrintMore
set_option linter.unusedVariables false

/-- Rows of bytes that lie apart. -/
abbrev kL : Kd (List Int) := Kd.slice 5 (Kd.int .u8)
abbrev SL (W : World) (S : Nat → Prop) (v : Value) (ls : List (List Int)) : Prop := Kd.S kL 34 W 0 S v ls
theorem info_sl : (Try.prog.info? 34).map (fun i => (i.zero, i.size, i.bytes)) = some (some (.slice none 0 0), 1, 24) := by kernel_rfl
/-- Element i of a row that lies apart, lent, written, put back. -/
theorem S_turn {α : Type} {d : Kd α} {e : Nat} {W : World} {S : Nat → Prop} {g n cap : Nat} {xs : List α} (h : Kd.S d e W 0 S (.slice (some ⟨g, 0, none⟩) n cap) xs) {i : Nat} (x : α) (hi : xs[i]? = some x) :
    ∃ (oki : Nat → Prop) (c : List Value), c.length = d.sz ∧ d.M W 0 oki x c ∧ (∀ j u, c[j]? = some u → W.cell? ⟨g, i * d.sz + j, none⟩ = some u) ∧ (∀ k, oki k → S k ∧ k ≠ g) ∧
      ∀ W' row x', W.grownBy W' row → (∀ k, row = some k → oki k) → d.M W' 0 oki x' c → Kd.S d e W' 0 S (.slice (some ⟨g, 0, none⟩) n cap) (xs.set i x') := by
  have hn := (Kd.S_reads' h).1
  have hl := (List.getElem?_eq_some_iff.1 hi).1
  obtain ⟨oki, c, hcl, hM, hcc, _, hoki, hH⟩ := Kd.S_elem h x (i : Int) (by omega) (by omega)
  rw [Int.toNat_natCast] at hM hcc
  rw [List.getD_eq_getElem?_getD, hi, Option.getD_some] at hM
  refine ⟨oki, c, hcl, hM, hcc, hoki, fun W' row x' hg hrow hM' => ?_⟩
  have := Kd.H_back (Kd.H_grown hH hg hrow) hM' (fun _ h => h)
  rwa [Int.toNat_natCast] at this

/-- What Datas has so far. -/
theorem datas_start (W : World) : SL (W.alloc (.cells #[] 34)) (fun b => W.heap.size ≤ b) (.slice (some ⟨W.heap.size, 0, none⟩) 0 0) [] := ⟨fun _ => 0, R_empty (Kd.tag (fun _ => 0) kL) 34 W (fun b => W.heap.size ≤ b) (Nat.le_refl _)⟩
set_option maxRecDepth 100000 in
theorem datas_any (W : World) (S : Nat → Prop) (A : Option Addr) (n c : Nat) (xs : List SF) (h : RF W 0 S (.slice A n c) xs) (hl : xs.length ≤ 5864062014804) :
    Calls Try.prog 24 #[.slice A n c] W fun e W' => ∃ v, e = .returned v ∧ SL W' (newer W S) v (xs.map (·.f1)) ∧ Below W.heap.size W W' := by
  obtain ⟨f, hf⟩ := h
  have hn : n = xs.length := by have := (Kd.R_reads' hf).1; rw [List.length_zipIdx] at this; exact this
  subst hn
  have hf' : (Kd.tag f k45).R 45 W 0 (fun b => S b ∧ b < W.heap.size) (.slice A xs.length c) xs.zipIdx := Kd.R_mono (Kd.R_bound hf) (fun b hb => ⟨hb.1, hb.2.2.1⟩)
  have HF := Lib.hid hf'
  have HB0 : Hid (Below W.heap.size W (W.alloc (.cells #[] 34))) := (Below.refl W.heap.size W).alloc (Nat.le_refl _) _
  have HS0 := Lib.hid (datas_start W)
  clear hf hf'
  go_enter Try.func24, Try.ntmps24
  go_wp2
  go_loopw [3, 4] (fun v i Wr => ∃ j : Nat, j ≤ xs.length ∧ i = .int .i64 j ∧ Hid (SL Wr (fun b => W.heap.size ≤ b ∨ S b ∧ b < W.heap.size ∧ f b < j) v ((xs.take j).map (·.f1))) ∧ Hid (∀ k, v.ownBlock = some k → W.heap.size ≤ k) ∧ Hid (Below W.heap.size W Wr)) (fun _ i _ => xs.length - (intOf i).toNat)
  case atStart => exact ⟨0, Nat.zero_le _, rfl, Kd.S_mono HS0.out (fun b hb => .inl hb), fun k hk => Nat.le_of_eq (Option.some.inj hk), HB0⟩
  case round =>
    obtain ⟨j, hj, rfl, HV, HO, HB⟩ := hrel
    by_cases hlt : j < xs.length
    · obtain ⟨x, hx⟩ : ∃ x, xs[j]? = some x := ⟨_, List.getElem?_eq_getElem hlt⟩
      have hr := Kd.R_below HF.out HB.out
      obtain ⟨g, cap, hv, _, hg, _⟩ := Kd.R_form hr (by rw [List.length_zipIdx]; omega)
      obtain rfl : A = some ⟨g, 0, none⟩ := by injection hv
      clear hv
      obtain ⟨cs, hcl, hM, hcc, _⟩ := Kd.R_elem hr (x, 0) (j : Int) (by omega) (by omega)
      rw [Int.toNat_natCast] at hM hcc
      rw [List.getD_eq_getElem?_getD, Kd.zip_at hx, Option.getD_some] at hM
      obtain ⟨v1, rfl, hv1⟩ := k45_openM (show k45.M wr 0 (fun k => ((S k ∧ k < W.heap.size) ∧ k ≠ g) ∧ f k = j) x cs from hM)
      obtain ⟨A1, c1, rfl⟩ := Kd.R_slice hv1
      have hc1 : wr.cell? ⟨g, j * 2 + 1, none⟩ = some (.slice A1 x.f1.length c1) := hcc 1 _ rfl
      have HP : Hid (kL.M wr 0 (fun k => S k ∧ k < W.heap.size ∧ f k = j) x.f1 [.slice A1 x.f1.length c1]) := ⟨_, rfl, Kd.R_mono hv1 (fun k hk => ⟨hk.1.1.1, hk.1.1.2, hk.2⟩)⟩
      have HE : Hid ((xs.take j).map (·.f1) ++ [x.f1] = (xs.take (j + 1)).map (·.f1)) := by
        show _ = _
        rw [List.take_add_one, hx, List.map_append]
        rfl
      have hll : ((xs.take j).map (·.f1)).length = j := by rw [List.length_map, List.length_take]; omega
      have HLL := Lib.hid hll
      have HSZ := Lib.hid HB.out.size
      clear hM hcc hcl hr hv1 hx hll
      obtain ⟨Av, cv, rfl⟩ := Kd.S_slice HV.out
      go_wp2_with (at_builtin; refine Kd.S_append kL (w0 := W) 0 rfl _ _ 53 34 (.slice none 0 0) 24 rfl Try.underlying53 info_sl rfl (by decide) (by decide) _ ((xs.take j).map (·.f1)) x.f1 [.slice A1 x.f1.length c1] (fun b => W.heap.size ≤ b ∨ S b ∧ b < W.heap.size ∧ f b < j + 1) (fun k => S k ∧ k < W.heap.size ∧ f k = j) rfl rfl HP.out (fun k hk => ⟨.inr ⟨hk.1, hk.2.1, by omega⟩, fun e => by have := HO.out k e.symm; omega⟩) (fun k hk => .inl (Nat.le_trans HSZ.out hk)) (Kd.S_mono HV.out (fun b hb => hb.elim (fun h => ⟨.inl h, fun h2 => by omega⟩) (fun h => ⟨.inr ⟨h.1, h.2.1, by omega⟩, fun h2 => by omega⟩))) (HB.out.mono (Nat.zero_le _)) (Nat.zero_le _) (by rw [HLL.out]; omega) ?_; intro v2 w2 hr2 hb2 hg2 hat2; have HV2 := Lib.hid hr2; have HB2 : Hid (Below W.heap.size W w2) := grown_new HB.out hg2 HO.out; have HO2 : Hid (∀ k, v2.ownBlock = some k → W.heap.size ≤ k) := (fun k hk => hat2.elim (fun e => HO.out k (e ▸ hk)) (fun ⟨b, e, hb⟩ => by rw [e] at hk; injection hk with hk; have := HSZ.out; omega)); clear hr2 hb2 hg2 hat2)
      go_roundw
      case rel => exact ⟨j + 1, by omega, by go_num, by rw [← HE.out]; exact HV2.out, HO2.out, HB2.out⟩
      case measure => simp [intOf]; omega
    · obtain rfl : j = xs.length := by omega
      have hv := Kd.S_mono (ok' := newer W S) HV.out (fun b hb => hb.elim (fun h => .inr h) (fun h => .inl h.1))
      rw [List.take_length] at hv
      have HV' := Lib.hid hv
      clear hv
      go_wp2
      go_ret
      exact ⟨_, rfl, HV'.out, HB.out⟩

/-- The first j rows turned. -/
def rowsTo (ls : List (List Int)) (j : Nat) : List (List Int) := (ls.take j).map (·.map turn) ++ ls.drop j
theorem rowsTo_zero (ls : List (List Int)) : rowsTo ls 0 = ls := by unfold rowsTo; simp
theorem rowsTo_all (ls : List (List Int)) : rowsTo ls ls.length = ls.map (·.map turn) := by unfold rowsTo; simp
theorem rowsTo_len (ls : List (List Int)) (j : Nat) : (rowsTo ls j).length = ls.length := by unfold rowsTo; rw [List.length_append, List.length_map, List.length_take, List.length_drop]; omega
theorem rowsTo_at {ls : List (List Int)} {j : Nat} {x : List Int} (h : ls[j]? = some x) : (rowsTo ls j)[j]? = some x := by
  have hl := (List.getElem?_eq_some_iff.1 h).1
  unfold rowsTo
  rw [List.getElem?_append_right (by rw [List.length_map, List.length_take]; omega), List.length_map, List.length_take, Nat.min_eq_left (by omega), Nat.sub_self, List.getElem?_drop]
  exact h
theorem rowsTo_set {ls : List (List Int)} {j : Nat} {x : List Int} (h : ls[j]? = some x) : (rowsTo ls j).set j (x.map turn) = rowsTo ls (j + 1) := by
  have hl := (List.getElem?_eq_some_iff.1 h).1
  have hx : ls[j] = x := by rw [List.getElem?_eq_getElem hl] at h; injection h
  unfold rowsTo
  rw [List.set_append_right _ _ (by rw [List.length_map, List.length_take]; omega), List.length_map, List.length_take, Nat.min_eq_left (by omega), Nat.sub_self, List.drop_eq_getElem_cons hl, ← List.take_append_getElem hl, List.map_append, List.append_assoc, hx]
  rfl
/-- What Spoil does to element j. -/
theorem spoil_elem {W Wr w1 : World} {S oki : Nat → Prop} {g n cap : Nat} {v1 : Value} {xs : List (List Int)} {x : List Int} {j : Nat} (hT : Tch S W Wr) (hv1 : RB Wr oki v1 x)
    (hput : ∀ W' row x', Wr.grownBy W' row → (∀ k, row = some k → oki k) → kL.M W' 0 oki x' [v1] → SL W' S (.slice (some ⟨g, 0, none⟩) n cap) (xs.set j x')) (hoki : ∀ k, oki k → S k) {e : Ending} (h : SpoilPost Wr oki v1 x e w1) :
    e = .returned (.tuple #[]) ∧ SL w1 S (.slice (some ⟨g, 0, none⟩) n cap) (xs.set j (x.map turn)) ∧ Tch S W w1 := by
  obtain ⟨he, hr, hg, _⟩ := h
  exact ⟨he, hput w1 _ _ hg (fun k hk => hv1.1 k hk) ⟨_, rfl, hr⟩, hT.trans (Tch.of_grown hg (fun k hk => hoki k (hv1.1 k hk)))⟩
/-- The blocks of a row alone, and new ones. -/
def ownN (W : World) (v : Value) (b : Nat) : Prop := some b = v.ownBlock ∨ W.heap.size ≤ b
theorem grow_elem {W Wo Wr : World} {S oki : Nat → Prop} {g n cap : Nat} {v1 v : Value} {xs : List (List Int)} {x m : List Int} {j : Nat} (hx : xs[j]? = some x) (hs : W.heap.size ≤ Wo.heap.size) (hT : Tch S W Wo) (hv1 : RB Wo oki v1 x)
    (hput : ∀ W' row x', Wo.grownBy W' row → (∀ k, row = some k → oki k) → kL.M W' 0 oki x' [v1] → SL W' S (.slice (some ⟨g, 0, none⟩) n cap) (xs.set j x')) (hoki : ∀ k, oki k → S k) (hG : Grw Wr (ownN Wo v1) v1 x v m) (hT2 : Tch (ownN Wo v1) Wo Wr) :
    SL Wr S (.slice (some ⟨g, 0, none⟩) n cap) xs ∧ Tch S W Wr := by
  have h := hput Wr v1.ownBlock x ⟨hT2.os, hT2.tape, hT2.output, hT2.size, fun k hk hne => hT2.block k hk (fun h => h.elim hne (fun h => by omega))⟩ (fun k hk => hv1.1 k hk) ⟨_, rfl, Kd.R_mono (Kd.R_tight rfl hG.1) (fun k hk => hv1.1 k hk.symm)⟩
  have hl := (List.getElem?_eq_some_iff.1 hx).1
  have hxx : xs[j] = x := by rw [List.getElem?_eq_getElem hl] at hx; injection hx
  rw [← hxx, List.set_getElem_self] at h
  exact ⟨h, hT.then_ hT2 (fun i hi => hi.elim (fun h => .inl (hoki i (hv1.1 i h.symm))) (fun h => .inr (Nat.le_trans hs h)))⟩
theorem turned_any (A B : Option Addr) (c q : Nat) (l : List Int) (w : World) (hA : (Kd.int .u8).C w A l.length (l.map turn)) (hc : l.length ≤ c) (hB : (Kd.int .u8).C w B l.length l) (hq : l.length ≤ q) (hl : l.length ≤ big) :
    Calls Try.prog 56 #[.slice A l.length c, .slice B l.length q] w fun e w' => e = .returned (.bool true) ∧ ∃ n, w' = w.drewN n := by
  have hm : (l.map turn).length = l.length := List.length_map _
  have h := leatref01_Turned.calls (l.length + 1) A c (l.map turn) B q l true w (by rw [hm]; exact hA) (by rw [hm]; exact hc) hB hq (turned_f (by unfold big at hl; omega) (by omega))
  rw [hm] at h
  exact h.mono fun e w' ⟨he, hd⟩ => ⟨he, hd.out⟩
def SpoilLPost (W : World) (S : Nat → Prop) (e : Ending) (W' : World) : Prop := e = .returned (.bool true) ∧ Tch S W W'
set_option maxRecDepth 100000 in
set_option maxHeartbeats 1000000 in
theorem spoilLists_any (W : World) (S : Nat → Prop) (A B : Option Addr) (n c q : Nat) (ls : List (List Int)) (h : SL W S (.slice A n c) ls) (hb : ∀ l ∈ ls, l.length ≤ big) (hn : n ≤ 5864062014804)
    (hW : ∀ W', Tch S W W' → kL.C W' B n ls) (hq : n ≤ q) : Calls Try.prog 23 #[.slice A n c, .slice B n q] W (SpoilLPost W S) := by
  have hnl : n = ls.length := (Kd.S_reads' h).1
  subst hnl
  have H := Lib.hid h
  have HWt := Lib.hid hW
  have HBL := Lib.hid hb
  clear h hW hb
  go_enter Try.func23, Try.ntmps23
  go_wp2
  go_loopw [5] (fun i Wr => ∃ j : Nat, j ≤ ls.length ∧ i = .int .i64 j ∧ Hid (SL Wr S (.slice A ls.length c) (rowsTo ls j)) ∧ Hid (Tch S W Wr)) (fun i _ => ls.length - (intOf i).toNat)
  case atStart => exact ⟨0, Nat.zero_le _, rfl, by rw [rowsTo_zero]; exact H, Tch.refl _ _⟩
  case round =>
    obtain ⟨j, hj, rfl, HR, HT⟩ := hrel
    by_cases hlt : j < ls.length
    · obtain ⟨x, hx⟩ : ∃ x, ls[j]? = some x := ⟨_, List.getElem?_eq_getElem hlt⟩
      have HLEN := Lib.hid (rowsTo_len ls j)
      obtain ⟨g, cap, hv, _, hg, _⟩ := Kd.S_form HR.out (by rw [HLEN.out]; omega)
      obtain rfl : A = some ⟨g, 0, none⟩ := by injection hv
      clear hv
      obtain ⟨oki, cs, hcl, hM, hcc, hoki, hput⟩ := S_turn HR.out x (rowsTo_at hx)
      obtain ⟨v1, rfl, hv1⟩ := hM
      have HPUT : Hid (∀ (e : Ending) w1, SpoilPost wr oki v1 x e w1 → e = .returned (.tuple #[]) ∧ SL w1 S (.slice (some ⟨g, 0, none⟩) ls.length c) (rowsTo ls (j + 1)) ∧ Tch S W w1) := fun e w1 hp => by
        rw [← rowsTo_set hx]
        exact spoil_elem HT.out hv1 hput (fun k hk => (hoki k hk).1) hp
      obtain ⟨A1, c1, rfl⟩ := Kd.R_slice hv1
      have hc1 : wr.cell? ⟨g, j, none⟩ = some (.slice A1 x.length c1) := by
        have := hcc 0 _ rfl
        rwa [show j * kL.sz + 0 = j by show j * 1 + 0 = j; omega] at this
      have HV1 := Lib.hid hv1
      clear hcl hcc hoki hput hx hv1
      go_wp2_with (go_at_call 15; refine (spoil_any _ oki _ x HV1.out).mono ?_; intro e w1 hp; obtain ⟨he, hr, ht⟩ := HPUT.out e w1 hp; subst he; have HR1 := Lib.hid hr; have HT1 := Lib.hid ht; clear hp hr ht)
      go_roundw
      case rel => exact ⟨j + 1, by omega, by go_num, HR1.out, HT1.out⟩
      case measure => simp [intOf]; omega
    · obtain rfl : j = ls.length := by omega
      have hr := HR.out
      rw [rowsTo_all] at hr
      have HR2 := Lib.hid hr
      clear hr HR H
      go_wp2
      go_loopw [6, 7, 8] (fun i _ _ Wr => ∃ j : Nat, j ≤ ls.length ∧ i = .int .i64 j ∧ Hid (SL Wr S (.slice A ls.length c) (ls.map (·.map turn))) ∧ Hid (Tch S W Wr)) (fun i _ _ _ => ls.length - (intOf i).toNat)
      case atStart => exact ⟨0, Nat.zero_le _, rfl, HR2, HT⟩
      case round =>
        obtain ⟨j, hj, rfl, HR3, HT3⟩ := hrel
        obtain ⟨wo, rfl⟩ : ∃ wo : World, wo = wr := ⟨_, rfl⟩
        by_cases hlt : j < ls.length
        · obtain ⟨l, hl0⟩ : ∃ l, ls[j]? = some l := ⟨_, List.getElem?_eq_getElem hlt⟩
          have hlb := HBL.out l (List.mem_of_getElem? hl0)
          unfold big at hlb
          have hx : (ls.map (·.map turn))[j]? = some (l.map turn) := by rw [List.getElem?_map, hl0]; rfl
          obtain ⟨g, cap, hv, _, hg, _⟩ := Kd.S_form HR3.out (by rw [List.length_map]; omega)
          obtain rfl : A = some ⟨g, 0, none⟩ := by injection hv
          clear hv
          obtain ⟨oki, cs, hcl, hM, hcc, hoki, hput⟩ := S_turn HR3.out _ hx
          obtain ⟨v1, rfl, hv1⟩ := hM
          have HPUT : Hid (∀ (v : Value) (m : List Int) (Wr : World), Grw Wr (ownN wo v1) v1 (l.map turn) v m → Tch (ownN wo v1) wo Wr → SL Wr S (.slice (some ⟨g, 0, none⟩) ls.length c) (ls.map (·.map turn)) ∧ Tch S W Wr) :=
            fun v m Wr h1 h2 => grow_elem hx HT3.out.size HT3.out hv1 hput (fun k hk => (hoki k hk).1) h1 h2
          have HG0 : Hid (Grw wo (ownN wo v1) v1 (l.map turn) v1 []) := Grw.start (Kd.R_mono (Kd.R_tight rfl hv1) (fun k hk => .inl hk))
          obtain ⟨A1, c1, rfl⟩ := Kd.R_slice hv1
          have hc1 : wo.cell? ⟨g, j, none⟩ = some (.slice A1 (l.map turn).length c1) := by
            have := hcc 0 _ rfl
            rwa [show j * kL.sz + 0 = j by show j * 1 + 0 = j; omega] at this
          have hlm : (l.map turn).length ≤ 140737488351232 := by rw [List.length_map]; exact hlb
          clear hcl hcc hoki hput hx hv1 hl0 hlb HR2 HT
          generalize l.map turn = x at hlm hc1 HG0 HPUT
          clear l
          go_wp2
          go_loopw [7, 8] (fun v k Wr => ∃ (q : Nat) (m : List Int), q ≤ 70 ∧ Hid (m.length = q) ∧ k = .int .i64 q ∧ Hid (Grw Wr (ownN wo (.slice A1 x.length c1)) (.slice A1 x.length c1) x v m) ∧ Hid (Tch (ownN wo (.slice A1 x.length c1)) wo Wr)) (fun _ k _ => 70 - (intOf k).toNat)
          case atStart => exact ⟨0, [], by omega, rfl, rfl, HG0, Tch.refl _ _⟩
          case round =>
            obtain ⟨q, m, hq7, HM, rfl, HG, HT4⟩ := hrel
            by_cases hq70 : q < 70
            · obtain ⟨Av, cv, ev⟩ := Kd.R_slice HG.out.2
              subst ev
              have HLL : Hid ((x ++ m).length + 1 ≤ 140737488355328) := by show _ ≤ _; rw [List.length_append, HM.out]; omega
              have HML : Hid (∀ y : Int, (m ++ [y]).length = q + 1) := fun y => by rw [List.length_append, HM.out]; rfl
              have HSZ := Lib.hid HT4.out.size
              go_wp2_with (at_builtin; refine wpList_grw rfl _ _ 34 rfl Try.underlying34 info_u8 (.slice A1 x.length c1) _ x m _ rfl rfl HG.out HLL.out ?_; intro v' w' h1 h2; have HG2 : Hid (Grw w' (ownN wo (.slice A1 x.length c1)) (.slice A1 x.length c1) x v' _) := ⟨Kd.R_mono h1.1 (fun k hk => hk.elim id (fun h => .inr (Nat.le_trans HSZ.out h))), Kd.R_mono h1.2 (fun k hk => hk.elim id (fun h => .inr (Nat.le_trans HSZ.out h)))⟩; have HT5 := Lib.hid (HT4.out.trans h2); clear h1 h2)
              go_roundw
              case rel => exact ⟨q + 1, _, by omega, HML.out _, by go_num, HG2, HT5.out⟩
              case measure => simp [intOf]; omega
            · obtain ⟨h1, h2⟩ := HPUT.out _ _ _ HG.out HT4.out
              have HN1 := Lib.hid h1
              have HN2 := Lib.hid h2
              clear h1 h2
              go_wp2
              go_roundw
              case rel => exact ⟨j + 1, by omega, by go_num, HN1.out, HN2.out⟩
              case measure => simp [intOf]; omega
        · have hj2 : j = ls.length := by omega
          clear hlt
          go_wp2
          go_loopw [9] (fun i Wr => ∃ j : Nat, j ≤ ls.length ∧ i = .int .i64 j ∧ Hid (SL Wr S (.slice A ls.length c) (ls.map (·.map turn))) ∧ Hid (Tch S W Wr)) (fun i _ => ls.length - (intOf i).toNat)
          case atStart => exact ⟨0, Nat.zero_le _, rfl, HR3, HT3⟩
          case round =>
            obtain ⟨j2, hj2, rfl, HR4, HT4⟩ := hrel
            by_cases hlt : j2 < ls.length
            · obtain ⟨l, hl0⟩ : ∃ l, ls[j2]? = some l := ⟨_, List.getElem?_eq_getElem hlt⟩
              have hlb := HBL.out l (List.mem_of_getElem? hl0)
              obtain ⟨ad, cs, e1, hcl, hK, hcc⟩ := Kd.C_get (by have := (Kd.S_reads' HR4.out).2.2; rw [List.length_map] at this; exact this) ([] : List Int) (j2 : Int) (by omega) (by omega)
              rw [Int.toNat_natCast, List.getD_eq_getElem?_getD, List.getElem?_map, hl0] at hK
              obtain ⟨A1, c1, rfl, hle, hCA⟩ := hK
              have hca := hcc 0 _ rfl
              obtain ⟨bd, ds, e2, hdl, hK2, hdd⟩ := Kd.C_get (HWt.out wr HT4.out) ([] : List Int) (j2 : Int) (by omega) (by omega)
              rw [Int.toNat_natCast, List.getD_eq_getElem?_getD, hl0] at hK2
              obtain ⟨B1, d1, rfl, hle2, hCB⟩ := hK2
              have hdb := hdd 0 _ rfl
              subst e1
              subst e2
              rw [Int.toNat_natCast, show j2 * kL.sz + 0 = j2 by show j2 * 1 + 0 = j2; omega] at hca hdb
              have hlm : (l.map turn).length = l.length := List.length_map _
              simp only [Option.map_some, Option.getD_some] at hca hdb hCA hCB hle hle2
              rw [hlm] at hca hCA hle
              have HTQ : Hid (∀ m, Calls Try.prog 56 #[.slice A1 l.length c1, .slice B1 l.length d1] (wr.drewN m) fun e w' => e = .returned (.bool true) ∧ ∃ n, w' = (wr.drewN m).drewN n) :=
                fun m => turned_any A1 B1 c1 d1 l _ (Kd.C_below hCA (pw_below_drewN (Below.refl _ _) m)) hle (Kd.C_below hCB (pw_below_drewN (Below.refl _ _) m)) hle2 hlb
              clear hcl hcc hdl hdd hl0 hlb hCA hCB hle hle2 hlm
              have i0 : (0 : Int) ≤ (j2 : Int) := by omega
              have i1 : (j2 : Int) < (ls.length : Int) := by omega
              go_wp2_with fail
              go_quiet ((go_at_call 56; exact Calls.quiet_of (HTQ.out _)))
              go_wp2
              go_roundw
              case rel => exact ⟨j2 + 1, by omega, by go_num, Kd.S_drewN HR4.out _, HT4.out.trans (Tch.of_below (pw_below_drewN (Below.refl _ _) _))⟩
              case measure => simp [intOf]; omega
            · go_wp2
              go_ret
              exact ⟨rfl, HT4.out⟩
end Go.Proofs.Ytkhopknpadncdaa
