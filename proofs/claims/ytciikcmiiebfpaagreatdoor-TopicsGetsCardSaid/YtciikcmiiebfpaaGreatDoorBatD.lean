/- batch.Decode of one whole batch that is not packed, its rows without headers, nothing amiss. -/
import Derived.Test.YtciikcmiiebfpaaGreatDoorPush
namespace Go.Proofs.YtciikcmiiebfpaaGreatDoor
open Go Go.RowKit Go.Proofs.YtciikcmiiebfpaaGreatDoorW.PrintWords Go.Proofs.YtciikcmiiebfpaaGreatDoor.PTopicsGets Go.Proofs.YtciikcmiiebfpaaGreatDoorW.PrintMore
set_option linter.unusedVariables false
set_option linter.unusedSimpArgs false

/-- The rows of a block from number i, place at_ on: their times. -/
inductive RowsOk (body : Bs) (first : Int) : Nat → Nat → List Int → Prop
  | nil (i : Nat) : RowsOk body first i body.length []
  | cons {i at_ k q : Nat} {dt : Int} {kn vn q1 q2 q3 q4 : Nat} {ts : List Int} (hv : vget32 body at_ = ((k : Int), (q : Int), 0)) (hk : k ≤ 16384) (hq : q + k ≤ body.length) (hp : PlainRow ((body.drop q).take k) dt i kn vn q1 q2 q3 q4)
      (h0 : ¬ (i = 0 ∧ dt ≠ 0)) (hd : -9223372036854775808 ≤ first + dt ∧ first + dt ≤ 9223372036854775807) (h : RowsOk body first (i + 1) (q + k) ts) : RowsOk body first i at_ ((first + dt) :: ts)
def lastI : List Int → Int
  | [] => 0
  | t :: ts => (t :: ts).foldl max t
theorem fold_t : ∀ (rs : List PRec) (c : Int), rs.foldl (fun t x => max t x.t) c = (rs.map (·.t)).foldl max c
  | [], _ => rfl
  | r :: rs, c => fold_t rs (max c r.t)
theorem lastT_map (rs : List PRec) : lastT rs = lastI (rs.map (·.t)) := by
  cases rs with
  | nil => rfl
  | cons r rs => exact fold_t (r :: rs) r.t

/-- A whole batch that is not packed, with these times. -/
structure BatOk (l : Bs) (v0 v12 v17 v27 v35 v43 v51 v53 : Int) (ts : List Int) : Prop where
  head : HeadOk l v0 v12 v17 v27 v35 v43 v51 v53 (ts.length : Int)
  block : l.length - 61 ≤ 32768
  rows : RowsOk (l.drop 61) v27 0 0 ts
  last : lastI ts = v35
  first : -9223372036854775808 ≤ v27 ∧ v27 ≤ 9223372036854775807

abbrev batZ : Array Value := #[.int .i64 0, .int .i32 0, .int .i64 0, .int .i16 0, .int .i32 0, .slice none 0 0]
theorem Owns_tch {w w' : World} {B : Nat} {e : TypeId} {sz n : Nat} {v : Value} {xs : List Value} {S : Nat → Prop} (h : Ix.Owns w B e sz v n xs) (ht : Tch S w w') (hS : ∀ k, v.ownBlock = some k → ¬ S k) : Ix.Owns w' B e sz v n xs := h.kept (S := S) ⟨ht.os, ht.tape, ht.output, ht.size, ht.block⟩ hS
theorem Owns_below {w w' : World} {B : Nat} {e : TypeId} {sz n : Nat} {v : Value} {xs : List Value} (h : Ix.Owns w B e sz v n xs) (hb : Below w.heap.size w w') : Ix.Owns w' B e sz v n xs := Owns_tch (S := fun _ => False) h (Tch.of_below hb) (fun _ _ h => h)
/-- A box of another type is no block of the row. -/
theorem Owns_ne {w : World} {B b : Nat} {e t : TypeId} {sz n : Nat} {v : Value} {xs : List Value} {cs : Array Value} (h : Ix.Owns w B e sz v n xs) (hb : w.heap[b]? = some (.cells cs t (0, 0))) (hne : e ≠ t) : ∀ k, v.ownBlock = some k → k ≠ b := by
  intro k hk hkb
  obtain ⟨cur, hc⟩ := h.block_type k hk
  rw [hkb, hb] at hc
  injection hc with hc
  injection hc with _ hc
  exact hne hc.symm

/-- What stands at a round of Decode's loop. -/
structure DecSt (w W : World) (b2 b4 b7 : Nat) (inf : Array Value) (v0 v12 v43 v51 v53 : Int) (v : Value) (rs : List PRec) : Prop where
  b : Below w.heap.size w W
  x2 : W.heap[b2]? = some (.cells batZ 95 (0, 0))
  x4 : W.heap[b4]? = some (.cells inf 231 (0, 0))
  x7 : W.heap[b7]? = some (.cells #[.int .i64 v0, .int .i32 v12, .int .i64 v43, .int .i16 v51, .int .i32 v53, v] 95 (0, 0))
  own : Recs W w.heap.size v rs
  l2 : w.heap.size ≤ b2
  l4 : w.heap.size ≤ b4
  l7 : w.heap.size ≤ b7
  n27 : b2 ≠ b7
theorem DecSt.new {w W W' : World} {b2 b4 b7 : Nat} {inf : Array Value} {v0 v12 v43 v51 v53 : Int} {v : Value} {rs : List PRec} (h : DecSt w W b2 b4 b7 inf v0 v12 v43 v51 v53 v rs) (hb : Below W.heap.size W W') : DecSt w W' b2 b4 b7 inf v0 v12 v43 v51 v53 v rs :=
  ⟨h.b.trans (hb.mono h.b.size), blk_below h.x2 hb, blk_below h.x4 hb, blk_below h.x7 hb, Owns_below h.own hb, h.l2, h.l4, h.l7, h.n27⟩

set_option maxHeartbeats 8000000 in
set_option maxRecDepth 100000 in
theorem dec_ok {w : World} {A : Option Addr} {n c : Nat} {l : Bs} {v0 v12 v17 v27 v35 v43 v51 v53 : Int} {ts : List Int} (hl : l.length = n) (hn : n ≤ c) (hs : n < 1073741824) (HB : CB w A n l) (HT : Tab w) (h : BatOk l v0 v12 v17 v27 v35 v43 v51 v53 ts) :
    Calls Tryz.prog 63 #[.slice A n c] w fun r w' => Below w.heap.size w w' ∧ ∃ A' c' rs, r = .returned (.tuple #[.agg #[.int .i64 v0, .int .i32 v12, .int .i64 v43, .int .i16 v51, .int .i32 v53, .slice A' ts.length c'], .int .i64 0]) ∧ Recs w' w.heap.size (.slice A' ts.length c') rs ∧ rs.map (·.t) = ts := by
  have h61 := h.head.len
  obtain ⟨A5, hM5, hblk⟩ := block_ok (A := A) hl hn (by omega) (by have := h.block; omega)
  have HBLK := Lib.hid hblk
  have hcnt := h.head.cnt
  have hbl : (l.drop 61).length = n - 61 := by rw [List.length_drop, hl]
  have hA : Below w.heap.size w (w.alloc (.cells batZ 95)) := (Below.refl _ _).alloc (Nat.le_refl _) _
  have HH := Lib.hid (head_ok hl hn hs (HB.below hA) (HT.below hA) h.head)
  have HX2 := Lib.hid (blk_new w (.cells batZ 95))
  have HA := Lib.hid hA
  have HSZ := Lib.hid (World.size_alloc w (.cells batZ 95))
  have HC := Lib.hid (fun (W : World) (hb : Below w.heap.size w W) => hM5 W (HB.below hb))
  have HR := Lib.hid h.rows
  have HLAST := Lib.hid h.last
  have HF := Lib.hid h.first
  have HBY := Lib.hid (h.head.byt.drop 61)
  have HBL := Lib.hid hbl
  have HL := Lib.hid hl
  have HBK := Lib.hid h.block
  have HCNT : Hid (1 ≤ ts.length ∧ ts.length ≤ 256) := ⟨by omega, by omega⟩
  have HL61 := Lib.hid h61
  clear h HB HT hA hcnt hbl hM5 hblk
  go_enter Tryz.func63, Tryz.ntmps63
  go_wp2_with fail
  refine HH.out.mono ?_
  rintro r w1 ⟨hb1, rfl⟩
  have X2 := Lib.hid (blk_below HX2.out hb1)
  have HB1 := Lib.hid (HA.out.trans (hb1.mono HA.out.size))
  have HS1 : Hid (w.heap.size + 1 ≤ w1.heap.size) := by have h1 := HSZ.out; have h2 := hb1.size; show _ ≤ _; omega
  clear hb1 HH HX2 HA HSZ
  go_wp2_with fail
  have hAl : Below w1.heap.size w1 (w1.alloc (.cells #[.int .i64 v0, .int .i64 (n : Int), .int .i32 v12, .bool false, .int .i64 (ts.length : Int), .int .i64 v27, .int .i64 v35, .int .i64 v43, .int .i16 v51, .int .i32 v53] 231)) := (Below.refl _ _).alloc (Nat.le_refl _) _
  have X2b := Lib.hid (blk_below X2.out hAl)
  have X4b := Lib.hid (blk_new w1 (.cells #[.int .i64 v0, .int .i64 (n : Int), .int .i32 v12, .bool false, .int .i64 (ts.length : Int), .int .i64 v27, .int .i64 v35, .int .i64 v43, .int .i16 v51, .int .i32 v53] 231))
  have HB2 := Lib.hid (HB1.out.trans (hAl.mono HB1.out.size))
  obtain ⟨b4, hb4⟩ : ∃ b4, b4 = w1.heap.size := ⟨_, rfl⟩
  rw [← hb4]
  rw [← hb4] at X4b HS1
  have hsz2 := World.size_alloc w1 (.cells #[.int .i64 v0, .int .i64 (n : Int), .int .i32 v12, .bool false, .int .i64 (ts.length : Int), .int .i64 v27, .int .i64 v35, .int .i64 v43, .int .i16 v51, .int .i32 v53] 231)
  rw [← hb4] at hsz2
  have HS2 := Lib.hid hsz2
  clear X2 HB1 hAl hb4 hsz2
  generalize w1.alloc (.cells #[.int .i64 v0, .int .i64 (n : Int), .int .i32 v12, .bool false, .int .i64 (ts.length : Int), .int .i64 v27, .int .i64 v35, .int .i64 v43, .int .i16 v51, .int .i32 v53] 231) = W2 at *
  refine (HBLK.out W2).mono ?_
  rintro r w3 ⟨rfl, rfl⟩
  clear HBLK
  have y0 : w3.cell? ⟨b4, 0, none⟩ = some (.int .i64 v0) := blk_cell X4b.out 0
  have y2 : w3.cell? ⟨b4, 2, none⟩ = some (.int .i32 v12) := blk_cell X4b.out 2
  have y4 : w3.cell? ⟨b4, 4, none⟩ = some (.int .i64 (ts.length : Int)) := blk_cell X4b.out 4
  have y7 : w3.cell? ⟨b4, 7, none⟩ = some (.int .i64 v43) := blk_cell X4b.out 7
  have y8 : w3.cell? ⟨b4, 8, none⟩ = some (.int .i16 v51) := blk_cell X4b.out 8
  have y9 : w3.cell? ⟨b4, 9, none⟩ = some (.int .i32 v53) := blk_cell X4b.out 9
  have hAl : Below w3.heap.size w3 (w3.alloc (.cells #[.int .i64 v0, .int .i32 v12, .int .i64 v43, .int .i16 v51, .int .i32 v53, .slice none 0 0] 95)) := (Below.refl _ _).alloc (Nat.le_refl _) _
  have q4 : (w3.alloc (.cells #[.int .i64 v0, .int .i32 v12, .int .i64 v43, .int .i16 v51, .int .i32 v53, .slice none 0 0] 95)).cell? ⟨b4, 4, none⟩ = some (.int .i64 (ts.length : Int)) := blk_cell (blk_below X4b.out hAl) 4
  go_wp2_with fail
  clear y0 y2 y4 y7 y8 y9 q4
  have HST : Hid (DecSt w (w3.alloc (.cells #[.int .i64 v0, .int .i32 v12, .int .i64 v43, .int .i16 v51, .int .i32 v53, .slice none 0 0] 95)) w.heap.size b4 w3.heap.size _ v0 v12 v43 v51 v53 (.slice none 0 0) []) :=
    ⟨HB2.out.trans (hAl.mono HB2.out.size), blk_below X2b.out hAl, blk_below X4b.out hAl, blk_new _ _, Ix.Owns.nil _ _ _ _, Nat.le_refl _, by have := HS1.out; omega, HB2.out.size, by have := HS1.out; have := HS2.out; omega⟩
  obtain ⟨b7, hb7⟩ : ∃ b7, b7 = w3.heap.size := ⟨_, rfl⟩
  rw [← hb7]
  rw [← hb7] at HST
  clear X2b X4b HB2 hAl hb7 HS1 HS2
  generalize w3.alloc (.cells #[.int .i64 v0, .int .i32 v12, .int .i64 v43, .int .i16 v51, .int .i32 v53, .slice none 0 0] 95) = W4 at *
  obtain ⟨N, hN⟩ : ∃ N, N = ts.length := ⟨_, rfl⟩
  rw [← hN] at HCNT HST ⊢
  have HN := Lib.hid hN
  clear hN
  have hN256 := HCNT.out
  generalize hbody : l.drop 61 = body at *
  clear hbody
  obtain ⟨m, hm⟩ : ∃ m, m = n - 61 := ⟨_, rfl⟩
  obtain ⟨cm, hcm⟩ : ∃ cm, cm = c - 61 := ⟨_, rfl⟩
  rw [← hm] at HC HBL
  rw [← hm, ← hcm]
  have HM : Hid (m ≤ 32768 ∧ m ≤ cm) := by have h1 := HBK.out; have h2 := HL.out; exact ⟨by omega, by omega⟩
  clear hm hcm HL HBK HL61 h61 hl hn hs
  go_loopw [8, 47] (fun v8 v47 wr => ∃ (i at_ : Nat) (A' : Option Addr) (c' : Nat) (rs : List PRec), v8 = .int .i64 (at_ : Int) ∧ v47 = .int .i64 (i : Int) ∧ i ≤ N ∧ Hid (RowsOk body v27 i at_ (ts.drop i)) ∧ Hid (rs.map (·.t) = ts.take i) ∧ Hid (DecSt w wr w.heap.size b4 b7 #[.int .i64 v0, .int .i64 (n : Int), .int .i32 v12, .bool false, .int .i64 (N : Int), .int .i64 v27, .int .i64 v35, .int .i64 v43, .int .i16 v51, .int .i32 v53] v0 v12 v43 v51 v53 (.slice A' i c') rs)) (fun _ v47 _ => N - (intOf v47).toNat)
  case atStart => exact ⟨0, 0, none, 0, [], rfl, rfl, Nat.zero_le _, HR.out, rfl, HST.out⟩
  case round =>
    clear HST HR
    obtain ⟨i, at_, A', c', rs, rfl, rfl, hi, HR, HT, HST⟩ := hrel
    by_cases c1 : i < N
    · obtain ⟨t, ht⟩ : ∃ t, ts[i]? = some t := ⟨_, List.getElem?_eq_getElem (by have := HN.out; omega)⟩
      have hdrop : ts.drop i = t :: ts.drop (i + 1) := by
        obtain ⟨hlt, he⟩ := List.getElem?_eq_some_iff.1 ht
        rw [List.drop_eq_getElem_cons hlt, he]
      have htake : ts.take (i + 1) = ts.take i ++ [t] := by
        obtain ⟨hlt, he⟩ := List.getElem?_eq_some_iff.1 ht
        rw [List.take_add_one, ht]
        rfl
      have hr := HR.out
      rw [hdrop] at hr
      cases hr with
      | @cons _ _ k q dt kn vn q1 q2 q3 q4 _ hv hk hq hp h0 hd h =>
      have hlen : rs.length = i := by
        have := congrArg List.length HT.out
        rw [List.length_map, List.length_take] at this
        have h2 := HN.out
        omega
      have HLEN := Lib.hid hlen
      have HTK := Lib.hid htake
      have HRW := Lib.hid h
      have HGET := Lib.hid (rget_ok HBY.out HBL.out HM.out.2 (by have := HM.out.1; omega) (HC.out wr HST.out.b) hv hk (by rw [← HBL.out]; exact hq) hp)
      have HD := Lib.hid hd
      have H0 := Lib.hid h0
      clear hv hk hq hp h0 hd h hdrop htake ht hlen HR
      go_wp2_with fail
      refine HGET.out.mono ?_
      rintro r w5 ⟨hb5, A1, c1', A2, c2', rfl⟩
      have HST5 := Lib.hid (HST.out.new hb5)
      clear hb5 HST HGET
      have hAl : Below w5.heap.size w5 (w5.alloc (.cells #[.int .i64 dt, .int .i32 (i : Int), .bool false, .slice A1 kn c1', .bool false, .slice A2 vn c2', .slice none 0 0] 236)) := (Below.refl _ _).alloc (Nat.le_refl _) _
      have HST6 := Lib.hid (HST5.out.new hAl)
      have q5 : (w5.alloc (.cells #[.int .i64 dt, .int .i32 (i : Int), .bool false, .slice A1 kn c1', .bool false, .slice A2 vn c2', .slice none 0 0] 236)).cell? ⟨b4, 5, none⟩ = some (.int .i64 v27) := blk_cell HST6.out.x4 5
      go_wp2_with fail
      clear q5 hAl HST5
      generalize w5.alloc (.cells #[.int .i64 dt, .int .i32 (i : Int), .bool false, .slice A1 kn c1', .bool false, .slice A2 vn c2', .slice none 0 0] 236) = W6 at *
      refine (record_ok W6 dt i A1 A2 kn c1' vn c2' i v27 HF.out HD.out (by omega) rfl H0.out).mono ?_
      rintro r w7 ⟨hb7', rfl⟩
      have HST7 := Lib.hid (HST6.out.new hb7')
      clear hb7' HST6
      have hA1 : Below w7.heap.size w7 (w7.alloc (.cells #[.int .i64 (v27 + dt), .bool false, .slice A1 kn c1', .bool false, .slice A2 vn c2', .slice none 0 0] 118)) := (Below.refl _ _).alloc (Nat.le_refl _) _
      have HST8 := Lib.hid (HST7.out.new hA1)
      have q5 : (w7.alloc (.cells #[.int .i64 (v27 + dt), .bool false, .slice A1 kn c1', .bool false, .slice A2 vn c2', .slice none 0 0] 118)).cell? ⟨b7, 5, none⟩ = some (.slice A' i c') := blk_cell HST8.out.x7 5
      have hA2 : Below (w7.alloc (.cells #[.int .i64 (v27 + dt), .bool false, .slice A1 kn c1', .bool false, .slice A2 vn c2', .slice none 0 0] 118)).heap.size (w7.alloc (.cells #[.int .i64 (v27 + dt), .bool false, .slice A1 kn c1', .bool false, .slice A2 vn c2', .slice none 0 0] 118)) ((w7.alloc (.cells #[.int .i64 (v27 + dt), .bool false, .slice A1 kn c1', .bool false, .slice A2 vn c2', .slice none 0 0] 118)).alloc (.cells #[.int .i64 (v27 + dt), .bool false, .slice A1 kn c1', .bool false, .slice A2 vn c2', .slice none 0 0] 118)) := (Below.refl _ _).alloc (Nat.le_refl _) _
      have HST9 := Lib.hid (HST8.out.new hA2)
      have hbx := blk_new (w7.alloc (.cells #[.int .i64 (v27 + dt), .bool false, .slice A1 kn c1', .bool false, .slice A2 vn c2', .slice none 0 0] 118)) (.cells #[.int .i64 (v27 + dt), .bool false, .slice A1 kn c1', .bool false, .slice A2 vn c2', .slice none 0 0] 118)
      rw [World.size_alloc] at hbx
      have hown := HST9.out.own
      unfold Recs at hown
      rw [HLEN.out] at hown
      have HOWN := Lib.hid hown
      have HBX := Lib.hid hbx
      have HSZ := Lib.hid HST9.out.b.size
      clear hA1 hA2 HST7 HST8 hown hbx
      go_wp2_with (at_builtin; refine wpList_push rfl _ _ 93 118 6 96 _ rfl Tryz.underlying93 info118 rfl (by decide) _ w.heap.size _ (.slice A' i c') i (recCells rs) [.int .i64 (v27 + dt), .bool false, .slice A1 kn c1', .bool false, .slice A2 vn c2', .slice none 0 0] rfl rfl HBX.out rfl rfl HOWN.out (by simp only [maxLen]; omega) (by omega) HSZ.out ?_; intro v8 w8 hown8 ht8 hs8; obtain ⟨A8, c8, rfl⟩ := hown8.slice; have HO8 := Lib.hid hown8; have HT8 := Lib.hid ht8; have x7 := ht8.keep HST9.out.x7 (fun e => Owns_ne HOWN.out HST9.out.x7 (by decide) _ e rfl); have X7 := Lib.hid x7; have q7 := blk_cell x7 5; have f7 := blk_frozen x7 5; clear hown8 ht8 hs8 x7)
      have t9 := Tch.set (S := fun k => k = b7) w8 ⟨b7, 5, none⟩ (.slice A8 (i + 1) c8) rfl
      have hb8 : Below w.heap.size w w8 := HST9.out.b.trans (HT8.out.below HST9.out.b.size (fun k hk => (HOWN.out.lt k hk).1))
      have x2 := HT8.out.keep HST9.out.x2 (fun e => Owns_ne HOWN.out HST9.out.x2 (by decide) _ e rfl)
      have x4 := HT8.out.keep HST9.out.x4 (fun e => Owns_ne HOWN.out HST9.out.x4 (by decide) _ e rfl)
      have hrl : (rs ++ [(⟨v27 + dt, A1, kn, c1', A2, vn, c2'⟩ : PRec)]).length = i + 1 := by rw [List.length_append, HLEN.out]; rfl
      have hown9 : Recs (w8.setCell ⟨b7, 5, none⟩ (.slice A8 (i + 1) c8)) w.heap.size (.slice A8 (i + 1) c8) (rs ++ [(⟨v27 + dt, A1, kn, c1', A2, vn, c2'⟩ : PRec)]) := by
        unfold Recs
        rw [hrl, recCells_snoc]
        exact Owns_tch HO8.out t9 (fun k hk e => Owns_ne HO8.out X7.out (by decide) k hk e)
      have HSTn : Hid (DecSt w (w8.setCell ⟨b7, 5, none⟩ (.slice A8 (i + 1) c8)) w.heap.size b4 b7 #[.int .i64 v0, .int .i64 (n : Int), .int .i32 v12, .bool false, .int .i64 (N : Int), .int .i64 v27, .int .i64 v35, .int .i64 v43, .int .i16 v51, .int .i32 v53] v0 v12 v43 v51 v53 (.slice A8 (i + 1) c8) (rs ++ [(⟨v27 + dt, A1, kn, c1', A2, vn, c2'⟩ : PRec)])) :=
        ⟨hb8.trans (t9.below hb8.size (fun k hk => by rw [hk]; exact HST9.out.l7)), t9.keep x2 HST9.out.n27, t9.keep x4 (blk_ne x4 X7.out (by decide)), blk_put X7.out 5 _ rfl, hown9, HST9.out.l2, HST9.out.l4, HST9.out.l7, HST9.out.n27⟩
      have HTn : Hid ((rs ++ [(⟨v27 + dt, A1, kn, c1', A2, vn, c2'⟩ : PRec)]).map (·.t) = ts.take (i + 1)) := by
        show _ = _
        rw [List.map_append, HT.out, HTK.out]
        rfl
      clear t9 hb8 x2 x4 hrl hown9
      go_roundw
      case rel => exact ⟨i + 1, q + k, A8, c8, _, by go_num, by go_num, by omega, HRW.out, HTn.out, HSTn.out⟩
      case measure => simp [intOf]; omega
    · have hiN : i = N := by omega
      subst hiN
      have hr := HR.out
      rw [List.drop_eq_nil_of_le (by have := HN.out; omega)] at hr
      have hat : at_ = m := by
        cases hr
        exact HBL.out
      subst hat
      have hlen : rs.length = i := by
        have := congrArg List.length HT.out
        rw [List.length_map, List.length_take] at this
        have h2 := HN.out
        omega
      have HLEN := Lib.hid hlen
      have htt : rs.map (·.t) = ts := by rw [HT.out, List.take_of_length_le (by have := HN.out; omega)]
      have HTT := Lib.hid htt
      obtain ⟨r0, hr0⟩ : ∃ r0, rs[0]? = some r0 := ⟨_, List.getElem?_eq_getElem (by omega)⟩
      have HLST : Hid (∀ W, Below wr.heap.size wr W → Calls Tryz.prog 119 #[.slice A' i c'] W fun r w' => Below W.heap.size W w' ∧ r = .returned (.int .i64 (lastT rs))) := fun W hW =>
        last_ok W w.heap.size A' i c' rs r0 (by have := (HST.out.new hW).own; unfold Recs at this; rw [hlen] at this; unfold Recs; rw [hlen]; exact this) hlen hr0 (by omega)
      have hlast : lastT rs = v35 := by rw [lastT_map, htt]; exact HLAST.out
      rw [hlast] at HLST
      clear hr hlen htt hr0 hlast HR
      have y5 : wr.cell? ⟨b7, 5, none⟩ = some (.slice A' i c') := blk_cell HST.out.x7 5
      have y6 : wr.cell? ⟨b4, 6, none⟩ = some (.int .i64 v35) := blk_cell HST.out.x4 6
      go_wp2_with fail
      go_region_with (go_at_call 119; refine (HLST.out _ (below_drew (Below.refl _ _))).mono ?_; rintro r w9 ⟨hb9, rfl⟩; have HST9 := Lib.hid (HST.out.new ((below_drew (Below.refl _ _)).trans hb9)); have z6 : w9.cell? ⟨b4, 6, none⟩ = some (.int .i64 v35) := blk_cell HST9.out.x4 6; clear hb9)
      all_goals
        have g0 : w9.cell? ⟨b7, 0, none⟩ = some (.int .i64 v0) := blk_cell HST9.out.x7 0
        have k0 : w9.cell? ⟨w.heap.size, 0, none⟩ = some (.int .i64 0) := blk_cell HST9.out.x2 0
        have f0 : w9.frozen? ⟨w.heap.size, 0, none⟩ = false := blk_frozen HST9.out.x2 0
        have g1 : w9.cell? ⟨b7, 1, none⟩ = some (.int .i32 v12) := blk_cell HST9.out.x7 1
        have k1 : w9.cell? ⟨w.heap.size, 1, none⟩ = some (.int .i32 0) := blk_cell HST9.out.x2 1
        have f1 : w9.frozen? ⟨w.heap.size, 1, none⟩ = false := blk_frozen HST9.out.x2 1
        have g2 : w9.cell? ⟨b7, 2, none⟩ = some (.int .i64 v43) := blk_cell HST9.out.x7 2
        have k2 : w9.cell? ⟨w.heap.size, 2, none⟩ = some (.int .i64 0) := blk_cell HST9.out.x2 2
        have f2 : w9.frozen? ⟨w.heap.size, 2, none⟩ = false := blk_frozen HST9.out.x2 2
        have g3 : w9.cell? ⟨b7, 3, none⟩ = some (.int .i16 v51) := blk_cell HST9.out.x7 3
        have k3 : w9.cell? ⟨w.heap.size, 3, none⟩ = some (.int .i16 0) := blk_cell HST9.out.x2 3
        have f3 : w9.frozen? ⟨w.heap.size, 3, none⟩ = false := blk_frozen HST9.out.x2 3
        have g4 : w9.cell? ⟨b7, 4, none⟩ = some (.int .i32 v53) := blk_cell HST9.out.x7 4
        have k4 : w9.cell? ⟨w.heap.size, 4, none⟩ = some (.int .i32 0) := blk_cell HST9.out.x2 4
        have f4 : w9.frozen? ⟨w.heap.size, 4, none⟩ = false := blk_frozen HST9.out.x2 4
        have g5 : w9.cell? ⟨b7, 5, none⟩ = some (.slice A' i c') := blk_cell HST9.out.x7 5
        have k5 : w9.cell? ⟨w.heap.size, 5, none⟩ = some (.slice none 0 0) := blk_cell HST9.out.x2 5
        have f5 : w9.frozen? ⟨w.heap.size, 5, none⟩ = false := blk_frozen HST9.out.x2 5
        go_wp2_with fail
        have h0 : w9.heap[w.heap.size]? = some (.cells [.int .i64 0, .int .i32 0, .int .i64 0, .int .i16 0, .int .i32 0, .slice none 0 0].toArray 95 (0, 0)) := HST9.out.x2
        have h7 := puts_all h0 [.int .i64 v0, .int .i32 v12, .int .i64 v43, .int .i16 v51, .int .i32 v53, .slice A' i c'] rfl
        have t6 := puts_tch w.heap.size [.int .i64 v0, .int .i32 v12, .int .i64 v43, .int .i16 v51, .int .i32 v53, .slice A' i c'] 0 w9
        have t7 : Below w.heap.size w (puts w9 w.heap.size 0 [.int .i64 v0, .int .i32 v12, .int .i64 v43, .int .i16 v51, .int .i32 v53, .slice A' i c']) := HST9.out.b.trans (t6.below HST9.out.b.size (fun i hi => Nat.le_of_eq hi.symm))
        have hown := Owns_tch HST9.out.own t6 (fun k hk e => Owns_ne HST9.out.own HST9.out.x2 (by decide) k hk e)
        have hres := run_loadVar_row _ w.heap.size 95 95 _ _ _ h7 Tryz.underlying95 rfl (by kernel_rfl)
        simp only [puts, Nat.reduceAdd, Nat.zero_add] at hres t7 hown
        refine bodyPost_ret (results_ct (p := 2) (u := 3) (ty := 95) rfl _ _ w.heap.size _ rfl hres) rfl ?_
        refine ⟨t7, A', c', rs, ?_, ?_, HTT.out⟩
        · rw [← HN.out]; rfl
        · rw [← HN.out]; exact hown
end Go.Proofs.YtciikcmiiebfpaaGreatDoor
