/- (*Disk).enter: a file more. -/
import Derived.Test.YtkhopknpadncdaaBadN
import Derived.Test.YtkhopknpadncdaaRemove1
namespace Go.Proofs.Ytkhopknpadncdaa
open Go Go.RowKit Go.Maps Go.Proofs.YtkhopknpadncdaaW.PrintWords Go.Proofs.Ytkhopknpadncdaa.PDiskMemory Go.Proofs.YtkhopknpadncdaaW.PrintMore
set_option linter.unusedVariables false

/-- A new file: both its rows are new; whichever was made first. -/
theorem file_new {w wA wB : World} {O : Nat → Own} {x : Nm} {vA vB : Value} {b : List Int} (hA : RB wA (fun k => w.heap.size ≤ k) vA b) (hAB : Below wA.heap.size wA wB) (hB : RB wB (fun k => wA.heap.size ≤ k) vB b) (hw : w.heap.size ≤ wA.heap.size) {w5 : World} {m : Nat}
    (hg : (wB.alloc (.cells #[vA, vB, .slice none 0 0] 89)).grownBy w5 (some m)) (hm : m < w.heap.size) :
    File w5 (paint (paint (paint O w.heap.size wA.heap.size (.safe x)) wA.heap.size wB.heap.size (.seen x)) wB.heap.size (wB.heap.size + 1) (.file x)) x wB.heap.size ⟨b, b, []⟩ := by
  have hz := hAB.size
  have hs : (wB.alloc (.cells #[vA, vB, .slice none 0 0] 89)).heap.size = wB.heap.size + 1 := World.size_alloc _ _
  have keep : ∀ k, k < wB.heap.size → k ≠ m → w5.heap[k]? = wB.heap[k]? := fun k hk hn => (hg.block k (by omega) (fun e => hn (Option.some.inj e))).trans (((Below.refl wB.heap.size wB).alloc (Nat.le_refl _) _).block k hk)
  refine ⟨vA, vB, .slice none 0 0, ⟨(hg.block wB.heap.size (by omega) (fun e => by have := Option.some.inj e; omega)).trans (heap_alloc_new _ _), paint_new (Nat.le_refl _) (Nat.lt_succ_self _), ?_, ?_, Kd.R_nil _ _ _ _ _⟩⟩
  · refine Kd.R_mono (Kd.R_step (Kd.R_bound hA) (w1 := w5) (fun k hk hl => ?_)) (fun k hk => ?_)
    · have h1 : w.heap.size ≤ k := hk.1
      exact (keep k (by omega) (by omega)).trans (hAB.block k hl)
    · have h1 : w.heap.size ≤ k := hk.1
      have h2 := hk.2.2.1
      show paint (paint (paint O w.heap.size wA.heap.size (.safe x)) wA.heap.size wB.heap.size (.seen x)) wB.heap.size (wB.heap.size + 1) (.file x) k = _
      rw [paint_old (by omega), paint_old (by omega), paint_new h1 h2]
  · refine Kd.R_mono (Kd.R_step (Kd.R_bound hB) (w1 := w5) (fun k hk hl => ?_)) (fun k hk => ?_)
    · have h1 : wA.heap.size ≤ k := hk.1
      exact keep k hl (by omega)
    · have h1 : wA.heap.size ≤ k := hk.1
      have h2 := hk.2.2.1
      show paint (paint (paint O w.heap.size wA.heap.size (.safe x)) wA.heap.size wB.heap.size (.seen x)) wB.heap.size (wB.heap.size + 1) (.file x) k = _
      rw [paint_old (by omega), paint_new h1 h2]
theorem file_new2 {w wA wB : World} {O : Nat → Own} {x : Nm} {vA vB : Value} {b : List Int} (hA : RB wA (fun k => w.heap.size ≤ k) vA b) (hAB : Below wA.heap.size wA wB) (hB : RB wB (fun k => wA.heap.size ≤ k) vB b) (hw : w.heap.size ≤ wA.heap.size) {w5 : World} {m : Nat}
    (hg : (wB.alloc (.cells #[vB, vA, .slice none 0 0] 89)).grownBy w5 (some m)) (hm : m < w.heap.size) :
    File w5 (paint (paint (paint O w.heap.size wA.heap.size (.seen x)) wA.heap.size wB.heap.size (.safe x)) wB.heap.size (wB.heap.size + 1) (.file x)) x wB.heap.size ⟨b, b, []⟩ := by
  have hz := hAB.size
  have hs : (wB.alloc (.cells #[vB, vA, .slice none 0 0] 89)).heap.size = wB.heap.size + 1 := World.size_alloc _ _
  have keep : ∀ k, k < wB.heap.size → k ≠ m → w5.heap[k]? = wB.heap[k]? := fun k hk hn => (hg.block k (by omega) (fun e => hn (Option.some.inj e))).trans (((Below.refl wB.heap.size wB).alloc (Nat.le_refl _) _).block k hk)
  refine ⟨vB, vA, .slice none 0 0, ⟨(hg.block wB.heap.size (by omega) (fun e => by have := Option.some.inj e; omega)).trans (heap_alloc_new _ _), paint_new (Nat.le_refl _) (Nat.lt_succ_self _), ?_, ?_, Kd.R_nil _ _ _ _ _⟩⟩
  · refine Kd.R_mono (Kd.R_step (Kd.R_bound hB) (w1 := w5) (fun k hk hl => ?_)) (fun k hk => ?_)
    · have h1 : wA.heap.size ≤ k := hk.1
      exact keep k hl (by omega)
    · have h1 : wA.heap.size ≤ k := hk.1
      have h2 := hk.2.2.1
      show paint (paint (paint O w.heap.size wA.heap.size (.seen x)) wA.heap.size wB.heap.size (.safe x)) wB.heap.size (wB.heap.size + 1) (.file x) k = _
      rw [paint_old (by omega), paint_new h1 h2]
  · refine Kd.R_mono (Kd.R_step (Kd.R_bound hA) (w1 := w5) (fun k hk hl => ?_)) (fun k hk => ?_)
    · have h1 : w.heap.size ≤ k := hk.1
      exact (keep k (by omega) (by omega)).trans (hAB.block k hl)
    · have h1 : w.heap.size ≤ k := hk.1
      have h2 := hk.2.2.1
      show paint (paint (paint O w.heap.size wA.heap.size (.seen x)) wA.heap.size wB.heap.size (.safe x)) wB.heap.size (wB.heap.size + 1) (.file x) k = _
      rw [paint_old (by omega), paint_old (by omega), paint_new h1 h2]

/-- A file is stored under a name. -/
theorem da_store {w w' : World} {d m : Nat} {O O' : Nat → Own} {k : Dk} {N : Nat} {pv : Value} {Z : List (Nm × (Nat × Fil))} {x : Nm} {p : Nat} {f : Fil} (h : DA w d m O k N pv Z) (hm : ML w' m (put (mapV (·.1) Z) x p)) (hF : File w' O' x p f) (hO : ∀ b, b < w.heap.size → O' b = O b)
    (hs : w.heap.size ≤ w'.heap.size) (hb : ∀ b, b < w.heap.size → b ≠ m → w'.heap[b]? = w.heap[b]?) (hlt : ∀ b, O' b ≠ .none → b < w'.heap.size) (hok : Dk.ok { k with files := put k.files x f } N) :
    DA w' d m O' { k with files := put k.files x f } N pv (put Z x (p, f)) := by
  have ne : ∀ b c, O b = c → c ≠ .map → b ≠ m := fun b c ho hc e => hc (by rw [← ho, e]; exact h.om)
  have ld := blk_lt h.blk
  refine ⟨(hb d ld (ne d _ h.od Own.noConfusion)).trans h.blk, (hO d ld).trans h.od, (hO m h.mp.lt).trans h.om, by rw [mapV_put]; exact hm, R_own h.plan (fun b hl ho => (hO b hl).trans ho) (fun b hl ho => hb b hl (ne b _ ho Own.noConfusion)), by rw [mapV_put, ← h.files], fun y q g hy => ?_, hlt, hok⟩
  rcases mem_put.1 hy with e | ⟨hy, hne⟩
  · injection e with e1 e2
    injection e2 with e2 e3
    subst e1 e2 e3
    exact hF
  · refine ((h.file y q g hy).own_ (fun b hl => hO b hl)).step (fun b hl ho => hb b hl (fun e => ?_))
    rw [hO b hl, e, h.om] at ho
    rcases ho with ho | ho | ho | ho <;> cases ho
/-- Three paints beyond a heap. -/
theorem paint3_old {O : Nat → Own} {a b c e : Nat} {c1 c2 c3 : Own} (h1 : a ≤ b) (h2 : b ≤ c) {k : Nat} (hk : k < a) : paint (paint (paint O a b c1) b c c2) c e c3 k = O k := by
  rw [paint_old (by omega), paint_old (by omega), paint_old hk]
theorem paint3_lt {O : Nat → Own} {a b c e n : Nat} {c1 c2 c3 : Own} (hO : ∀ k, O k ≠ .none → k < n) (h0 : n ≤ e) (h1 : b ≤ e) (h2 : c ≤ e) {k : Nat} (hk : paint (paint (paint O a b c1) b c c2) c e c3 k ≠ .none) : k < e := by
  unfold paint at hk
  split at hk
  · omega
  · split at hk
    · omega
    · split at hk
      · omega
      · have := hO k hk; omega
theorem paint3_foot {S : Nat → Prop} {O : Nat → Own} {a b c e : Nat} {c1 c2 c3 : Own} (hS : ∀ b, S b ↔ O b ≠ .none) (h1 : a ≤ b) (h2 : b ≤ c) (k : Nat) (hk : paint (paint (paint O a b c1) b c c2) c e c3 k ≠ .none) : S k ∨ a ≤ k := by
  by_cases hl : k < a
  · rw [paint3_old h1 h2 hl] at hk; exact .inl ((hS k).2 hk)
  · exact .inr (by omega)

/-- What the store of a new file leaves. -/
def Stored (w : World) (d N : Nat) (S : Nat → Prop) (k : Dk) (wx : World) : Prop := ∃ S', Disk wx d S' k N ∧ Tch S w wx ∧ ∀ b, S' b → S b ∨ w.heap.size ≤ b
theorem enter_end {w w0 wA wB w5 : World} {d m N : Nat} {O : Nat → Own} {k : Dk} {pv : Value} {Z : List (Nm × (Nat × Fil))} {S : Nat → Prop} {x : Nm} {vA vB v1 v2 : Value} {b : List Int} (h : DA w d m O k N pv Z) (hS : ∀ b, S b ↔ O b ≠ .none) (hb : Below w.heap.size w w0)
    (hA : RB wA (fun k => w0.heap.size ≤ k) vA b) (hbA : Below w0.heap.size w0 wA) (hB : RB wB (fun k => wA.heap.size ≤ k) vB b) (hbB : Below wA.heap.size wA wB) (hv : (v1 = vA ∧ v2 = vB) ∨ (v1 = vB ∧ v2 = vA))
    (hm5 : ML w5 m (put (mapV (·.1) Z) x wB.heap.size)) (hg5 : (wB.alloc (.cells #[v1, v2, .slice none 0 0] 89)).grownBy w5 (some m)) (hok : Dk.ok { k with files := put k.files x ⟨b, b, []⟩ } N) :
    Stored w d N S { k with files := put k.files x ⟨b, b, []⟩ } w5 := by
  have z1 := hb.size
  have z2 := hbA.size
  have z3 := hbB.size
  have hml := h.mp.lt
  have hs : (wB.alloc (.cells #[v1, v2, .slice none 0 0] 89)).heap.size = wB.heap.size + 1 := World.size_alloc _ _
  have z5 := hg5.size
  have hBall : Below w.heap.size w (wB.alloc (.cells #[v1, v2, .slice none 0 0] 89)) := (((hb.trans (hbA.mono z1)).trans (hbB.mono (by omega)))).alloc (by omega) _
  have hkeep : ∀ b, b < w.heap.size → b ≠ m → w5.heap[b]? = w.heap[b]? := fun b hl hn => (hg5.block b (by omega) (fun e => hn (Option.some.inj e))).trans (hBall.block b hl)
  have hT : Tch S w w5 := (Tch.of_below hBall).trans (some_m hg5 ((hS m).2 (by rw [h.om]; exact Own.noConfusion)))
  rcases hv with ⟨e1, e2⟩ | ⟨e1, e2⟩
  · subst e1 e2
    exact ⟨_, ⟨m, _, pv, _, da_store h hm5 (file_new (O := O) (x := x) hA hbB hB z2 hg5 (by omega)) (fun b hl => paint3_old z2 z3 (by omega)) (by omega) hkeep (fun b hb => Nat.lt_of_lt_of_le (paint3_lt h.lt (by omega) (by omega) (by omega) hb) (show wB.heap.size + 1 ≤ w5.heap.size by omega)) hok, fun b => Iff.rfl⟩, hT, fun b hb => (paint3_foot hS z2 z3 b hb).imp_right (fun h => by omega)⟩
  · subst e1 e2
    exact ⟨_, ⟨m, _, pv, _, da_store h hm5 (file_new2 (O := O) (x := x) hA hbB hB z2 hg5 (by omega)) (fun b hl => paint3_old z2 z3 (by omega)) (by omega) hkeep (fun b hb => Nat.lt_of_lt_of_le (paint3_lt h.lt (by omega) (by omega) (by omega) hb) (show wB.heap.size + 1 ≤ w5.heap.size by omega)) hok, fun b => Iff.rfl⟩, hT, fun b hb => (paint3_foot hS z2 z3 b hb).imp_right (fun h => by omega)⟩
/-- 'm[k] = v' in a region that draws. -/
theorem step_put {ops : Array Oper} {o : Oper} {a : Act} {K : Act → World → Prop} {Q : Exit → Act → World → Prop} {E : Prop} (w : World) (hg : o.guard = none) (m x v : Operand) (hop : o.op = Op.mapUpdate 75 m x v)
    (b : Nat) (L : List (Nm × Nat)) (hm : a.eval m = .map (some b)) (hown : ML w b L) (hn : L.length < maxLen) (s : ByteArray) (hs : s.size ≤ maxLen) (hx : a.eval x = .string s) (p : Nat) (hv : a.eval v = .pointer (some ⟨p, 0, none⟩))
    (hK : ∀ w', ML w' b (put L s.data.toList p) → w.grownBy w' (some b) → K (a.put o.dst undef) w') :
    if Region.wanted o (yielded ops a.tmps) = true then Oper.wp Try.prog o a w K Q else E := by
  rw [if_pos (by simp [Region.wanted, hg])]
  obtain ⟨w', hrun, r1, r2⟩ := hown.put_run hn hs p
  unfold fptr at hrun
  unfold Oper.wp
  simp [execOp, hop, hm, hx, hv, hrun, Result.andThen]
  exact hK w' r1 r2

theorem put_box {w wB : World} {d m N : Nat} {O : Nat → Own} {k : Dk} {pv : Value} {Z : List (Nm × (Nat × Fil))} (h : DA w d m O k N pv Z) (hb : Below w.heap.size w wB) (hl : k.files.length < maxLen) {s : ByteArray} (hs : s.size ≤ maxLen) (v1 v2 : Value) :
    ∃ w', (Instr.mapUpdate 75 (.map (some m)) (.string s) (.pointer (some ⟨wB.heap.size, 0, none⟩))).run Try.prog (wB.alloc (.cells #[v1, v2, .slice none 0 0] 89)) = .ok () w' ∧ ML w' m (put (mapV (·.1) Z) s.data.toList wB.heap.size) ∧ (wB.alloc (.cells #[v1, v2, .slice none 0 0] 89)).grownBy w' (some m) :=
  (h.below (hb.alloc hb.size _)).mp.put_run (by rw [mapV_length, ← mapV_length (·.2) Z, ← h.files]; exact hl) hs wB.heap.size
theorem enter_ok {k : Dk} {N : Nat} {x : Nm} {b : List Int} (h : k.ok N) (hx : badN x = false) (hn : ¬ 256 ≤ k.files.length) (hl : look k.files x = none) (hb : Byt b) (hbl : b.length ≤ big) : Dk.ok { k with files := put k.files x ⟨b, b, []⟩ } N := by
  refine ⟨fun p hp => ?_, h.2.1, h.2.2.1, ?_, h.2.2.2.2⟩
  · rcases mem_put.1 hp with e | ⟨hp, _⟩
    · subst e
      refine ⟨Wf.refl hbl hb, Nat.zero_le _, ?_⟩
      unfold badN at hx
      simp only [Bool.or_eq_false_iff, decide_eq_false_iff_not] at hx
      simp only
      omega
    · exact h.1 p hp
  · show (put k.files x _).length ≤ 256
    unfold put
    rw [ins_length, del_of_none hl]
    omega

set_option maxRecDepth 100000 in
set_option maxHeartbeats 2000000 in
theorem enter_any (w : World) (d N : Nat) (S : Nat → Prop) (k : Dk) (s : ByteArray) (A : Option Addr) (n c : Nat) (b : List Int) (h : Disk w d S k N) (hs : s.size ≤ maxLen)
    (hC : ∀ W, Below w.heap.size w W → (Kd.int .u8).C W A n b) (hb : Byt b) (hbl : n ≤ big) :
    Calls Try.prog 47 #[.pointer (some ⟨d, 0, none⟩), .string s, .slice A n c] w (SPost S d N w (enterD k s.data.toList b)) := by
  obtain ⟨m, O, pv, Z, h, hS⟩ := h
  have HD := Lib.hid (show Disk w d S k N from ⟨m, O, pv, Z, h, hS⟩)
  have H := Lib.hid h
  have HS := Lib.hid hS
  have HC := Lib.hid hC
  have HB := Lib.hid hb
  have HLF := Lib.hid (h.look_files s.data.toList)
  have HBN := Lib.hid (bad_any s w)
  have hnl := (hC w (Below.refl _ _)).1
  have HNL := Lib.hid hnl
  have hdl := h.cells.2
  obtain ⟨q, hq⟩ : ∃ q, q = badN s.data.toList := ⟨_, rfl⟩
  rw [← hq] at HBN
  have HQ := Lib.hid hq
  clear h hS hC hb hnl hq
  cases q with
  | true =>
    have HR : Hid (enterD k s.data.toList b = (k, 40)) := by show _ = _; unfold enterD; rw [if_pos HQ.out.symm]
    go_enter Try.func47, Try.ntmps47
    go_wp2_with (go_at_call 68; refine HBN.out.mono ?_; rintro e w1 ⟨rfl, hb1⟩)
    go_ret
    rw [HR.out]
    exact ⟨S, rfl, HD.out.below hb1, Tch.of_below hb1, fun b hb => .inl hb⟩
  | false =>
    cases hz : look Z s.data.toList with
    | some pf =>
      obtain ⟨p, f⟩ := pf
      have HR : Hid (enterD k s.data.toList b = (k, 184)) := by show _ = _; unfold enterD; rw [if_neg (by rw [← HQ.out]; decide), HLF.out, hz]; rfl
      have HLK : Hid (∀ W, Below w.heap.size w W → (Instr.lookup 75 (.map (some m)) (.string s) false).run Try.prog W = .ok (.pointer (some ⟨p, 0, none⟩)) W) := fun W hW => by
        have := (H.out.below hW).mp.look_run hs
        rw [look_mapV, hz] at this
        exact this
      clear hz
      go_enter Try.func47, Try.ntmps47
      go_wp2_with (go_at_call 68; refine HBN.out.mono ?_; rintro e w1 ⟨rfl, hb1⟩; have lk := HLK.out w1 hb1; obtain ⟨⟨c0, _⟩, hdl1⟩ := (H.out.below hb1).cells)
      go_ret
      rw [HR.out]
      exact ⟨S, rfl, HD.out.below hb1, Tch.of_below hb1, fun b hb => .inl hb⟩
    | none =>
      have HLK : Hid (∀ W, Below w.heap.size w W → (Instr.lookup 75 (.map (some m)) (.string s) false).run Try.prog W = .ok (.pointer none) W) := fun W hW => by
        have := (H.out.below hW).mp.look_run hs
        rw [look_mapV, hz] at this
        exact this
      have hlf : look k.files s.data.toList = none := by rw [HLF.out, hz]; rfl
      obtain ⟨L, hL⟩ : ∃ L, L = k.files.length := ⟨_, rfl⟩
      have HL := Lib.hid hL
      have HLN : Hid (∀ W ty, Below w.heap.size w W → (Builtin.len_ #[75] ty #[.map (some m)]).run Try.prog W = .ok (.int .i64 L) W) := fun W ty hW => by
        have := (H.out.below hW).mp.len_run ty
        rw [mapV_length, ← mapV_length (·.2) Z, ← H.out.files, ← hL] at this
        exact this
      have HLF2 := Lib.hid hlf
      clear hz hlf hL
      by_cases hm : 256 ≤ L
      · have hm2 : decide ((256 : Int) ≤ (L : Int)) = true := decide_eq_true (by omega)
        have HR : Hid (enterD k s.data.toList b = (k, 9)) := by show _ = _; unfold enterD; rw [if_neg (by rw [← HQ.out]; decide), HLF2.out, if_neg (by decide), if_pos (by rw [← HL.out]; exact hm)]
        clear hm
        go_enter Try.func47, Try.ntmps47
        go_wp2_with (go_at_call 68; refine HBN.out.mono ?_; rintro e w1 ⟨rfl, hb1⟩; have lk := HLK.out w1 hb1; have ln := fun ty => HLN.out w1 ty hb1; obtain ⟨⟨c0, _⟩, hdl1⟩ := (H.out.below hb1).cells)
        go_ret
        rw [HR.out]
        exact ⟨S, rfl, HD.out.below hb1, Tch.of_below hb1, fun b hb => .inl hb⟩
      · have hm2 : decide ((256 : Int) ≤ (L : Int)) = false := decide_eq_false (by omega)
        have HR : Hid (enterD k s.data.toList b = ({ k with files := put k.files s.data.toList ⟨b, b, []⟩ }, 0)) := by show _ = _; unfold enterD; rw [if_neg (by rw [← HQ.out]; decide), HLF2.out, if_neg (by decide), if_neg (by rw [← HL.out]; exact hm)]
        have HOK := Lib.hid (enter_ok H.out.ok HQ.out.symm (by rw [← HL.out]; exact hm) HLF2.out HB.out (by rw [HNL.out]; exact hbl))
        clear hm
        go_enter Try.func47, Try.ntmps47
        go_upto_region 7 with (go_at_call 68; refine HBN.out.mono ?_; rintro e w1 ⟨rfl, hb1⟩; have lk := HLK.out w1 hb1; have ln := fun ty => HLN.out w1 ty hb1; obtain ⟨⟨c0, _⟩, hdl1⟩ := (H.out.below hb1).cells; have HB1 := Lib.hid hb1)
        have HD1 : Hid (Below w.heap.size w w1.drew) := HB1.out.trans (below_drew (Below.refl _ _))
        have hd := HD1.out
        have HNL2 : Hid (n * 1 ≤ 140737488355328) := by show _ ≤ _; unfold big at hbl; omega
        have hLL : Hid (k.files.length < maxLen) := by show _ < _; have := H.out.ok.2.2.2.1; unfold maxLen; omega
        have tok1 : True := trivial
        clear lk ln
        go_cut [] from 25 to 35 (fun wx => Stored w d N S { k with files := put k.files s.data.toList ⟨b, b, []⟩ } wx)
        case first =>
          go_region_law (first
            | (go_simp; go_at_call 58; have _t := tok1; refine (clone_bytes A n c b _ (HC.out _ HD1.out) HNL2.out).mono ?_; rintro r wA ⟨vA, rfl, hv, hb⟩; obtain ⟨N5, B5, q5, rfl⟩ : ∃ n A q, vA = .slice A n q := (by obtain ⟨A_, q_, e_⟩ := Kd.R_slice hv; exact ⟨_, A_, q_, e_⟩); have HVA := Lib.hid hv; have HBA := Lib.hid hb; have hBA : Hid (Below w.heap.size w wA) := HD1.out.trans (hb.mono HD1.out.size); obtain ⟨⟨c0, _⟩, hdl2⟩ := (H.out.below hBA.out).cells; clear hv hb tok1 _t)
            | (go_simp; go_at_call 58; refine (clone_bytes A n c b _ (HC.out _ hBA.out) HNL2.out).mono ?_; rintro r wB ⟨vB, rfl, hv, hb⟩; obtain ⟨N6, B6, q6, rfl⟩ : ∃ n A q, vB = .slice A n q := (by obtain ⟨A_, q_, e_⟩ := Kd.R_slice hv; exact ⟨_, A_, q_, e_⟩); have HVB := Lib.hid hv; have HBB := Lib.hid hb; have hBB : Hid (Below w.heap.size w wB) := hBA.out.trans (hb.mono hBA.out.size); obtain ⟨⟨c0, _⟩, hdl2⟩ := (H.out.below hBB.out).cells; obtain ⟨wx, hrx, hmx, hgx⟩ := put_box H.out hBB.out hLL.out hs (.slice B5 N5 q5) (.slice B6 N6 q6); obtain ⟨wy, hry, hmy, hgy⟩ := put_box H.out hBB.out hLL.out hs (.slice B6 N6 q6) (.slice B5 N5 q5); have HEX := Lib.hid (enter_end H.out HS.out HD1.out HVA.out HBA.out HVB.out HBB.out (.inl ⟨rfl, rfl⟩) hmx hgx HOK.out); have HEY := Lib.hid (enter_end H.out HS.out HD1.out HVA.out HBA.out HVB.out HBB.out (.inr ⟨rfl, rfl⟩) hmy hgy HOK.out); clear hv hb hmx hgx hmy hgy))
          all_goals
            go_wp2_with fail
            go_meet
            first | exact HEX.out | exact HEY.out
        case rest =>
        obtain ⟨S', hD5, hT5, hS5⟩ := hcut
        have HD5 := Lib.hid hD5
        clear hD5
        go_wp2_with fail
        go_ret
        rw [HR.out]
        exact ⟨S', rfl, HD5.out, hT5, hS5⟩
end Go.Proofs.Ytkhopknpadncdaa
