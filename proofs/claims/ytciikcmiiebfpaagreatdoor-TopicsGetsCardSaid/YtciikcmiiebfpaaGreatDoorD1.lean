/- D1: M, C, Fate, Step, File, one text (a claim holds at most 60 files). -/
import Derived.Test.YtciikcmiiebfpaaGreatDoorP
import Derived.Test.YtciikcmiiebfpaaGreatDoorPTopicsGetsx0
import Derived.Test.YtciikcmiiebfpaaGreatDoorChecked
import Derived.WalkLawsBesides
import Derived.WalkSpells
import Derived.Deep.DeepMust
import Derived.Deep.RegionWith
import Derived.Laws.EntriesVeiled
import Derived.Lib.Hide
import Derived.IntWalk
import Derived.Maps.Own
import Derived.Maps.OwnOps
import Derived.Maps.OwnSet
import Derived.Maps.Views
import Derived.Maps.RangeWalk
import Derived.Sort.KeysCollected
import Derived.StringKeys
import Derived.Deep.AppendLies
import Derived.Deep.CutRange

/- M -/
section
/- A disk in memory: a map keyed by names as a list; the files; what a call may touch. -/
namespace Go.Proofs.YtciikcmiiebfpaaGreatDoor
open Go Go.RowKit Go.Maps Go.WideMaps Go.Proofs.YtciikcmiiebfpaaGreatDoorW.PrintWords Go.Proofs.YtciikcmiiebfpaaGreatDoor.PTopicsGets
set_option linter.unusedVariables false

/-- Whatever is not in S is as it was. -/
structure Tch (S : Nat → Prop) (w w' : World) : Prop where
  os : w'.os = w.os
  tape : w'.tape = w.tape
  output : w'.output = w.output
  size : w.heap.size ≤ w'.heap.size
  block : ∀ k, k < w.heap.size → ¬ S k → w'.heap[k]? = w.heap[k]?
theorem Tch.refl (S : Nat → Prop) (w : World) : Tch S w w := ⟨rfl, rfl, rfl, Nat.le_refl _, fun _ _ _ => rfl⟩
theorem Tch.of_below {S : Nat → Prop} {w w' : World} (h : Below w.heap.size w w') : Tch S w w' := ⟨h.os, h.tape, h.output, h.size, fun k hk _ => h.block k hk⟩
theorem Tch.trans {S : Nat → Prop} {a b c : World} (h : Tch S a b) (k : Tch S b c) : Tch S a c :=
  ⟨k.os.trans h.os, k.tape.trans h.tape, k.output.trans h.output, Nat.le_trans h.size k.size, fun i hi hn => (k.block i (Nat.lt_of_lt_of_le hi h.size) hn).trans (h.block i hi hn)⟩
/-- What is touched next may be new. -/
theorem Tch.then_ {S T : Nat → Prop} {a b c : World} (h : Tch S a b) (k : Tch T b c) (hs : ∀ i, T i → S i ∨ a.heap.size ≤ i) : Tch S a c :=
  ⟨k.os.trans h.os, k.tape.trans h.tape, k.output.trans h.output, Nat.le_trans h.size k.size, fun i hi hn => (k.block i (Nat.lt_of_lt_of_le hi h.size) (fun ht => (hs i ht).elim hn (fun h2 => by omega))).trans (h.block i hi hn)⟩
theorem Tch.mono {S T : Nat → Prop} {w w' : World} (h : Tch S w w') (hS : ∀ k, S k → T k) : Tch T w w' := ⟨h.os, h.tape, h.output, h.size, fun k hk hn => h.block k hk fun hs => hn (hS k hs)⟩
theorem Tch.below {S : Nat → Prop} {B : Nat} {w w' : World} (h : Tch S w w') (hB : B ≤ w.heap.size) (hS : ∀ k, S k → B ≤ k) : Below B w w' := ⟨h.os, h.tape, h.output, h.size, fun k hk => h.block k (by omega) fun hs => by have := hS k hs; omega⟩
theorem Tch.cell {S : Nat → Prop} {w w' : World} (h : Tch S w w') {a : Addr} (ha : a.block < w.heap.size) (hn : ¬ S a.block) : w'.cell? a = w.cell? a := World.cell?_of_block (w := w) (h.block _ ha hn)
theorem Tch.of_grown {S : Nat → Prop} {w w' : World} {row : Option Nat} (hg : w.grownBy w' row) (hr : ∀ k, row = some k → S k) : Tch S w w' := ⟨hg.os, hg.tape, hg.output, hg.size, fun k hk hn => hg.block k hk (fun e => hn (hr k e.symm))⟩
theorem Tch.set {S : Nat → Prop} (w : World) (p : Addr) (v : Value) (hp : S p.block) : Tch S w (w.setCell p v) := ⟨rfl, rfl, rfl, by simp [World.setCell], fun k _ hn => Below.heap_setCell w p v k (fun e => hn (by rw [e]; exact hp))⟩
theorem Tch.drew {S : Nat → Prop} {a b : World} (h : Tch S a b) : Tch S a b.drew := h.trans (Tch.of_below (below_drew (Below.refl _ _)))
theorem Tch.alloc {S : Nat → Prop} {a b : World} (h : Tch S a b) (o : Obj) : Tch S a (b.alloc o) := h.trans (Tch.of_below ((Below.refl _ _).alloc (Nat.le_refl _) _))

/-- Who owns a block. -/
inductive Own where
  | none
  | disk
  | map
  | plan
  | file (x : Nm)
  | safe (x : Nm)
  | seen (x : Nm)
  | chgs (x : Nm)
/-- Blocks from lo to hi get an owner. -/
def paint (O : Nat → Own) (lo hi : Nat) (c : Own) : Nat → Own := fun b => if lo ≤ b ∧ b < hi then c else O b
theorem paint_old {O : Nat → Own} {lo hi : Nat} {c : Own} {b : Nat} (h : b < lo) : paint O lo hi c b = O b := if_neg (by omega)
theorem paint_new {O : Nat → Own} {lo hi : Nat} {c : Own} {b : Nat} (h : lo ≤ b) (h2 : b < hi) : paint O lo hi c b = c := if_pos ⟨h, h2⟩

/-- An element reads as itself. -/
def raw (v : Value) : Option (DataW Value × List MemPlace) := some (.held v, [])
theorem keyed : Keyed Tryz.prog 9 := string_keyed Tryz.underlying9
def fptr (p : Nat) : Value := .pointer (some ⟨p, 0, none⟩)
def optr : Option Nat → Value
  | some p => fptr p
  | none => .pointer none
/-- A list of names and blocks as a map's datum. -/
def dat (L : List (Nm × Nat)) : DataW Value := .map (L.map fun p => (.string p.1, .held (fptr p.2)))
/-- Block b is a map that holds the list. -/
def ML (w : World) (b : Nat) (L : List (Nm × Nat)) : Prop := w.ownsMap Tryz.prog 9 raw b L.length (dat L)
theorem zeroF (w : World) : (zeroValue 206).run Tryz.prog w = .ok (.pointer none) w := by kernel_rfl
theorem hkey {s : ByteArray} (h : s.size ≤ maxLen) : keyOf Tryz.prog 9 (.string s) = some (.string s.data.toList) := keyOf_string_mk Tryz.underlying9 h

theorem same_str (x y : Nm) : (Lit.string x).sameKey (.string y) = (x == y) := rfl
theorem dat_ins (x : Nm) (p : Nat) : ∀ L : List (Nm × Nat), DataW.insert (.string x, .held (fptr p)) (L.map fun p => (Lit.string p.1, DataW.held (fptr p.2))) = (ins (x, p) L).map fun p => (Lit.string p.1, DataW.held (fptr p.2))
  | [] => rfl
  | y :: r => by
    unfold ins
    rw [List.map_cons]
    unfold DataW.insert
    have e : (Lit.string x).before (Lit.string y.1) = bytesBefore x y.1 := rfl
    simp only [e]
    by_cases h : bytesBefore x y.1 = true
    · simp [h]
    · rw [if_neg h, if_neg h, List.map_cons]
      congr 1
      exact dat_ins x p r
theorem dat_put (L : List (Nm × Nat)) (x : Nm) (p : Nat) : (dat L).put (.string x) (.held (fptr p)) = dat (put L x p) := by
  unfold dat DataW.put put del
  simp only
  rw [← dat_ins, List.filter_map]
  rfl
theorem dat_at (L : List (Nm × Nat)) (x : Nm) : (dat L).atKey (.string x) (.held (.pointer none)) = .held (optr (look L x)) := by
  unfold dat DataW.atKey look
  simp only
  rw [List.find?_map]
  have e : ((fun p : Lit × DataW Value => p.1.sameKey (.string x)) ∘ fun p : Nm × Nat => (Lit.string p.1, DataW.held (fptr p.2))) = fun p => p.1 == x := rfl
  rw [e]
  cases h : L.find? (fun p => p.1 == x) <;> rfl
theorem dat_size (L : List (Nm × Nat)) : Maps.size (dat L) = L.length := by
  unfold dat
  rw [size_eq, List.length_map]
theorem dat_keys (L : List (Nm × Nat)) : strKeys (dat L) = L.map (·.1) := by
  unfold dat strKeys
  simp only
  rw [List.map_map]
  rfl

theorem ML.of {w : World} {b n : Nat} {L : List (Nm × Nat)} (h : w.ownsMap Tryz.prog 9 raw b n (dat L)) : ML w b L := by
  obtain ⟨es, clock, h1, h2, h3, h4⟩ := h
  refine ⟨es, clock, h1, h2, ?_, h4⟩
  unfold dat at h4
  injection h4 with h4
  have h5 : L.length = es.size := by
    have := congrArg List.length h4
    rw [length_sorted, List.length_map, List.length_map, Array.length_toList] at this
    exact this
  exact Nat.le_of_eq h5.symm
theorem ML.lt {w : World} {b : Nat} {L : List (Nm × Nat)} (h : ML w b L) : b < w.heap.size := World.ownsMap.lt h
theorem ML.kept {w w' : World} {b : Nat} {L : List (Nm × Nat)} (h : ML w b L) (hb : w'.heap[b]? = w.heap[b]?) : ML w' b L := by
  obtain ⟨es, clock, h1, h2⟩ := h
  exact ⟨es, clock, hb.trans h1, h2⟩
theorem ML.apart {w : World} {b : Nat} {L : List (Nm × Nat)} (h : ML w b L) : L.Pairwise fun p q => p.1 ≠ q.1 := by
  obtain ⟨es, e, hp⟩ := World.ownsMap.tidy h keyed
  unfold dat at e
  injection e with e
  rw [← e] at hp
  refine (List.pairwise_map.1 hp).imp (fun h h2 => h ?_)
  simp only [h2]
theorem ML.sorted {w : World} {b : Nat} {L : List (Nm × Nat)} (h : ML w b L) : Srt L := by
  obtain ⟨es, clock, _, F, _, hD⟩ := h
  have h1 := sorted_sorted (Keyed.one keyed) _ (fit_keys F) (fit_apart keyed F)
  unfold dat at hD
  injection hD with hD
  rw [← hD] at h1
  exact List.pairwise_map.1 h1
theorem ML.made (w : World) : ML (w.alloc (.map #[] 0)) w.heap.size [] := World.ownsMap_made _ _ _ _
/-- 'm[k]', as an equation of the run. -/
theorem ML.look_run {w : World} {b : Nat} {L : List (Nm × Nat)} (h : ML w b L) {s : ByteArray} (hs : s.size ≤ maxLen) :
    (Instr.lookup 55 (.map (some b)) (.string s) false).run Tryz.prog w = .ok (optr (look L s.data.toList)) w := by
  obtain ⟨v, ps, hrun, hv⟩ := World.ownsMap.lookup h keyed Tryz.underlying55 (zeroF w) (zd := .held (.pointer none)) (zp := []) rfl (hkey hs)
  rw [dat_at] at hv
  unfold raw at hv
  simp only [Option.some.injEq, Prod.mk.injEq, DataW.held.injEq] at hv
  rw [hrun, hv.1]
theorem ML.len_run {w : World} {b : Nat} {L : List (Nm × Nat)} (h : ML w b L) (ty : TypeId) : (Builtin.len_ #[55] ty #[.map (some b)]).run Tryz.prog w = .ok (.int .i64 L.length) w := by
  have := World.ownsMap.len h Tryz.underlying55 ty
  rw [dat_size] at this
  exact this
theorem ML.put_run {w : World} {b : Nat} {L : List (Nm × Nat)} (h : ML w b L) (hn : L.length < maxLen) {s : ByteArray} (hs : s.size ≤ maxLen) (p : Nat) :
    ∃ w', (Instr.mapUpdate 55 (.map (some b)) (.string s) (fptr p)).run Tryz.prog w = .ok () w' ∧ ML w' b (put L s.data.toList p) ∧ w.grownBy w' (some b) := by
  obtain ⟨w', hrun, r1, r2⟩ := World.ownsMap.update h keyed Tryz.underlying55 hn (val := fptr p) (d := .held (fptr p)) (ps := []) (hkey hs) rfl
  rw [dat_put] at r1
  exact ⟨w', hrun, ML.of r1, r2⟩

/-- A change. -/
def kChg : Kd Chg := Kd.iso (Kd.pair Kd.bool (Kd.pair (Kd.int .i64) (Kd.slice 5 (Kd.int .u8)))) (fun c => (c.cuts, c.to, c.add))
/-- A fate. -/
def kFat : Kd Fat := Kd.iso (Kd.pair (Kd.int .i64) (Kd.pair (Kd.int .i64) (Kd.int .i64))) (fun c => (c.step, c.kind, c.n))
/-- A row of bytes. -/
abbrev RB (w : World) (ok : Nat → Prop) (v : Value) (l : List Int) : Prop := (Kd.int .u8).R 5 w 0 ok v l
abbrev RC (w : World) (ok : Nat → Prop) (v : Value) (l : List Chg) : Prop := kChg.R 274 w 0 ok v l

/-- The file x, at block p. -/
structure FA (w : World) (O : Nat → Own) (x : Nm) (p : Nat) (f : Fil) (sv nv cv : Value) : Prop where
  blk : w.heap[p]? = some (.cells #[sv, nv, cv] 252 (0, 0))
  own : O p = .file x
  safe : RB w (fun b => O b = .safe x) sv f.safe
  seen : RB w (fun b => O b = .seen x) nv f.seen
  chgs : RC w (fun b => O b = .chgs x) cv f.chs
def File (w : World) (O : Nat → Own) (x : Nm) (p : Nat) (f : Fil) : Prop := ∃ sv nv cv, FA w O x p f sv nv cv

/-- The disk at block d, its map at block m. -/
structure DA (w : World) (d m : Nat) (O : Nat → Own) (k : Dk) (N : Nat) (pv : Value) (Z : List (Nm × (Nat × Fil))) : Prop where
  blk : w.heap[d]? = some (.cells #[.map (some m), .int .i64 k.room, pv, .int .i64 k.steps, .bool k.off] 57 (0, 0))
  od : O d = .disk
  om : O m = .map
  mp : ML w m (mapV (·.1) Z)
  plan : kFat.R 226 w 0 (fun b => O b = .plan) pv k.plan
  files : k.files = mapV (·.2) Z
  file : ∀ x p f, (x, (p, f)) ∈ Z → File w O x p f
  lt : ∀ b, O b ≠ .none → b < w.heap.size
  ok : k.ok N
/-- A disk; S: its blocks. -/
def Disk (w : World) (d : Nat) (S : Nat → Prop) (k : Dk) (N : Nat) : Prop := ∃ m O pv Z, DA w d m O k N pv Z ∧ ∀ b, S b ↔ O b ≠ .none

section
variable {w w' : World} {O O' : Nat → Own} {x : Nm} {p : Nat} {f : Fil} {sv nv cv : Value}
theorem FA.step (h : FA w O x p f sv nv cv) (hb : ∀ b, b < w.heap.size → (O b = .file x ∨ O b = .safe x ∨ O b = .seen x ∨ O b = .chgs x) → w'.heap[b]? = w.heap[b]?) : FA w' O x p f sv nv cv :=
  ⟨(hb p (Array.getElem?_eq_some_iff.1 h.blk).1 (.inl h.own)).trans h.blk, h.own, Kd.R_step h.safe (fun b ho hl => hb b hl (.inr (.inl ho))), Kd.R_step h.seen (fun b ho hl => hb b hl (.inr (.inr (.inl ho)))), Kd.R_step h.chgs (fun b ho hl => hb b hl (.inr (.inr (.inr ho))))⟩
/-- New blocks get owners. -/
theorem FA.own_ (h : FA w O x p f sv nv cv) (ho : ∀ b, b < w.heap.size → O' b = O b) : FA w O' x p f sv nv cv :=
  ⟨h.blk, (ho p (Array.getElem?_eq_some_iff.1 h.blk).1).trans h.own, Kd.R_mono (Kd.R_bound h.safe) (fun b hb => (ho b hb.2.2.1).trans hb.1), Kd.R_mono (Kd.R_bound h.seen) (fun b hb => (ho b hb.2.2.1).trans hb.1), Kd.R_mono (Kd.R_bound h.chgs) (fun b hb => (ho b hb.2.2.1).trans hb.1)⟩
theorem File.step (h : File w O x p f) (hb : ∀ b, b < w.heap.size → (O b = .file x ∨ O b = .safe x ∨ O b = .seen x ∨ O b = .chgs x) → w'.heap[b]? = w.heap[b]?) : File w' O x p f := by
  obtain ⟨sv, nv, cv, h⟩ := h
  exact ⟨sv, nv, cv, h.step hb⟩
theorem File.own_ (h : File w O x p f) (ho : ∀ b, b < w.heap.size → O' b = O b) : File w O' x p f := by
  obtain ⟨sv, nv, cv, h⟩ := h
  exact ⟨sv, nv, cv, h.own_ ho⟩
theorem File.lt (h : File w O x p f) : p < w.heap.size := by
  obtain ⟨sv, nv, cv, h⟩ := h
  exact (Array.getElem?_eq_some_iff.1 h.blk).1
end
section
variable {w w' : World} {d m : Nat} {O : Nat → Own} {k : Dk} {N : Nat} {pv : Value} {Z : List (Nm × (Nat × Fil))} {S : Nat → Prop}
/-- Nothing of the disk's has turned. -/
theorem DA.step (h : DA w d m O k N pv Z) (hs : w.heap.size ≤ w'.heap.size) (hb : ∀ b, b < w.heap.size → O b ≠ .none → w'.heap[b]? = w.heap[b]?) : DA w' d m O k N pv Z :=
  ⟨(hb d (Array.getElem?_eq_some_iff.1 h.blk).1 (by rw [h.od]; exact Own.noConfusion)).trans h.blk, h.od, h.om, h.mp.kept (hb m h.mp.lt (by rw [h.om]; exact Own.noConfusion)), Kd.R_step h.plan (fun b ho hl => hb b hl (by rw [ho]; exact Own.noConfusion)), h.files,
    fun x p f hz => (h.file x p f hz).step (fun b hl ho => hb b hl (by rcases ho with ho | ho | ho | ho <;> rw [ho] <;> exact Own.noConfusion)), fun b hb => Nat.lt_of_lt_of_le (h.lt b hb) hs, h.ok⟩
theorem Disk.tch {T : Nat → Prop} (h : Disk w d S k N) (ht : Tch T w w') (hd : ∀ b, T b → ¬ S b) : Disk w' d S k N := by
  obtain ⟨m, O, pv, Z, h, hS⟩ := h
  exact ⟨m, O, pv, Z, h.step ht.size (fun b hl ho => ht.block b hl (fun hT => hd b hT ((hS b).2 ho))), hS⟩
theorem Disk.below (h : Disk w d S k N) (hb : Below w.heap.size w w') : Disk w' d S k N := h.tch (T := fun _ => False) (Tch.of_below hb) (fun _ h => h.elim)
theorem Disk.lt (h : Disk w d S k N) {b : Nat} (hb : S b) : b < w.heap.size := by
  obtain ⟨m, O, pv, Z, h, hS⟩ := h
  exact h.lt b ((hS b).1 hb)
theorem Disk.self (h : Disk w d S k N) : S d := by
  obtain ⟨m, O, pv, Z, h, hS⟩ := h
  exact (hS d).2 (by rw [h.od]; exact Own.noConfusion)
theorem DA.apart (h : DA w d m O k N pv Z) : Z.Pairwise fun p q => p.1 ≠ q.1 := by
  have h1 := h.mp.apart
  unfold mapV at h1
  exact (List.pairwise_map (f := fun p : Nm × (Nat × Fil) => (p.1, p.2.1))).1 h1
end
end Go.Proofs.YtciikcmiiebfpaaGreatDoor
end

/- C -/
section
/- PRINTED by gen_clone.py: bytes.Clone, slices.Clone at fates: new rows. -/
namespace Go.Proofs.YtciikcmiiebfpaaGreatDoor
open Go Go.RowKit Go.Maps Go.Proofs.YtciikcmiiebfpaaGreatDoorW.PrintWords Go.Proofs.YtciikcmiiebfpaaGreatDoor.PTopicsGets
set_option linter.unusedVariables false

theorem info_u8 : (Tryz.prog.info? 5).map (fun i => (i.zero, i.size, i.bytes)) = some (some (.int .u8 0), 1, 1) := by kernel_rfl
theorem info_chg : (Tryz.prog.info? 274).map (fun i => (i.zero, i.size, i.bytes)) = some (some (.agg #[.bool false, .int .i64 0, .slice none 0 0]), 3, 40) := by kernel_rfl
theorem R_empty {α : Type} (d : Kd α) (e : Nat) (w : World) (ok : Nat → Prop) (h : ok w.heap.size) : d.R e (w.alloc (.cells #[] e)) 0 ok (.slice (some ⟨w.heap.size, 0, none⟩) 0 0) [] :=
  ⟨fun k hk => by simp [Value.ownBlock] at hk; rw [← hk]; exact h, [], ⟨by simp, .inr ⟨w.heap.size, 0, #[], rfl, Nat.zero_le _, heap_alloc_new _ _, Nat.le_refl _, by decide, by simp, by simp⟩⟩, ⟨by simp, fun j p hj => by simp at hj⟩⟩
theorem C_short {α : Type} {d : Kd α} {w : World} {n : Nat} {l : List α} (h : d.C w none n l) : n = 0 ∧ l = [] := by
  have h0 : n = 0 := by
    rcases Nat.eq_zero_or_pos n with h0 | h0
    · exact h0
    · obtain ⟨ad, e, _⟩ := h.2.2 h0
      cases e
  subst h0
  exact ⟨rfl, List.length_eq_zero_iff.1 h.1⟩

theorem grown_new {w W w1 : World} {row : Option Nat} (hB : Below w.heap.size w W) (hg : W.grownBy w1 row) (h : ∀ k, row = some k → w.heap.size ≤ k) : Below w.heap.size w w1 :=
  ⟨hg.os.trans hB.os, hg.tape.trans hB.tape, hg.output.trans hB.output, Nat.le_trans hB.size hg.size, fun k hk => (hg.block k (Nat.lt_of_lt_of_le hk hB.size) (fun e => by have := h k e.symm; omega)).trans (hB.block k hk)⟩

set_option maxRecDepth 100000 in
theorem clone_bytes (A : Option Addr) (n c : Nat) (l : List Int) (w : World) (hC : (Kd.int .u8).C w A n l) (hl : n * 1 ≤ 140737488355328) :
    Calls Tryz.prog 114 #[.slice A n c] w fun r w' => ∃ v, r = .returned v ∧ (Kd.int .u8).R 5 w' 0 (fun b => w.heap.size ≤ b) v l ∧ Below w.heap.size w w' := by
  have qS : ∀ (W : World) (a : Option Addr) (n k : Nat), (binOp .eql 51 (.slice a n k) (.slice none 0 0)).run Tryz.prog W = .ok (.bool a.isNone) W := fun W a n k => Lib.run_eql_slice_nil W _ _ a n k 0 0 Tryz.underlying51
  cases A with
  | none =>
    obtain ⟨rfl, rfl⟩ := C_short hC
    clear hC hl
    go_enter Tryz.func114, Tryz.ntmps114
    go_wp2_with fail
    go_ret
    exact ⟨_, rfl, Kd.R_nil _ _ _ _ _, Below.refl _ _⟩
  | some a =>
    have HC := Lib.hid hC
    have HL := Lib.hid hl
    have HB : Hid (Below w.heap.size w (w.alloc (.cells #[] 5))) := (Below.refl w.heap.size w).alloc (Nat.le_refl _) _
    have HE := Lib.hid (R_empty (Kd.int .u8) 5 w (fun b => w.heap.size ≤ b) (Nat.le_refl _))
    clear hC hl
    go_enter Tryz.func114, Tryz.ntmps114
    go_wp2_with (at_builtin; refine Kd.R_append_rows (Kd.int .u8) (w0 := w) 0 rfl _ _ 51 5 (.int .u8 0) 1 rfl Tryz.underlying51 info_u8 rfl (by decide) (by decide) _ [] l (some a) n c (fun b => w.heap.size ≤ b) (fun _ => False) rfl rfl HE.out (Kd.C_below HC.out HB.out) (fun x cs h => h) (fun _ h => h.elim) (fun b hb => Nat.le_trans HB.out.size hb) (HB.out.mono (Nat.zero_le _)) (Nat.zero_le _) (by rw [List.length_nil, Nat.zero_add]; exact HL.out) ?_; intro v1 w1 hr hb hg hat; have HR := Lib.hid hr; have HB1 : Hid (Below w.heap.size w w1) := grown_new HB.out hg (fun k hk => Nat.le_of_eq (Option.some.inj hk)); clear hr hb hg hat)
    go_ret
    exact ⟨_, rfl, HR.out, HB1.out⟩

end Go.Proofs.YtciikcmiiebfpaaGreatDoor
end

/- Fate -/
section
/- (*Disk).fate: a step more; the fate of this step. -/
namespace Go.Proofs.YtciikcmiiebfpaaGreatDoor
open Go Go.RowKit Go.Maps Go.Proofs.YtciikcmiiebfpaaGreatDoorW.PrintWords Go.Proofs.YtciikcmiiebfpaaGreatDoor.PTopicsGets
set_option linter.unusedVariables false

theorem results_cell1 {fn : Func} {p : Tmp} {ty : TypeId} (h : fn.results = #[.cell p ty]) (tmps : Array Value) (P : Program) (w : World) :
    (results fn tmps).run P w = ((asAddr (tmps.getD p undef)).run P w).andThen fun a w₁ => (loadVar ty a).run P w₁ := by
  simp only [results, h]
  simp [Sem.run_bind, Result.andThen]
theorem addr_zero (g j : Nat) : (⟨g, 0, none⟩ : Addr).add j = ⟨g, j, none⟩ := by unfold Addr.add; split <;> simp_all
def Fat.val (f : Fat) : Value := .agg #[.int .i64 f.step, .int .i64 f.kind, .int .i64 f.n]
theorem DA.cells {w : World} {d m : Nat} {O : Nat → Own} {k : Dk} {N : Nat} {pv : Value} {Z : List (Nm × (Nat × Fil))} (h : DA w d m O k N pv Z) :
    (w.cell? ⟨d, 0, none⟩ = some (.map (some m)) ∧ w.cell? ⟨d, 1, none⟩ = some (.int .i64 k.room) ∧ w.cell? ⟨d, 2, none⟩ = some pv ∧ w.cell? ⟨d, 3, none⟩ = some (.int .i64 k.steps) ∧ w.cell? ⟨d, 4, none⟩ = some (.bool k.off)) ∧ d < w.heap.size :=
  ⟨⟨(blk_cell h.blk 0).trans rfl, (blk_cell h.blk 1).trans rfl, (blk_cell h.blk 2).trans rfl, (blk_cell h.blk 3).trans rfl, (blk_cell h.blk 4).trans rfl⟩, blk_lt h.blk⟩
theorem DA.free {w : World} {d m : Nat} {O : Nat → Own} {k : Dk} {N : Nat} {pv : Value} {Z : List (Nm × (Nat × Fil))} (h : DA w d m O k N pv Z) (j : Nat) : w.frozen? ⟨d, j, none⟩ = false := blk_frozen h.blk j
/-- A field of the disk's own block is written. -/
theorem DA.put {w : World} {d m : Nat} {O : Nat → Own} {k k' : Dk} {N N' : Nat} {pv : Value} {Z : List (Nm × (Nat × Fil))} (h : DA w d m O k N pv Z) (j : Nat) (v : Value)
    (hv : (#[Value.map (some m), .int .i64 k.room, pv, .int .i64 k.steps, .bool k.off]).setIfInBounds j v = #[.map (some m), .int .i64 k'.room, pv, .int .i64 k'.steps, .bool k'.off]) (hf : k'.files = k.files) (hp : k'.plan = k.plan) (ho : k'.ok N') (hN : N ≤ N') :
    DA (w.setCell ⟨d, j, none⟩ v) d m O k' N' pv Z := by
  have hs : (w.setCell ⟨d, j, none⟩ v).heap.size = w.heap.size := by simp [World.setCell]
  have hb : ∀ b, b ≠ d → (w.setCell ⟨d, j, none⟩ v).heap[b]? = w.heap[b]? := fun b hb => Below.heap_setCell w ⟨d, j, none⟩ v b hb
  refine ⟨?_, h.od, h.om, h.mp.kept (hb m (fun e => by have h1 := h.om; rw [e, h.od] at h1; cases h1)), by rw [hp]; exact Kd.R_step h.plan (fun b hob _ => hb b (fun e => by rw [e, h.od] at hob; cases hob)), by rw [hf]; exact h.files, fun x p f hz => (h.file x p f hz).step (fun b _ hob => hb b (fun e => by rw [e, h.od] at hob; rcases hob with hob | hob | hob | hob <;> cases hob)), fun b hob => by rw [hs]; exact h.lt b hob, ho⟩
  exact blk_put h.blk j v hv
theorem Dk.ok.mono {k : Dk} {N N' : Nat} (h : k.ok N) (hN : N ≤ N') : k.ok N' := ⟨fun p hp => ⟨(h.1 p hp).1, Nat.le_trans (h.1 p hp).2.1 hN, (h.1 p hp).2.2⟩, h.2.1, h.2.2.1, h.2.2.2.1, h.2.2.2.2.1, by have := h.2.2.2.2.2; omega⟩
theorem Dk.ok.step {k : Dk} {N : Nat} (h : k.ok N) : Dk.ok { k with steps := k.steps + 1 } (N + 1) := ⟨fun p hp => ⟨(h.1 p hp).1, Nat.le_succ_of_le (h.1 p hp).2.1, (h.1 p hp).2.2⟩, h.2.1, h.2.2.1, h.2.2.2.1, by have := h.2.2.2.2.1; show 0 ≤ k.steps + 1; omega, by have := h.2.2.2.2.2; show k.steps + 1 ≤ ((N + 1 : Nat) : Int); omega⟩
theorem Dk.ok.turn {k : Dk} {N : Nat} (h : k.ok N) (b : Bool) : Dk.ok { k with off := b } N := h

/-- A fate of the plan, read. -/
theorem plan_at {w : World} {ok : Nat → Prop} {A : Option Addr} {n c i : Nat} {L : List Fat} {f : Fat} (h : kFat.R 226 w 0 ok (.slice A n c) L) (hf : L[i]? = some f) :
    ∃ g, A = some ⟨g, 0, none⟩ ∧ ok g ∧ g < w.heap.size ∧ w.cell? ⟨g, i * 3, none⟩ = some (.int .i64 f.step) ∧ w.cell? ⟨g, i * 3 + 1, none⟩ = some (.int .i64 f.kind) ∧ w.cell? ⟨g, i * 3 + 2, none⟩ = some (.int .i64 f.n) := by
  have hn := (Kd.R_reads' h).1
  have hi := (List.getElem?_eq_some_iff.1 hf).1
  obtain ⟨g, cap, e, _⟩ := Kd.R_form h (by omega)
  injection e with e1 e2 e3
  subst e1
  obtain ⟨c', hcl, hM, hcc⟩ := Kd.R_getA h z (i : Int) (by omega) (by omega)
  rw [Int.toNat_natCast] at hM hcc
  rw [List.getD_eq_getElem?_getD, hf, Option.getD_some] at hM
  obtain ⟨c0, c1, e, h0, c2, c3, e2, h2, h3⟩ := hM
  have h0' : c0 = [Value.int .i64 f.step] := h0
  have h2' : c2 = [Value.int .i64 f.kind] := h2
  have h3' : c3 = [Value.int .i64 f.n] := h3
  subst h0' h2' h3' e2 e
  have e0 : ∀ j, (⟨g, 0, none⟩ : Addr).add (i * kFat.sz + j) = ⟨g, i * 3 + j, none⟩ := fun j => by rw [addr_zero]; rfl
  exact ⟨g, rfl, h.1 g (by simp [Value.ownBlock]), (by have := World.block_lt_of_cell? w _ (hcc 0 _ rfl); rwa [e0] at this), by have := hcc 0 _ rfl; rw [e0] at this; exact this, by have := hcc 1 _ rfl; rw [e0] at this; exact this, by have := hcc 2 _ rfl; rw [e0] at this; exact this⟩

theorem DA.below {w w' : World} {d m : Nat} {O : Nat → Own} {k : Dk} {N : Nat} {pv : Value} {Z : List (Nm × (Nat × Fil))} (h : DA w d m O k N pv Z) (hb : Below w.heap.size w w') : DA w' d m O k N pv Z := h.step hb.size (fun b hl _ => hb.block b hl)
theorem DA.new {w : World} {d m : Nat} {O : Nat → Own} {k : Dk} {N : Nat} {pv : Value} {Z : List (Nm × (Nat × Fil))} (h : DA w d m O k N pv Z) {b : Nat} (hb : w.heap.size ≤ b) : O b = .none := by
  cases ho : O b with
  | none => rfl
  | _ => exact absurd (h.lt b (by rw [ho]; exact Own.noConfusion)) (by omega)
/-- A store elsewhere. -/
theorem DA.far {w : World} {d m : Nat} {O : Nat → Own} {k : Dk} {N : Nat} {pv : Value} {Z : List (Nm × (Nat × Fil))} (h : DA w d m O k N pv Z) {p : Addr} (hp : O p.block = .none) (v : Value) : DA (w.setCell p v) d m O k N pv Z :=
  h.step (by simp [World.setCell]) (fun b _ ho => Below.heap_setCell w p v b (fun e => ho (by rw [e]; exact hp)))
/-- The fate that the loop is still to find. -/
theorem fate_next {L : List Fat} {i : Nat} {f : Fat} {s : Int} (hf : L[i]? = some f) : fateOf (L.drop i) s = if f.step = s then f else fateOf (L.drop (i + 1)) s := by
  have hi := (List.getElem?_eq_some_iff.1 hf)
  obtain ⟨h1, h2⟩ := hi
  rw [List.drop_eq_getElem_cons h1, h2]
  unfold fateOf
  rw [List.find?_cons]
  by_cases h : f.step = s
  · rw [if_pos h, show (f.step == s) = true by simpa using h]; rfl
  · rw [if_neg h, show (f.step == s) = false by simpa using h]
theorem fate_end (s : Int) : fateOf [] s = z := rfl

set_option maxRecDepth 100000 in
set_option maxHeartbeats 1000000 in
theorem fate_any (w : World) (d m N : Nat) (O : Nat → Own) (k : Dk) (pv : Value) (Z : List (Nm × (Nat × Fil))) (h : DA w d m O k N pv Z) (hN : N ≤ 1000000000000) :
    Calls Tryz.prog 153 #[.pointer (some ⟨d, 0, none⟩)] w fun e w' => e = .returned (fateOf k.plan (k.steps + 1)).val ∧ DA w' d m O { k with steps := k.steps + 1 } (N + 1) pv Z ∧ Tch (fun b => b = d) w w' := by
  obtain ⟨A, np, c, hnp, hpv⟩ : ∃ A np c, np = k.plan.length ∧ pv = .slice A np c := by
    obtain ⟨A, c, e⟩ := Kd.R_slice h.plan
    exact ⟨A, _, c, rfl, e⟩
  subst hpv
  obtain ⟨⟨c0, c1, c2, c3, c4⟩, hdl⟩ := h.cells
  have f3 := h.free 3
  have hst := h.ok.2.2.2.2
  have hpl := (Kd.R_reads' h.plan).2.2.2.1
  obtain ⟨s, hs⟩ : ∃ s, s = k.steps := ⟨_, rfl⟩
  rw [← hs] at c3 hst
  have HA := Lib.hid h
  have HS := Lib.hid hs
  have hnb : np ≤ 9223372036854775807 := by rw [hnp]; exact hpl
  have HNP := Lib.hid hnp
  have HON := Lib.hid (h.new (Nat.le_refl _))
  have HP := Lib.hid h.plan
  clear h hs hnp
  have HD1 : Hid (DA ((w.setCell ⟨d, 3, none⟩ (.int .i64 (s + 1))).alloc (.cells #[.int .i64 0, .int .i64 0, .int .i64 0] 226)) d m O { k with steps := k.steps + 1 } (N + 1) (.slice A np c) Z) :=
    (HA.out.put (k' := { k with steps := k.steps + 1 }) 3 (.int .i64 (s + 1)) (by rw [HS.out]; rfl) rfl rfl HA.out.ok.step (Nat.le_succ _)).below ((Below.refl _ _).alloc (Nat.le_refl _) _)
  have HT1 : Hid (Tch (fun b => b = d) w ((w.setCell ⟨d, 3, none⟩ (.int .i64 (s + 1))).alloc (.cells #[.int .i64 0, .int .i64 0, .int .i64 0] 226))) := (Tch.set (S := fun b => b = d) w ⟨d, 3, none⟩ _ rfl).alloc _
  have hsz : (w.setCell ⟨d, 3, none⟩ (.int .i64 (s + 1))).heap.size = w.heap.size := by simp [World.setCell]
  have HB1 : Hid (((w.setCell ⟨d, 3, none⟩ (.int .i64 (s + 1))).alloc (.cells #[.int .i64 0, .int .i64 0, .int .i64 0] 226)).heap[w.heap.size]? = some (.cells #[.int .i64 0, .int .i64 0, .int .i64 0] 226 (0, 0))) := by
    have := heap_alloc_new (w.setCell ⟨d, 3, none⟩ (.int .i64 (s + 1))) (.cells #[.int .i64 0, .int .i64 0, .int .i64 0] 226)
    rw [hsz] at this
    exact this
  have hdw : ¬ w.heap.size = d := by omega
  clear hsz
  go_enter Tryz.func153, Tryz.ntmps153
  go_wp2_with fail
  clear c0 c1 c2 c3 c4 f3
  generalize (w.setCell ⟨d, 3, none⟩ (.int .i64 (s + 1))).alloc (.cells #[.int .i64 0, .int .i64 0, .int .i64 0] 226) = W1 at HD1 HT1 HB1 ⊢
  go_loopw [4, 17] (fun _ i wr => ∃ j : Nat, j ≤ np ∧ i = .int .i64 j ∧ Hid (fateOf (k.plan.drop j) (s + 1) = fateOf k.plan (s + 1)) ∧ Hid (DA wr d m O { k with steps := k.steps + 1 } (N + 1) (.slice A np c) Z) ∧ Hid (Tch (fun b => b = d) w wr) ∧ Hid (wr.heap[w.heap.size]? = some (.cells #[.int .i64 0, .int .i64 0, .int .i64 0] 226 (0, 0)))) (fun _ i _ => np - (intOf i).toNat)
  case atStart => exact ⟨0, Nat.zero_le _, rfl, rfl, HD1.out, HT1.out, HB1.out⟩
  case round =>
    clear HD1 HT1 HB1
    obtain ⟨j, hj, rfl, HF, HD, HT, HB⟩ := hrel
    by_cases hjn : j < np
    · obtain ⟨f, hf⟩ : ∃ f, k.plan[j]? = some f := ⟨_, List.getElem?_eq_getElem (by have := HNP.out; omega)⟩
      obtain ⟨g, rfl, hog, hgl, p0, p1, p2⟩ := plan_at HD.out.plan hf
      have HNX := Lib.hid (fate_next (s := s + 1) hf)
      clear hog hf
      obtain ⟨⟨c0, c1, c2, c3, c4⟩, hdl2⟩ := HD.out.cells
      have d3 : wr.cell? ⟨d, 3, none⟩ = some (.int .i64 (s + 1)) := by rw [HS.out]; exact c3
      have b0 := (blk_cell HB.out 0).trans rfl
      have b1 := (blk_cell HB.out 1).trans rfl
      have b2 := (blk_cell HB.out 2).trans rfl
      have f0 := blk_frozen HB.out 0
      have f1 := blk_frozen HB.out 1
      have f2 := blk_frozen HB.out 2
      have hwl := blk_lt HB.out
      clear c0 c1 c2 c3 c4
      have HDa : Hid (DA (wr.alloc (.cells #[.int .i64 f.step, .int .i64 f.kind, .int .i64 f.n] 226)) d m O { k with steps := k.steps + 1 } (N + 1) (.slice (some ⟨g, 0, none⟩) np c) Z) := HD.out.below ((Below.refl _ _).alloc (Nat.le_refl _) _)
      have HTa : Hid (Tch (fun b => b = d) w (wr.alloc (.cells #[.int .i64 f.step, .int .i64 f.kind, .int .i64 f.n] 226))) := HT.out.alloc _
      have HBa := Lib.hid (blk_alloc HB.out (.cells #[.int .i64 f.step, .int .i64 f.kind, .int .i64 f.n] 226))
      by_cases he : f.step = s + 1
      · have ee : ((f.step : Int) == s + 1) = true := by rw [beq_iff_eq]; exact he
        have HE := Lib.hid he
        clear he
        go_wp2_with fail
        go_quiet (fail)
        go_wp2_with fail
        have HE2 : Hid (fateOf k.plan (k.steps + 1) = f) := by
          have := HNX.out
          rw [if_pos HE.out] at this
          rw [← HS.out]
          exact HF.out.symm.trans this
        refine bodyPost_ret (v := f.val) ?_ rfl ⟨by rw [HE2.out], ?_, ?_⟩
        · rw [results_cell1 rfl]
          go_simp
          rfl
        · exact (((HDa.out.below (pw_below_drewN (Below.refl _ _) _)).far (p := ⟨w.heap.size, 0, none⟩) HON.out _).far (p := ⟨w.heap.size, 1, none⟩) HON.out _).far (p := ⟨w.heap.size, 2, none⟩) HON.out _
        · exact ((((HTa.out.trans (Tch.of_below (pw_below_drewN (Below.refl _ _) _))).then_ (Tch.set (S := fun b => b = w.heap.size) _ ⟨w.heap.size, 0, none⟩ _ rfl) (fun i hi => .inr (Nat.le_of_eq hi.symm))).then_ (Tch.set (S := fun b => b = w.heap.size) _ ⟨w.heap.size, 1, none⟩ _ rfl) (fun i hi => .inr (Nat.le_of_eq hi.symm))).then_ (Tch.set (S := fun b => b = w.heap.size) _ ⟨w.heap.size, 2, none⟩ _ rfl) (fun i hi => .inr (Nat.le_of_eq hi.symm)))
      · have ee : ((f.step : Int) == s + 1) = false := by rw [beq_eq_false_iff_ne]; exact he
        have HE := Lib.hid he
        clear he
        go_wp2_with fail
        go_quiet (fail)
        go_wp2_with fail
        go_roundw
        case rel => exact ⟨j + 1, by omega, by go_num, by have := HNX.out; rw [if_neg HE.out] at this; rw [← this]; exact HF.out, HDa.out.below (pw_below_drewN (Below.refl _ _) _), HTa.out.trans (Tch.of_below (pw_below_drewN (Below.refl _ _) _)), HBa.out⟩
        case measure => simp [intOf]; omega
    · obtain rfl : j = np := by omega
      have HZ : Hid (z.val = (fateOf k.plan (s + 1)).val) := by
        have := HF.out
        rw [List.drop_of_length_le (by have := HNP.out; omega), fate_end] at this
        exact congrArg Fat.val this
      obtain ⟨⟨c0, c1, c2, c3, c4⟩, hdl2⟩ := HD.out.cells
      have b0 := (blk_cell HB.out 0).trans rfl
      have b1 := (blk_cell HB.out 1).trans rfl
      have b2 := (blk_cell HB.out 2).trans rfl
      have f0 := blk_frozen HB.out 0
      have f1 := blk_frozen HB.out 1
      have f2 := blk_frozen HB.out 2
      have hwl := blk_lt HB.out
      clear c0 c1 c2 c3 c4
      go_wp2_with fail
      refine bodyPost_ret (v := z.val) ?_ rfl ⟨by rw [HZ.out, HS.out], ?_, ?_⟩
      · rw [results_cell1 rfl]
        go_simp
        rfl
      · exact ((HD.out.far (p := ⟨w.heap.size, 0, none⟩) HON.out _).far (p := ⟨w.heap.size, 1, none⟩) HON.out _).far (p := ⟨w.heap.size, 2, none⟩) HON.out _
      · exact (((HT.out.then_ (Tch.set (S := fun b => b = w.heap.size) _ ⟨w.heap.size, 0, none⟩ _ rfl) (fun i hi => .inr (Nat.le_of_eq hi.symm))).then_ (Tch.set (S := fun b => b = w.heap.size) _ ⟨w.heap.size, 1, none⟩ _ rfl) (fun i hi => .inr (Nat.le_of_eq hi.symm))).then_ (Tch.set (S := fun b => b = w.heap.size) _ ⟨w.heap.size, 2, none⟩ _ rfl) (fun i hi => .inr (Nat.le_of_eq hi.symm)))
end Go.Proofs.YtciikcmiiebfpaaGreatDoor
end

/- Step -/
section
/- (*Disk).step: one step under its fate, whatever it does. -/
namespace Go.Proofs.YtciikcmiiebfpaaGreatDoor
open Go Go.RowKit Go.Maps Go.Proofs.YtciikcmiiebfpaaGreatDoorW.PrintWords Go.Proofs.YtciikcmiiebfpaaGreatDoorW.PrintMore Go.Proofs.YtciikcmiiebfpaaGreatDoor.PTopicsGets
set_option linter.unusedVariables false
attribute [local go_sem] max2_int min2_int max_two min_two max_three min_three

/-- A call that turns the disk alone. -/
def SPost (S : Nat → Prop) (d N : Nat) (w : World) (x : Dk × Int) (e : Ending) (w' : World) : Prop :=
  ∃ S', e = .returned (.int .i64 x.2) ∧ Disk w' d S' x.1 N ∧ Tch S w w' ∧ ∀ b, S' b → S b ∨ w.heap.size ≤ b
def QPost (S : Nat → Prop) (d N : Nat) (w : World) (k : Dk) (e : Ending) (w' : World) : Prop :=
  ∃ S', e = .returned (.tuple #[]) ∧ Disk w' d S' k N ∧ Tch S w w' ∧ ∀ b, S' b → S b ∨ w.heap.size ≤ b
/-- A step more is counted. -/
def inc (k : Dk) : Dk := { k with steps := k.steps + 1 }
/-- What the walk reads of a disk's own block. -/
structure Own4 (w : World) (d : Nat) (k : Dk) : Prop where
  c1 : w.cell? ⟨d, 1, none⟩ = some (.int .i64 k.room)
  c3 : w.cell? ⟨d, 3, none⟩ = some (.int .i64 k.steps)
  c4 : w.cell? ⟨d, 4, none⟩ = some (.bool k.off)
  f4 : w.frozen? ⟨d, 4, none⟩ = false
  lt : d < w.heap.size
theorem Disk.own4 {w : World} {d N : Nat} {S : Nat → Prop} {k : Dk} (h : Disk w d S k N) : Own4 w d k := by
  obtain ⟨m, O, pv, Z, h, hS⟩ := h
  obtain ⟨⟨c0, c1, c2, c3, c4⟩, hl⟩ := h.cells
  exact ⟨c1, c3, c4, h.free 4, hl⟩
theorem Disk.turn {w : World} {d N : Nat} {S : Nat → Prop} {k : Dk} (h : Disk w d S k N) (b : Bool) : Disk (w.setCell ⟨d, 4, none⟩ (.bool b)) d S { k with off := b } N := by
  obtain ⟨m, O, pv, Z, h, hS⟩ := h
  exact ⟨m, O, pv, Z, h.put (k' := { k with off := b }) 4 (.bool b) rfl rfl rfl (h.ok.turn b) (Nat.le_refl _), hS⟩
theorem Disk.okk {w : World} {d N : Nat} {S : Nat → Prop} {k : Dk} (h : Disk w d S k N) : k.ok N := by
  obtain ⟨m, O, pv, Z, h, hS⟩ := h
  exact h.ok
theorem Disk.mono {w : World} {d N N' : Nat} {S : Nat → Prop} {k : Dk} (h : Disk w d S k N) (hN : N ≤ N') : Disk w d S k N' := by
  obtain ⟨m, O, pv, Z, h, hS⟩ := h
  exact ⟨m, O, pv, Z, ⟨h.blk, h.od, h.om, h.mp, h.plan, h.files, h.file, h.lt, h.ok.mono hN⟩, hS⟩
theorem fate_disk (w : World) (d N : Nat) (S : Nat → Prop) (k : Dk) (h : Disk w d S k N) (hN : N ≤ 1000000000000) :
    Calls Tryz.prog 153 #[.pointer (some ⟨d, 0, none⟩)] w fun e w' => e = .returned (fateOf k.plan (k.steps + 1)).val ∧ Disk w' d S (inc k) (N + 1) ∧ Tch (fun b => b = d) w w' := by
  obtain ⟨m, O, pv, Z, h, hS⟩ := h
  refine (fate_any w d m N O k pv Z h hN).mono ?_
  rintro e w' ⟨he, hD, hT⟩
  exact ⟨he, ⟨m, O, pv, Z, hD, hS⟩, hT⟩

set_option maxRecDepth 100000 in
set_option maxHeartbeats 1000000 in
theorem step_any (w : World) (d N : Nat) (S : Nat → Prop) (k : Dk) (h : Disk w d S k N) (hN : N ≤ 1000000000000) (K1 K2 : Nat) (l1 l2 : Array Value)
    (e1 : ∀ args w, (callFunc K1 args).run Tryz.prog w = .ok (.enter K1 args) w) (e2 : ∀ args w, (callFunc K2 args).run Tryz.prog w = .ok (.enter K2 args) w) (doF : Dk → Dk × Int) (paF : Dk → Int → Dk)
    (h1 : ∀ W, Tch S w W → Disk W d S (inc k) (N + 1) → Calls Tryz.prog K1 l1 W (SPost S d (N + 1) W (doF (inc k))))
    (h2 : ∀ W n, 0 ≤ n → Tch S w W → Disk W d S (inc k) (N + 1) → Calls Tryz.prog K2 (#[.int .i64 n] ++ l2) W (QPost S d (N + 1) W (paF (inc k) n))) :
    Calls Tryz.prog 96 #[.pointer (some ⟨d, 0, none⟩), .func (.func K1) #[] l1, .func (.func K2) #[] l2] w (SPost S d (N + 1) w (stepD doF paF k)) := by
  obtain ⟨c1, c3, c4, f4, hl⟩ := h.own4
  obtain ⟨off, hoff⟩ : ∃ off, off = k.off := ⟨_, rfl⟩
  rw [← hoff] at c4
  have HD := Lib.hid h
  have HO := Lib.hid hoff
  have H1 := Lib.hid h1
  have H2 := Lib.hid h2
  clear h hoff h1 h2 c1 c3
  cases off with
  | true =>
    go_enter Tryz.func96, Tryz.ntmps96
    go_wp2_with fail
    go_ret
    refine ⟨S, ?_, ?_, Tch.refl _ _, fun b hb => .inl hb⟩
    · unfold stepD; rw [if_pos HO.out.symm]
      rfl
    · unfold stepD; rw [if_pos HO.out.symm]; exact HD.out.mono (Nat.le_succ _)
  | false =>
    have HF := Lib.hid (fate_disk w d N S k HD.out hN)
    obtain ⟨f, hf⟩ : ∃ f, f = fateOf k.plan (k.steps + 1) := ⟨_, rfl⟩
    rw [← hf] at HF
    have HFE := Lib.hid hf
    clear hf
    go_enter Tryz.func96, Tryz.ntmps96
    go_wp2_with fail
    refine HF.out.mono ?_
    rintro e w1 ⟨rfl, hD1, hT1⟩
    obtain ⟨fs, fk, fn⟩ := f
    simp only [Fat.val]
    have HD1 : Hid (Disk (w1.alloc (.cells #[.int .i64 fs, .int .i64 fk, .int .i64 fn] 226)) d S (inc k) (N + 1)) := hD1.below ((Below.refl _ _).alloc (Nat.le_refl _) _)
    have HS : Hid (S d) := HD.out.self
    have HT1 : Hid (Tch S w (w1.alloc (.cells #[.int .i64 fs, .int .i64 fk, .int .i64 fn] 226))) := ((hT1.mono (fun b hb => by rw [hb]; exact HS.out)).alloc _)
    have HW : Hid (w.heap.size ≤ w1.heap.size) := hT1.size
    have HL : Hid (w1.heap.size < (w1.alloc (.cells #[.int .i64 fs, .int .i64 fk, .int .i64 fn] 226)).heap.size) := by rw [World.size_alloc]; exact Nat.lt_succ_self _
    have HST : Hid (stepD doF paF k = (if fk = 1 then ((inc k), 181) else if fk = 2 then (paF (inc k) (max fn 0), 182) else if fk = 3 then ({ (inc k) with off := true }, 180) else if fk = 4 then ({ (doF (inc k)).1 with off := true }, 180) else doF (inc k))) := by
      show _ = _
      unfold stepD
      rw [if_neg (by rw [← HO.out]; decide)]
      simp only
      rw [← HFE.out]
      rfl
    clear hD1 hT1 c4 f4 hl
    generalize (inc k) = k1 at HD1 HST H1 H2
    by_cases a1 : fk = 1
    · subst a1
      go_wp2_with fail
      go_ret
      exact ⟨S, by rw [HST.out]; rfl, by rw [HST.out]; exact HD1.out, HT1.out, fun b hb => .inl hb⟩
    · have b1 : ((fk : Int) == 1) = false := by rw [beq_eq_false_iff_ne]; exact a1
      by_cases a2 : fk = 2
      · subst a2
        clear a1 b1
        have HSU : Hid (stepD doF paF k = (paF k1 (max fn 0), 182)) := by rw [HST.out]; rfl
        by_cases hm : fn < 0
        all_goals
          first
            | (have hx : max fn 0 = fn := by omega)
            | (have hx : max fn 0 = 0 := by omega)
          rw [hx] at HSU
          clear hx
          go_wp2_with fail
          refine (H2.out _ _ (by omega) HT1.out HD1.out).mono ?_
          rintro e w2 ⟨S', rfl, hD2, hT2, hS2⟩
          have HD2 := Lib.hid hD2
          have HT2 := Lib.hid (HT1.out.trans hT2)
          have HS2 : Hid (∀ b, S' b → S b ∨ w.heap.size ≤ b) := fun b hb => (hS2 b hb).imp_right (fun h => by have := HT1.out.size; omega)
          clear hD2 hT2 hS2
          go_wp2_with fail
          go_ret
          exact ⟨S', by rw [HSU.out]; rfl, by rw [HSU.out]; exact HD2.out, HT2.out, HS2.out⟩
      · have b2 : ((fk : Int) == 2) = false := by rw [beq_eq_false_iff_ne]; exact a2
        by_cases a3 : fk = 3
        · subst a3
          clear a1 b1 a2 b2
          obtain ⟨_, _, q4, g4, gl⟩ := HD1.out.own4
          go_wp2_with fail
          go_ret
          exact ⟨S, by rw [HST.out]; rfl, by rw [HST.out]; exact HD1.out.turn true, HT1.out.trans (Tch.set _ ⟨d, 4, none⟩ _ HS.out), fun b hb => .inl hb⟩
        · have b3 : ((fk : Int) == 3) = false := by rw [beq_eq_false_iff_ne]; exact a3
          by_cases a4 : fk = 4
          · subst a4
            clear a1 b1 a2 b2 a3 b3
            have HSU : Hid (stepD doF paF k = ({ (doF k1).1 with off := true }, 180)) := by rw [HST.out]; rfl
            go_wp2_with fail
            refine (H1.out _ HT1.out HD1.out).mono ?_
            rintro e w2 ⟨S', rfl, hD2, hT2, hS2⟩
            have HD2 := Lib.hid hD2
            have HT2 := Lib.hid (HT1.out.trans hT2)
            have HS2 : Hid (∀ b, S' b → S b ∨ w.heap.size ≤ b) := fun b hb => (hS2 b hb).imp_right (fun h => by have := HT1.out.size; omega)
            clear hD2 hT2 hS2
            obtain ⟨_, _, q4, g4, gl⟩ := HD2.out.own4
            go_wp2_with fail
            go_ret
            exact ⟨S', by rw [HSU.out]; rfl, by rw [HSU.out]; exact HD2.out.turn true, HT2.out.trans (Tch.set _ ⟨d, 4, none⟩ _ HS.out), HS2.out⟩
          · have b4 : ((fk : Int) == 4) = false := by rw [beq_eq_false_iff_ne]; exact a4
            have HSU : Hid (stepD doF paF k = doF k1) := by show _ = _; rw [HST.out, if_neg a1, if_neg a2, if_neg a3, if_neg a4]
            go_wp2_with fail
            refine (H1.out _ HT1.out HD1.out).mono ?_
            rintro e w2 ⟨S', rfl, hD2, hT2, hS2⟩
            have HD2 := Lib.hid hD2
            have HT2 := Lib.hid (HT1.out.trans hT2)
            have HS2 : Hid (∀ b, S' b → S b ∨ w.heap.size ≤ b) := fun b hb => (hS2 b hb).imp_right (fun h => by have := HT1.out.size; omega)
            clear hD2 hT2 hS2
            go_wp2_with fail
            go_ret
            exact ⟨S', by rw [HSU.out]; rfl, by rw [HSU.out]; exact HD2.out, HT2.out, HS2.out⟩
end Go.Proofs.YtciikcmiiebfpaaGreatDoor
end

/- File -/
section
/- A file in memory: its rows grow; a file of a disk turns. -/
namespace Go.Proofs.YtciikcmiiebfpaaGreatDoor
open Go Go.RowKit Go.Maps Go.Proofs.YtciikcmiiebfpaaGreatDoorW.PrintWords Go.Proofs.YtciikcmiiebfpaaGreatDoor.PTopicsGets Go.Proofs.YtciikcmiiebfpaaGreatDoorW.PrintMore
set_option linter.unusedVariables false

section
variable {w w' w1 : World} {O O' : Nat → Own} {x : Nm} {p : Nat} {f : Fil} {sv nv cv : Value}
/-- What the walk reads of a file's own block. -/
structure FA.See (w : World) (p : Nat) (sv nv cv : Value) : Prop where
  c0 : w.cell? ⟨p, 0, none⟩ = some sv
  c1 : w.cell? ⟨p, 1, none⟩ = some nv
  c2 : w.cell? ⟨p, 2, none⟩ = some cv
  f0 : w.frozen? ⟨p, 0, none⟩ = false
  f1 : w.frozen? ⟨p, 1, none⟩ = false
  f2 : w.frozen? ⟨p, 2, none⟩ = false
  lt : p < w.heap.size
theorem see_of (h : w.heap[p]? = some (.cells #[sv, nv, cv] 252 (0, 0))) : FA.See w p sv nv cv :=
  ⟨(blk_cell h 0).trans rfl, (blk_cell h 1).trans rfl, (blk_cell h 2).trans rfl, blk_frozen h 0, blk_frozen h 1, blk_frozen h 2, blk_lt h⟩
theorem FA.see (h : FA w O x p f sv nv cv) : FA.See w p sv nv cv := see_of h.blk
theorem FA.lens (h : FA w O x p f sv nv cv) : ∃ A1 c1 A2 c2 A3 c3, sv = .slice A1 f.safe.length c1 ∧ nv = .slice A2 f.seen.length c2 ∧ cv = .slice A3 f.chs.length c3 := by
  obtain ⟨A1, c1, e1⟩ := Kd.R_slice h.safe
  obtain ⟨A2, c2, e2⟩ := Kd.R_slice h.seen
  obtain ⟨A3, c3, e3⟩ := Kd.R_slice h.chgs
  exact ⟨A1, c1, A2, c2, A3, c3, e1, e2, e3⟩
theorem set_size (w : World) (a : Addr) (v : Value) : (w.setCell a v).heap.size = w.heap.size := by simp [World.setCell]
theorem set_block (w : World) (a : Addr) (v : Value) {b : Nat} (hb : b ≠ a.block) : (w.setCell a v).heap[b]? = w.heap[b]? := Below.heap_setCell w a v b hb

theorem R_own {α : Type} {d : Kd α} {e : Nat} {c : Own} {v : Value} {xs : List α} (h : d.R e w 0 (fun b => O b = c) v xs) (hO : ∀ b, b < w.heap.size → O b = c → O' b = c) (hb : ∀ b, b < w.heap.size → O b = c → w'.heap[b]? = w.heap[b]?) : d.R e w' 0 (fun b => O' b = c) v xs :=
  Kd.R_mono (Kd.R_step (Kd.R_bound h) (fun b hk hl => hb b hl hk.1)) (fun b hk => hO b hk.2.2.1 hk.1)
theorem R_paint {α : Type} {d : Kd α} {e n : Nat} {c : Own} {v : Value} {xs : List α} (h : d.R e w1 0 (fun k => O k = c ∨ n ≤ k) v xs) : d.R e w1 0 (fun k => paint O n w1.heap.size c k = c) v xs :=
  Kd.R_mono (Kd.R_bound h) (fun b hk => by
    by_cases hn : n ≤ b
    · exact paint_new hn hk.2.2.1
    · rw [paint_old (by omega)]
      exact hk.1.elim id (fun h2 => absurd h2 hn))
/-- The row of what is seen has grown, and is stored back. -/
theorem FA.put_seen (h : FA w O x p f sv nv cv) {v1 : Value} {l : List Int} (hr : RB w1 (fun k => O k = .seen x ∨ w.heap.size ≤ k) v1 l) (hg : w.grownBy w1 nv.ownBlock) :
    FA.See w1 p sv nv cv ∧ FA (w1.setCell ⟨p, 1, none⟩ v1) (paint O w.heap.size w1.heap.size (.seen x)) x p ⟨f.safe, l, f.chs⟩ sv v1 cv := by
  have hb1 : w1.heap[p]? = some (.cells #[sv, nv, cv] 252 (0, 0)) := blk_grown h.blk hg (Kd.R_ne h.seen h.blk (by decide))
  have hpl := blk_lt h.blk
  have hkeep : ∀ b, b < w.heap.size → O b ≠ .seen x → b ≠ p → (w1.setCell ⟨p, 1, none⟩ v1).heap[b]? = w.heap[b]? := fun b hl ho hp => (set_block w1 ⟨p, 1, none⟩ v1 hp).trans (hg.block b hl (fun e => ho (h.seen.1 b e.symm)))
  have hne : ∀ {c : Own} {b : Nat}, O b = c → c ≠ .file x → b ≠ p := fun ho hc e => hc (by rw [← ho, e]; exact h.own)
  refine ⟨see_of hb1, blk_put hb1 1 v1 rfl, (paint_old hpl).trans h.own, R_own h.safe (fun b hl ho => (paint_old hl).trans ho) (fun b hl ho => hkeep b hl (by rw [ho]; exact Own.noConfusion) (hne ho Own.noConfusion)), Kd.R_step (R_paint hr) (fun b ho _ => set_block w1 ⟨p, 1, none⟩ v1 (fun e => ?_)), R_own h.chgs (fun b hl ho => (paint_old hl).trans ho) (fun b hl ho => hkeep b hl (by rw [ho]; exact Own.noConfusion) (hne ho Own.noConfusion))⟩
  have e' : b = p := e
  rw [e', paint_old hpl, h.own] at ho
  cases ho
theorem FA.put_chgs (h : FA w O x p f sv nv cv) {lo : Nat} (hlo : ∀ b, lo ≤ b → O b = .none) {v1 : Value} {l : List Chg} (hr : RC w1 (fun k => O k = .chgs x ∨ lo ≤ k) v1 l) (hg : w.grownBy w1 cv.ownBlock) :
    FA.See w1 p sv nv cv ∧ FA (w1.setCell ⟨p, 2, none⟩ v1) (paint O lo w1.heap.size (.chgs x)) x p ⟨f.safe, f.seen, l⟩ sv nv v1 := by
  have hb1 : w1.heap[p]? = some (.cells #[sv, nv, cv] 252 (0, 0)) := blk_grown h.blk hg (Kd.R_ne h.chgs h.blk (by decide))
  have hpo : ∀ {c : Own} {b : Nat}, O b = c → c ≠ .none → paint O lo w1.heap.size (.chgs x) b = c := fun {c b} ho hc => (paint_old (by
    rcases Nat.lt_or_ge b lo with h2 | h2
    · exact h2
    · exact absurd (ho.symm.trans (hlo b h2)) hc)).trans ho
  have hkeep : ∀ b, b < w.heap.size → O b ≠ .chgs x → b ≠ p → (w1.setCell ⟨p, 2, none⟩ v1).heap[b]? = w.heap[b]? := fun b hl ho hp => (set_block w1 ⟨p, 2, none⟩ v1 hp).trans (hg.block b hl (fun e => ho (h.chgs.1 b e.symm)))
  have hne : ∀ {c : Own} {b : Nat}, O b = c → c ≠ .file x → b ≠ p := fun ho hc e => hc (by rw [← ho, e]; exact h.own)
  refine ⟨see_of hb1, blk_put hb1 2 v1 rfl, hpo h.own Own.noConfusion, R_own h.safe (fun b hl ho => hpo ho Own.noConfusion) (fun b hl ho => hkeep b hl (by rw [ho]; exact Own.noConfusion) (hne ho Own.noConfusion)), R_own h.seen (fun b hl ho => hpo ho Own.noConfusion) (fun b hl ho => hkeep b hl (by rw [ho]; exact Own.noConfusion) (hne ho Own.noConfusion)), Kd.R_step (R_paint hr) (fun b ho _ => set_block w1 ⟨p, 2, none⟩ v1 (fun e => ?_))⟩
  have e' : b = p := e
  rw [e', hpo h.own Own.noConfusion] at ho
  cases ho
/-- The row of what is safe is another one, and there are no changes. -/
theorem FA.put_safe (h : FA w O x p f sv nv cv) {v1 : Value} {l : List Int} (hr : RB w1 (fun k => w.heap.size ≤ k) v1 l) (hb : Below w.heap.size w w1) :
    FA.See w1 p sv nv cv ∧ FA ((w1.setCell ⟨p, 0, none⟩ v1).setCell ⟨p, 2, none⟩ (.slice none 0 0)) (paint O w.heap.size w1.heap.size (.safe x)) x p ⟨l, f.seen, []⟩ v1 nv (.slice none 0 0) := by
  have hpl := blk_lt h.blk
  have hb1 : w1.heap[p]? = some (.cells #[sv, nv, cv] 252 (0, 0)) := (hb.block p hpl).trans h.blk
  have hkeep : ∀ b, b ≠ p → ((w1.setCell ⟨p, 0, none⟩ v1).setCell ⟨p, 2, none⟩ (.slice none 0 0)).heap[b]? = w1.heap[b]? := fun b hp => (set_block _ ⟨p, 2, none⟩ _ hp).trans (set_block w1 ⟨p, 0, none⟩ v1 hp)
  have hne : ∀ {c : Own} {b : Nat}, O b = c → c ≠ .file x → b ≠ p := fun ho hc e => hc (by rw [← ho, e]; exact h.own)
  refine ⟨see_of hb1, blk_put (blk_put hb1 0 v1 rfl) 2 (.slice none 0 0) rfl, (paint_old hpl).trans h.own, Kd.R_step (R_paint (Kd.R_mono hr (fun k hk => .inr hk))) (fun b ho _ => hkeep b (fun e => ?_)), R_own h.seen (fun b hl ho => (paint_old hl).trans ho) (fun b hl ho => (hkeep b (hne ho Own.noConfusion)).trans (hb.block b hl)), Kd.R_nil _ _ _ _ _⟩
  rw [e, paint_old hpl, h.own] at ho
  cases ho
end
/-- Blocks of the file x. -/
def OfFile (O : Nat → Own) (x : Nm) (b : Nat) : Prop := O b = .file x ∨ O b = .safe x ∨ O b = .seen x ∨ O b = .chgs x
/-- Owners of new blocks: the file's. -/
structure Grew (O O' : Nat → Own) (x : Nm) (lo hi : Nat) : Prop where
  old : ∀ b, b < lo → O' b = O b
  new : ∀ b, lo ≤ b → O' b = .none ∨ OfFile O' x b
  hi : ∀ b, hi ≤ b → O' b = O b
theorem Grew.refl {O : Nat → Own} (x : Nm) {lo hi : Nat} (h : ∀ b, lo ≤ b → O b = .none) : Grew O O x lo hi := ⟨fun _ _ => rfl, fun b hb => .inl (h b hb), fun _ _ => rfl⟩
theorem Grew.paint {O O' : Nat → Own} {x : Nm} {lo hi lo' hi' : Nat} (h : Grew O O' x lo hi) (h1 : lo ≤ lo') (h2 : hi ≤ hi') {c : Own} (hc : c = .safe x ∨ c = .seen x ∨ c = .chgs x) : Grew O (paint O' lo' hi' c) x lo hi' := by
  refine ⟨fun b hb => (paint_old (by omega)).trans (h.old b hb), fun b hb => ?_, fun b hb => ?_⟩
  · by_cases hn : lo' ≤ b ∧ b < hi'
    · right
      unfold OfFile
      rw [paint_new hn.1 hn.2]
      rcases hc with rfl | rfl | rfl <;> simp
    · have e : Own.none = Own.none := rfl
      unfold OfFile Go.Proofs.YtciikcmiiebfpaaGreatDoor.paint
      rw [if_neg hn]
      exact h.new b hb
  · unfold Go.Proofs.YtciikcmiiebfpaaGreatDoor.paint
    rw [if_neg (by omega)]
    exact h.hi b (by omega)
/-- A file of the disk turns. -/
theorem DA.turn_file {w w' : World} {d m : Nat} {O O' : Nat → Own} {k : Dk} {N N' : Nat} {pv : Value} {Z : List (Nm × (Nat × Fil))} {x : Nm} {p : Nat} {f f' : Fil} (h : DA w d m O k N pv Z) (hl : look k.files x = some f) (hz : look Z x = some (p, f)) (hF : File w' O' x p f')
    (hs : w.heap.size ≤ w'.heap.size) (hb : ∀ b, b < w.heap.size → ¬ OfFile O x b → w'.heap[b]? = w.heap[b]?) (hO : Grew O O' x w.heap.size w'.heap.size) (hok : Dk.ok { k with files := upd k.files x f' } N') :
    DA w' d m O' { k with files := upd k.files x f' } N' pv (upd Z x (p, f')) := by
  have nd : ¬ OfFile O x d := by unfold OfFile; rw [h.od]; simp
  have nm : ¬ OfFile O x m := by unfold OfFile; rw [h.om]; simp
  have ld := blk_lt h.blk
  have lm := h.mp.lt
  refine ⟨(hb d ld nd).trans h.blk, (hO.old d ld).trans h.od, (hO.old m lm).trans h.om, ?_, R_own h.plan (fun b hl ho => (hO.old b hl).trans ho) (fun b hl ho => hb b hl (by unfold OfFile; rw [ho]; simp)), ?_, fun y q g hy => ?_, fun b ho => ?_, hok⟩
  · rw [mapV_upd, upd_same h.mp.apart (by rw [look_mapV, hz]; rfl)]
    exact h.mp.kept (hb m lm nm)
  · rw [mapV_upd, ← h.files]
  · rcases mem_upd.1 hy with ⟨e, _⟩ | ⟨hy, hne⟩
    · injection e with e1 e2
      injection e2 with e2 e3
      subst e1 e2 e3
      exact hF
    · have h1 := h.file y q g hy
      have hne' : y ≠ x := hne
      refine (h1.own_ (fun b hl => hO.old b hl)).step (fun b hl ho => hb b hl (fun hx => ?_))
      rw [hO.old b hl] at ho
      rcases hx with hx | hx | hx | hx <;> rw [hx] at ho <;> rcases ho with ho | ho | ho | ho <;> first | (injection ho with ho; exact hne' ho.symm) | cases ho
  · by_cases hl : b < w.heap.size
    · omega
    · by_cases hh : b < w'.heap.size
      · exact hh
      · rw [hO.hi b (by omega)] at ho
        exact absurd (h.new (by omega)) ho
end Go.Proofs.YtciikcmiiebfpaaGreatDoor
end
