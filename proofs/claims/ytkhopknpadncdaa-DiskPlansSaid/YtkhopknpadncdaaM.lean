/- A disk in memory: a map keyed by names as a list; the files; what a call may touch. -/
import Derived.Test.YtkhopknpadncdaaP
import Derived.Test.YtkhopknpadncdaaPDiskMemoryx0
import Derived.Test.YtkhopknpadncdaaChecked
import Derived.WalkLawsBesides
import Derived.WalkSpells
import Derived.Deep.DeepMust
import Derived.Deep.RegionWith
import Derived.Laws.EntriesVeiled
import Derived.Lib.Hide
import Derived.IntWalk
import Derived.Maps.Own
import Derived.Maps.OwnOps
import Derived.Maps.OwnSet
import Derived.Maps.Views
import Derived.Maps.RangeWalk
import Derived.Sort.KeysCollected
import Derived.StringKeys
namespace Go.Proofs.Ytkhopknpadncdaa
open Go Go.RowKit Go.Maps Go.WideMaps Go.Proofs.YtkhopknpadncdaaW.PrintWords Go.Proofs.Ytkhopknpadncdaa.PDiskMemory
set_option linter.unusedVariables false

/-- Whatever is not in S is as it was. -/
structure Tch (S : Nat → Prop) (w w' : World) : Prop where
  os : w'.os = w.os
  tape : w'.tape = w.tape
  output : w'.output = w.output
  size : w.heap.size ≤ w'.heap.size
  block : ∀ k, k < w.heap.size → ¬ S k → w'.heap[k]? = w.heap[k]?
theorem Tch.refl (S : Nat → Prop) (w : World) : Tch S w w := ⟨rfl, rfl, rfl, Nat.le_refl _, fun _ _ _ => rfl⟩
theorem Tch.of_below {S : Nat → Prop} {w w' : World} (h : Below w.heap.size w w') : Tch S w w' := ⟨h.os, h.tape, h.output, h.size, fun k hk _ => h.block k hk⟩
theorem Tch.trans {S : Nat → Prop} {a b c : World} (h : Tch S a b) (k : Tch S b c) : Tch S a c :=
  ⟨k.os.trans h.os, k.tape.trans h.tape, k.output.trans h.output, Nat.le_trans h.size k.size, fun i hi hn => (k.block i (Nat.lt_of_lt_of_le hi h.size) hn).trans (h.block i hi hn)⟩
/-- What is touched next may be new. -/
theorem Tch.then_ {S T : Nat → Prop} {a b c : World} (h : Tch S a b) (k : Tch T b c) (hs : ∀ i, T i → S i ∨ a.heap.size ≤ i) : Tch S a c :=
  ⟨k.os.trans h.os, k.tape.trans h.tape, k.output.trans h.output, Nat.le_trans h.size k.size, fun i hi hn => (k.block i (Nat.lt_of_lt_of_le hi h.size) (fun ht => (hs i ht).elim hn (fun h2 => by omega))).trans (h.block i hi hn)⟩
theorem Tch.mono {S T : Nat → Prop} {w w' : World} (h : Tch S w w') (hS : ∀ k, S k → T k) : Tch T w w' := ⟨h.os, h.tape, h.output, h.size, fun k hk hn => h.block k hk fun hs => hn (hS k hs)⟩
theorem Tch.below {S : Nat → Prop} {B : Nat} {w w' : World} (h : Tch S w w') (hB : B ≤ w.heap.size) (hS : ∀ k, S k → B ≤ k) : Below B w w' := ⟨h.os, h.tape, h.output, h.size, fun k hk => h.block k (by omega) fun hs => by have := hS k hs; omega⟩
theorem Tch.cell {S : Nat → Prop} {w w' : World} (h : Tch S w w') {a : Addr} (ha : a.block < w.heap.size) (hn : ¬ S a.block) : w'.cell? a = w.cell? a := World.cell?_of_block (w := w) (h.block _ ha hn)
theorem Tch.frozen {S : Nat → Prop} {w w' : World} (h : Tch S w w') {a : Addr} (ha : a.block < w.heap.size) (hn : ¬ S a.block) : w'.frozen? a = w.frozen? a := by
  unfold World.frozen?
  rw [h.block _ ha hn]
theorem Tch.of_grown {S : Nat → Prop} {w w' : World} {row : Option Nat} (hg : w.grownBy w' row) (hr : ∀ k, row = some k → S k) : Tch S w w' := ⟨hg.os, hg.tape, hg.output, hg.size, fun k hk hn => hg.block k hk (fun e => hn (hr k e.symm))⟩
theorem Tch.set {S : Nat → Prop} (w : World) (p : Addr) (v : Value) (hp : S p.block) : Tch S w (w.setCell p v) := ⟨rfl, rfl, rfl, by simp [World.setCell], fun k _ hn => Below.heap_setCell w p v k (fun e => hn (by rw [e]; exact hp))⟩
theorem Tch.drew {S : Nat → Prop} {a b : World} (h : Tch S a b) : Tch S a b.drew := h.trans (Tch.of_below (below_drew (Below.refl _ _)))
theorem Tch.alloc {S : Nat → Prop} {a b : World} (h : Tch S a b) (o : Obj) : Tch S a (b.alloc o) := h.trans (Tch.of_below ((Below.refl _ _).alloc (Nat.le_refl _) _))

/-- Who owns a block. -/
inductive Own where
  | none
  | disk
  | map
  | plan
  | file (x : Nm)
  | safe (x : Nm)
  | seen (x : Nm)
  | chgs (x : Nm)
/-- Blocks from lo to hi get an owner. -/
def paint (O : Nat → Own) (lo hi : Nat) (c : Own) : Nat → Own := fun b => if lo ≤ b ∧ b < hi then c else O b
theorem paint_old {O : Nat → Own} {lo hi : Nat} {c : Own} {b : Nat} (h : b < lo) : paint O lo hi c b = O b := if_neg (by omega)
theorem paint_new {O : Nat → Own} {lo hi : Nat} {c : Own} {b : Nat} (h : lo ≤ b) (h2 : b < hi) : paint O lo hi c b = c := if_pos ⟨h, h2⟩

/-- An element reads as itself. -/
def raw (v : Value) : Option (DataW Value × List MemPlace) := some (.held v, [])
theorem keyed : Keyed Try.prog 9 := string_keyed Try.underlying9
def fptr (p : Nat) : Value := .pointer (some ⟨p, 0, none⟩)
def optr : Option Nat → Value
  | some p => fptr p
  | none => .pointer none
/-- A list of names and blocks as a map's datum. -/
def dat (L : List (Nm × Nat)) : DataW Value := .map (L.map fun p => (.string p.1, .held (fptr p.2)))
/-- Block b is a map that holds the list. -/
def ML (w : World) (b : Nat) (L : List (Nm × Nat)) : Prop := w.ownsMap Try.prog 9 raw b L.length (dat L)
theorem zeroF (w : World) : (zeroValue 80).run Try.prog w = .ok (.pointer none) w := by kernel_rfl
theorem hkey {s : ByteArray} (h : s.size ≤ maxLen) : keyOf Try.prog 9 (.string s) = some (.string s.data.toList) := keyOf_string_mk Try.underlying9 h

theorem same_str (x y : Nm) : (Lit.string x).sameKey (.string y) = (x == y) := rfl
theorem dat_ins (x : Nm) (p : Nat) : ∀ L : List (Nm × Nat), DataW.insert (.string x, .held (fptr p)) (L.map fun p => (Lit.string p.1, DataW.held (fptr p.2))) = (ins (x, p) L).map fun p => (Lit.string p.1, DataW.held (fptr p.2))
  | [] => rfl
  | y :: r => by
    unfold ins
    rw [List.map_cons]
    unfold DataW.insert
    have e : (Lit.string x).before (Lit.string y.1) = bytesBefore x y.1 := rfl
    simp only [e]
    by_cases h : bytesBefore x y.1 = true
    · simp [h]
    · rw [if_neg h, if_neg h, List.map_cons]
      congr 1
      exact dat_ins x p r
theorem dat_put (L : List (Nm × Nat)) (x : Nm) (p : Nat) : (dat L).put (.string x) (.held (fptr p)) = dat (put L x p) := by
  unfold dat DataW.put put del
  simp only
  rw [← dat_ins, List.filter_map]
  rfl
theorem dat_del (L : List (Nm × Nat)) (x : Nm) : (dat L).del (.string x) = dat (del L x) := by
  unfold dat DataW.del del
  simp only
  rw [List.filter_map]
  rfl
theorem dat_at (L : List (Nm × Nat)) (x : Nm) : (dat L).atKey (.string x) (.held (.pointer none)) = .held (optr (look L x)) := by
  unfold dat DataW.atKey look
  simp only
  rw [List.find?_map]
  have e : ((fun p : Lit × DataW Value => p.1.sameKey (.string x)) ∘ fun p : Nm × Nat => (Lit.string p.1, DataW.held (fptr p.2))) = fun p => p.1 == x := rfl
  rw [e]
  cases h : L.find? (fun p => p.1 == x) <;> rfl
theorem dat_size (L : List (Nm × Nat)) : Maps.size (dat L) = L.length := by
  unfold dat
  rw [size_eq, List.length_map]
theorem dat_keys (L : List (Nm × Nat)) : strKeys (dat L) = L.map (·.1) := by
  unfold dat strKeys
  simp only
  rw [List.map_map]
  rfl

theorem ML.of {w : World} {b n : Nat} {L : List (Nm × Nat)} (h : w.ownsMap Try.prog 9 raw b n (dat L)) : ML w b L := by
  obtain ⟨es, clock, h1, h2, h3, h4⟩ := h
  refine ⟨es, clock, h1, h2, ?_, h4⟩
  unfold dat at h4
  injection h4 with h4
  have h5 : L.length = es.size := by
    have := congrArg List.length h4
    rw [length_sorted, List.length_map, List.length_map, Array.length_toList] at this
    exact this
  exact Nat.le_of_eq h5.symm
theorem ML.lt {w : World} {b : Nat} {L : List (Nm × Nat)} (h : ML w b L) : b < w.heap.size := World.ownsMap.lt h
theorem ML.kept {w w' : World} {b : Nat} {L : List (Nm × Nat)} (h : ML w b L) (hb : w'.heap[b]? = w.heap[b]?) : ML w' b L := by
  obtain ⟨es, clock, h1, h2⟩ := h
  exact ⟨es, clock, hb.trans h1, h2⟩
theorem ML.is_map {w : World} {b : Nat} {L : List (Nm × Nat)} (h : ML w b L) : ∃ es c, w.heap[b]? = some (.map es c) := by
  obtain ⟨es, clock, h1, _⟩ := h
  exact ⟨es, clock, h1⟩
theorem ML.apart {w : World} {b : Nat} {L : List (Nm × Nat)} (h : ML w b L) : L.Pairwise fun p q => p.1 ≠ q.1 := by
  obtain ⟨es, e, hp⟩ := World.ownsMap.tidy h keyed
  unfold dat at e
  injection e with e
  rw [← e] at hp
  refine (List.pairwise_map.1 hp).imp (fun h h2 => h ?_)
  simp only [h2]
theorem ML.sorted {w : World} {b : Nat} {L : List (Nm × Nat)} (h : ML w b L) : Srt L := by
  obtain ⟨es, clock, _, F, _, hD⟩ := h
  have h1 := sorted_sorted (Keyed.one keyed) _ (fit_keys F) (fit_apart keyed F)
  unfold dat at hD
  injection hD with hD
  rw [← hD] at h1
  exact List.pairwise_map.1 h1
theorem ML.made (w : World) : ML (w.alloc (.map #[] 0)) w.heap.size [] := World.ownsMap_made _ _ _ _
/-- 'm[k]', as an equation of the run. -/
theorem ML.look_run {w : World} {b : Nat} {L : List (Nm × Nat)} (h : ML w b L) {s : ByteArray} (hs : s.size ≤ maxLen) :
    (Instr.lookup 75 (.map (some b)) (.string s) false).run Try.prog w = .ok (optr (look L s.data.toList)) w := by
  obtain ⟨v, ps, hrun, hv⟩ := World.ownsMap.lookup h keyed Try.underlying75 (zeroF w) (zd := .held (.pointer none)) (zp := []) rfl (hkey hs)
  rw [dat_at] at hv
  unfold raw at hv
  simp only [Option.some.injEq, Prod.mk.injEq, DataW.held.injEq] at hv
  rw [hrun, hv.1]
theorem ML.len_run {w : World} {b : Nat} {L : List (Nm × Nat)} (h : ML w b L) (ty : TypeId) : (Builtin.len_ #[75] ty #[.map (some b)]).run Try.prog w = .ok (.int .i64 L.length) w := by
  have := World.ownsMap.len h Try.underlying75 ty
  rw [dat_size] at this
  exact this
theorem ML.put_run {w : World} {b : Nat} {L : List (Nm × Nat)} (h : ML w b L) (hn : L.length < maxLen) {s : ByteArray} (hs : s.size ≤ maxLen) (p : Nat) :
    ∃ w', (Instr.mapUpdate 75 (.map (some b)) (.string s) (fptr p)).run Try.prog w = .ok () w' ∧ ML w' b (put L s.data.toList p) ∧ w.grownBy w' (some b) := by
  obtain ⟨w', hrun, r1, r2⟩ := World.ownsMap.update h keyed Try.underlying75 hn (val := fptr p) (d := .held (fptr p)) (ps := []) (hkey hs) rfl
  rw [dat_put] at r1
  exact ⟨w', hrun, ML.of r1, r2⟩

/-- A change. -/
def kChg : Kd Chg := Kd.iso (Kd.pair Kd.bool (Kd.pair (Kd.int .i64) (Kd.slice 5 (Kd.int .u8)))) (fun c => (c.cuts, c.to, c.add))
theorem kChg_sz : kChg.sz = 3 := rfl
/-- A fate. -/
def kFat : Kd Fat := Kd.iso (Kd.pair (Kd.int .i64) (Kd.pair (Kd.int .i64) (Kd.int .i64))) (fun c => (c.step, c.kind, c.n))
/-- A row of bytes. -/
abbrev RB (w : World) (ok : Nat → Prop) (v : Value) (l : List Int) : Prop := (Kd.int .u8).R 5 w 0 ok v l
abbrev RC (w : World) (ok : Nat → Prop) (v : Value) (l : List Chg) : Prop := kChg.R 98 w 0 ok v l

/-- The file x, at block p. -/
structure FA (w : World) (O : Nat → Own) (x : Nm) (p : Nat) (f : Fil) (sv nv cv : Value) : Prop where
  blk : w.heap[p]? = some (.cells #[sv, nv, cv] 89 (0, 0))
  own : O p = .file x
  safe : RB w (fun b => O b = .safe x) sv f.safe
  seen : RB w (fun b => O b = .seen x) nv f.seen
  chgs : RC w (fun b => O b = .chgs x) cv f.chs
def File (w : World) (O : Nat → Own) (x : Nm) (p : Nat) (f : Fil) : Prop := ∃ sv nv cv, FA w O x p f sv nv cv

/-- The disk at block d, its map at block m. -/
structure DA (w : World) (d m : Nat) (O : Nat → Own) (k : Dk) (N : Nat) (pv : Value) (Z : List (Nm × (Nat × Fil))) : Prop where
  blk : w.heap[d]? = some (.cells #[.map (some m), .int .i64 k.room, pv, .int .i64 k.steps, .bool k.off] 77 (0, 0))
  od : O d = .disk
  om : O m = .map
  mp : ML w m (mapV (·.1) Z)
  plan : kFat.R 26 w 0 (fun b => O b = .plan) pv k.plan
  files : k.files = mapV (·.2) Z
  file : ∀ x p f, (x, (p, f)) ∈ Z → File w O x p f
  lt : ∀ b, O b ≠ .none → b < w.heap.size
  ok : k.ok N
/-- A disk; S: its blocks. -/
def Disk (w : World) (d : Nat) (S : Nat → Prop) (k : Dk) (N : Nat) : Prop := ∃ m O pv Z, DA w d m O k N pv Z ∧ ∀ b, S b ↔ O b ≠ .none

section
variable {w w' : World} {O O' : Nat → Own} {x : Nm} {p : Nat} {f : Fil} {sv nv cv : Value}
theorem FA.step (h : FA w O x p f sv nv cv) (hb : ∀ b, b < w.heap.size → (O b = .file x ∨ O b = .safe x ∨ O b = .seen x ∨ O b = .chgs x) → w'.heap[b]? = w.heap[b]?) : FA w' O x p f sv nv cv :=
  ⟨(hb p (Array.getElem?_eq_some_iff.1 h.blk).1 (.inl h.own)).trans h.blk, h.own, Kd.R_step h.safe (fun b ho hl => hb b hl (.inr (.inl ho))), Kd.R_step h.seen (fun b ho hl => hb b hl (.inr (.inr (.inl ho)))), Kd.R_step h.chgs (fun b ho hl => hb b hl (.inr (.inr (.inr ho))))⟩
/-- New blocks get owners. -/
theorem FA.own_ (h : FA w O x p f sv nv cv) (ho : ∀ b, b < w.heap.size → O' b = O b) : FA w O' x p f sv nv cv :=
  ⟨h.blk, (ho p (Array.getElem?_eq_some_iff.1 h.blk).1).trans h.own, Kd.R_mono (Kd.R_bound h.safe) (fun b hb => (ho b hb.2.2.1).trans hb.1), Kd.R_mono (Kd.R_bound h.seen) (fun b hb => (ho b hb.2.2.1).trans hb.1), Kd.R_mono (Kd.R_bound h.chgs) (fun b hb => (ho b hb.2.2.1).trans hb.1)⟩
theorem File.step (h : File w O x p f) (hb : ∀ b, b < w.heap.size → (O b = .file x ∨ O b = .safe x ∨ O b = .seen x ∨ O b = .chgs x) → w'.heap[b]? = w.heap[b]?) : File w' O x p f := by
  obtain ⟨sv, nv, cv, h⟩ := h
  exact ⟨sv, nv, cv, h.step hb⟩
theorem File.own_ (h : File w O x p f) (ho : ∀ b, b < w.heap.size → O' b = O b) : File w O' x p f := by
  obtain ⟨sv, nv, cv, h⟩ := h
  exact ⟨sv, nv, cv, h.own_ ho⟩
theorem File.lt (h : File w O x p f) : p < w.heap.size := by
  obtain ⟨sv, nv, cv, h⟩ := h
  exact (Array.getElem?_eq_some_iff.1 h.blk).1
end
section
variable {w w' : World} {d m : Nat} {O : Nat → Own} {k : Dk} {N : Nat} {pv : Value} {Z : List (Nm × (Nat × Fil))} {S : Nat → Prop}
/-- Nothing of the disk's has turned. -/
theorem DA.step (h : DA w d m O k N pv Z) (hs : w.heap.size ≤ w'.heap.size) (hb : ∀ b, b < w.heap.size → O b ≠ .none → w'.heap[b]? = w.heap[b]?) : DA w' d m O k N pv Z :=
  ⟨(hb d (Array.getElem?_eq_some_iff.1 h.blk).1 (by rw [h.od]; exact Own.noConfusion)).trans h.blk, h.od, h.om, h.mp.kept (hb m h.mp.lt (by rw [h.om]; exact Own.noConfusion)), Kd.R_step h.plan (fun b ho hl => hb b hl (by rw [ho]; exact Own.noConfusion)), h.files,
    fun x p f hz => (h.file x p f hz).step (fun b hl ho => hb b hl (by rcases ho with ho | ho | ho | ho <;> rw [ho] <;> exact Own.noConfusion)), fun b hb => Nat.lt_of_lt_of_le (h.lt b hb) hs, h.ok⟩
theorem Disk.tch {T : Nat → Prop} (h : Disk w d S k N) (ht : Tch T w w') (hd : ∀ b, T b → ¬ S b) : Disk w' d S k N := by
  obtain ⟨m, O, pv, Z, h, hS⟩ := h
  exact ⟨m, O, pv, Z, h.step ht.size (fun b hl ho => ht.block b hl (fun hT => hd b hT ((hS b).2 ho))), hS⟩
theorem Disk.below (h : Disk w d S k N) (hb : Below w.heap.size w w') : Disk w' d S k N := h.tch (T := fun _ => False) (Tch.of_below hb) (fun _ h => h.elim)
theorem Disk.lt (h : Disk w d S k N) {b : Nat} (hb : S b) : b < w.heap.size := by
  obtain ⟨m, O, pv, Z, h, hS⟩ := h
  exact h.lt b ((hS b).1 hb)
theorem Disk.self (h : Disk w d S k N) : S d := by
  obtain ⟨m, O, pv, Z, h, hS⟩ := h
  exact (hS d).2 (by rw [h.od]; exact Own.noConfusion)
theorem DA.apart (h : DA w d m O k N pv Z) : Z.Pairwise fun p q => p.1 ≠ q.1 := by
  have h1 := h.mp.apart
  unfold mapV at h1
  exact (List.pairwise_map (f := fun p : Nm × (Nat × Fil) => (p.1, p.2.1))).1 h1
end
end Go.Proofs.Ytkhopknpadncdaa
