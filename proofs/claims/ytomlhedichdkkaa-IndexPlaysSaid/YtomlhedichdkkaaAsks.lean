/- One call of a script: what it leaves; the calls of no kind, At, Since, Span. -/
import Derived.Test.YtomlhedichdkkaaRAdd
namespace Go.Proofs.Ytomlhedichdkkaa
open Go Go.RowKit
set_option linter.unusedVariables false

/-- A call of a script as a value. -/
def opVal (kd : Int) (e : Ent) (N M : Int) : Value := .agg #[.int .i64 kd, .int .i64 e.base, .int .i64 e.count, .int .i64 e.at_, .int .i64 e.size, .int .i64 e.last, .int .i64 e.pid, .int .i16 e.pep, .int .i32 e.seq, .int .i64 N, .int .i64 M]
def opObj (kd : Int) (e : Ent) (N M : Int) : Go.Obj := .cells #[.int .i64 kd, .int .i64 e.base, .int .i64 e.count, .int .i64 e.at_, .int .i64 e.size, .int .i64 e.last, .int .i64 e.pid, .int .i16 e.pep, .int .i32 e.seq, .int .i64 N, .int .i64 M] 49

/-- The index and the model's row lie apart. -/
structure Apart (w : World) (g : Nat) (base : Int) (L : List Ent) (A : Option Addr) (P : Nat → Prop) : Prop where
  obj : Obj w g base L P
  lt : ∀ k, P k → k < w.heap.size
  row : Row w A L
  off : ∀ a, A = some a → 0 < L.length → ¬ P a.block

/-- What a call of a script leaves. -/
def AskAns (w : World) (g : Nat) (base : Int) (L : List Ent) (A : Option Addr) (P : Nat → Prop) (r : Ending) (w' : World) : Prop :=
  ∃ L' A' c' P', r = .returned (.tuple #[.agg #[.int .i64 base, .slice A' L'.length c'], .bool true]) ∧ Apart w' g base L' A' P' ∧ (∀ k, P' k → P k ∨ w.heap.size ≤ k) ∧ Kept P w w' ∧ L'.length ≤ L.length + 1 ∧ (∀ a, A' = some a → 0 < L'.length → (A' = A ∧ 0 < L.length) ∨ w.heap.size ≤ a.block)

theorem Apart.below {w w' : World} {g : Nat} {base : Int} {L : List Ent} {A : Option Addr} {P : Nat → Prop} (h : Apart w g base L A P) (hb : Below w.heap.size w w') : Apart w' g base L A P :=
  ⟨h.obj.below hb, fun k hk => Nat.lt_of_lt_of_le (h.lt k hk) hb.size, h.row.below' hb, h.off⟩
theorem AskAns.same {w w' : World} {g : Nat} {base : Int} {L : List Ent} {A : Option Addr} {c n : Nat} {P : Nat → Prop} (h : Apart w g base L A P) (hn : L.length = n) (hb : Below w.heap.size w w') {r : Ending} (hr : r = .returned (.tuple #[.agg #[.int .i64 base, .slice A n c], .bool true])) : AskAns w g base L A P r w' := by
  subst hn
  exact ⟨L, A, c, P, hr, h.below hb, fun k hk => .inl hk, Kept.of_below hb, Nat.le_succ _, fun a _ hl => .inl ⟨rfl, hl⟩⟩

def OBox (w : World) (b : Nat) (kd : Int) (e : Ent) (N M : Int) : Prop := w.heap[b]? = some (opObj kd e N M)
structure OpCells (w : World) (b : Nat) (kd : Int) (e : Ent) (N M : Int) : Prop where
  k0 : w.cell? ⟨b, 0, none⟩ = some (.int .i64 kd)
  c0 : w.cell? ⟨b, 1, none⟩ = some (.int .i64 e.base)
  c1 : w.cell? ⟨b, 2, none⟩ = some (.int .i64 e.count)
  c2 : w.cell? ⟨b, 3, none⟩ = some (.int .i64 e.at_)
  c3 : w.cell? ⟨b, 4, none⟩ = some (.int .i64 e.size)
  c4 : w.cell? ⟨b, 5, none⟩ = some (.int .i64 e.last)
  c5 : w.cell? ⟨b, 6, none⟩ = some (.int .i64 e.pid)
  c6 : w.cell? ⟨b, 7, none⟩ = some (.int .i16 e.pep)
  c7 : w.cell? ⟨b, 8, none⟩ = some (.int .i32 e.seq)
  k1 : w.cell? ⟨b, 9, none⟩ = some (.int .i64 N)
  k2 : w.cell? ⟨b, 10, none⟩ = some (.int .i64 M)
theorem OBox.c {w : World} {b : Nat} {kd : Int} {e : Ent} {N M : Int} (h : OBox w b kd e N M) : OpCells w b kd e N M := by
  have k := fun j => cell_of_row w b j _ _ _ h
  exact ⟨k 0, k 1, k 2, k 3, k 4, k 5, k 6, k 7, k 8, k 9, k 10⟩
theorem OBox.lt {w : World} {b : Nat} {kd : Int} {e : Ent} {N M : Int} (h : OBox w b kd e N M) : b < w.heap.size := (Array.getElem?_eq_some_iff.1 h).1
theorem OBox.below {w w' : World} {B b : Nat} {kd : Int} {e : Ent} {N M : Int} (h : OBox w b kd e N M) (hb : Below B w w') (hl : b < B) : OBox w' b kd e N M := (hb.block b hl).trans h

/-- The three boxes at the head of 'asks'. -/
structure AHeads (w W3 : World) (base : Int) (v : Value) (kd : Int) (e : Ent) (N M : Int) : Prop where
  x : RBox W3 w.heap.size base v
  o : OBox W3 (w.heap.size + 1) kd e N M
  r : RBox W3 (w.heap.size + 1 + 1) 0 (.slice none 0 0)
  b : Below w.heap.size w W3
theorem aheads (w : World) (base : Int) (v : Value) (kd : Int) (e : Ent) (N M : Int) : AHeads w (((w.alloc (.cells #[.int .i64 base, v] 47)).alloc (opObj kd e N M)).alloc (.cells #[.int .i64 0, .slice none 0 0] 47)) base v kd e N M := by
  have hb1 := (Below.refl w.heap.size w).alloc (Nat.le_refl _) (.cells #[.int .i64 base, v] 47)
  have hb2 := hb1.alloc hb1.size (opObj kd e N M)
  have hx := rbox w base v
  have he : OBox ((w.alloc (.cells #[.int .i64 base, v] 47)).alloc (opObj kd e N M)) (w.alloc (.cells #[.int .i64 base, v] 47)).heap.size kd e N M := heap_alloc_new _ _
  have hr := rbox ((w.alloc (.cells #[.int .i64 base, v] 47)).alloc (opObj kd e N M)) 0 (.slice none 0 0)
  have s1 : (w.alloc (.cells #[.int .i64 base, v] 47)).heap.size = w.heap.size + 1 := by simp
  have s2 : ((w.alloc (.cells #[.int .i64 base, v] 47)).alloc (opObj kd e N M)).heap.size = w.heap.size + 1 + 1 := by simp
  rw [s1] at he
  rw [s2] at hr
  have hx2 := hx.below ((Below.refl _ _).alloc (Nat.le_refl _) (opObj kd e N M)) hx.lt
  exact ⟨hx2.below ((Below.refl _ _).alloc (Nat.le_refl _) _) hx2.lt, he.below ((Below.refl _ _).alloc (Nat.le_refl _) _) he.lt, hr, hb2.alloc hb2.size _⟩

theorem AHeads.below {w W3 W4 : World} {base : Int} {v : Value} {kd : Int} {e : Ent} {N M : Int} (h : AHeads w W3 base v kd e N M) (hb : Below W3.heap.size W3 W4) : AHeads w W4 base v kd e N M :=
  ⟨h.x.below hb h.x.lt, h.o.below hb h.o.lt, h.r.below hb h.r.lt, h.b.trans (hb.mono h.b.size)⟩

/-- The end: what is stored into the result's box is an index, and nothing below has turned. -/
theorem put_res {w W : World} {v : Value} (base : Int) (hb : Below w.heap.size w W) : Below w.heap.size w ((W.setCell ⟨w.heap.size + 1 + 1, 0, none⟩ (.int .i64 base)).setCell ⟨w.heap.size + 1 + 1, 1, none⟩ v) := by
  iterate 2 refine Below.setCell ?_ (by show w.heap.size ≤ w.heap.size + 1 + 1; omega) _
  exact hb

section
variable (w : World) (g : Nat) (base : Int) (L : List Ent) (A : Option Addr) (c n : Nat) (P : Nat → Prop) (hn : L.length = n) (hm : n ≤ 1759218604390) (hap : Apart w g base L A P)
include hn hap

set_option maxRecDepth 20000 in
set_option maxHeartbeats 2000000 in
theorem asks_none (kd : Int) (e : Ent) (N M : Int) (hk : kd < 1 ∨ 7 < kd) :
    Calls Try.prog 21 #[.pointer (some ⟨g, 0, none⟩), .agg #[.int .i64 base, .slice A n c], opVal kd e N M] w (AskAns w g base L A P) := by
  have HN := Lib.hid hn
  have HAP := Lib.hid hap
  have hh := aheads w base (.slice A n c) kd e N M
  simp only [opObj] at hh
  have HH := Lib.hid hh
  unfold opVal
  have j1 : (kd == 1) = false := by rw [beq_eq_false_iff_ne]; omega
  have j2 : (kd == 2) = false := by rw [beq_eq_false_iff_ne]; omega
  have j3 : (kd == 3) = false := by rw [beq_eq_false_iff_ne]; omega
  have j4 : (kd == 4) = false := by rw [beq_eq_false_iff_ne]; omega
  have j5 : (kd == 5) = false := by rw [beq_eq_false_iff_ne]; omega
  have j6 : (kd == 6) = false := by rw [beq_eq_false_iff_ne]; omega
  have j7 : (kd == 7) = false := by rw [beq_eq_false_iff_ne]; omega
  clear hk hap hn hh
  go_enter Try.func21, Try.ntmps21
  go_wp2_with fail
  refine bodyPost_ret (v := .tuple #[.agg #[.int .i64 base, .slice A n c], .bool true]) ?_ rfl (AskAns.same HAP.out HN.out ?_ rfl)
  · rw [results_cell_tmp rfl]
    go_simp
    try rfl
  · exact (((Below.refl _ _).alloc (Nat.le_refl _) _).alloc (by simp) _).alloc (by simp; omega) _
end
end Go.Proofs.Ytomlhedichdkkaa
