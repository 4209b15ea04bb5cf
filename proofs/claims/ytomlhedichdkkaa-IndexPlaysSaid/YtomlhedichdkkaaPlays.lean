/- The law IndexPlays: the loop over the script. -/
import Derived.Test.YtomlhedichdkkaaAsks5
namespace Go.Proofs.Ytomlhedichdkkaa
open Go Go.RowKit
set_option linter.unusedVariables false

/-- A call of a script. -/
structure Opr where
  kd : Int
  e : Ent
  N : Int
  M : Int

def Opr.vs (x : Opr) : List Value := [.int .i64 x.kd, .int .i64 x.e.base, .int .i64 x.e.count, .int .i64 x.e.at_, .int .i64 x.e.size, .int .i64 x.e.last, .int .i64 x.e.pid, .int .i16 x.e.pep, .int .i32 x.e.seq, .int .i64 x.N, .int .i64 x.M]
structure OprAt (w : World) (b o : Nat) (x : Opr) : Prop where
  c0 : w.cell? ⟨b, o, none⟩ = some (.int .i64 x.kd)
  c1 : w.cell? ⟨b, o + 1, none⟩ = some (.int .i64 x.e.base)
  c2 : w.cell? ⟨b, o + 2, none⟩ = some (.int .i64 x.e.count)
  c3 : w.cell? ⟨b, o + 3, none⟩ = some (.int .i64 x.e.at_)
  c4 : w.cell? ⟨b, o + 4, none⟩ = some (.int .i64 x.e.size)
  c5 : w.cell? ⟨b, o + 5, none⟩ = some (.int .i64 x.e.last)
  c6 : w.cell? ⟨b, o + 6, none⟩ = some (.int .i64 x.e.pid)
  c7 : w.cell? ⟨b, o + 7, none⟩ = some (.int .i16 x.e.pep)
  c8 : w.cell? ⟨b, o + 8, none⟩ = some (.int .i32 x.e.seq)
  c9 : w.cell? ⟨b, o + 9, none⟩ = some (.int .i64 x.N)
  c10 : w.cell? ⟨b, o + 10, none⟩ = some (.int .i64 x.M)
theorem OprAt.below {w w' : World} {b o B : Nat} {x : Opr} (h : OprAt w b o x) (hb : Below B w w') (hl : b < B) : OprAt w' b o x := by
  have k := fun (j : Nat) (v : Value) (hv : w.cell? ⟨b, j, none⟩ = some v) => (hb.cell (p := ⟨b, j, none⟩) hl).trans hv
  exact ⟨k _ _ h.c0, k _ _ h.c1, k _ _ h.c2, k _ _ h.c3, k _ _ h.c4, k _ _ h.c5, k _ _ h.c6, k _ _ h.c7, k _ _ h.c8, k _ _ h.c9, k _ _ h.c10⟩

/-- A script that is read only. -/
def ORow (w : World) (A : Option Addr) (xs : List Opr) : Prop :=
  0 < xs.length → ∃ b o, A = some ⟨b, o, none⟩ ∧ b < w.heap.size ∧ ∀ i x, xs[i]? = some x → OprAt w b (o + i * 11) x ∧ -9223372036854775808 ≤ x.M ∧ x.M ≤ 9223372036854775807
theorem ORow.below {w w' : World} {A : Option Addr} {xs : List Opr} (h : ORow w A xs) (hb : Below w.heap.size w w') : ORow w' A xs := fun hn => by
  obtain ⟨b, o, rfl, hlt, hc⟩ := h hn
  exact ⟨b, o, rfl, Nat.lt_of_lt_of_le hlt hb.size, fun i x hx => ⟨(hc i x hx).1.below hb hlt, (hc i x hx).2⟩⟩

theorem asks_any (w : World) (g : Nat) (base : Int) (L : List Ent) (A : Option Addr) (c n : Nat) (P : Nat → Prop) (hn : L.length = n) (hm : n ≤ 1759218604390) (hap : Apart w g base L A P) (x : Opr) (hM : -9223372036854775808 ≤ x.M ∧ x.M ≤ 9223372036854775807) :
    Calls Try.prog 21 #[.pointer (some ⟨g, 0, none⟩), .agg #[.int .i64 base, .slice A n c], opVal x.kd x.e x.N x.M] w (AskAns w g base L A P) := by
  obtain ⟨kd, e, N, M⟩ := x
  simp only at hM ⊢
  by_cases h : kd < 1 ∨ 7 < kd
  · exact asks_none w g base L A c n P hn hap kd e N M h
  · have : kd = 1 ∨ kd = 2 ∨ kd = 3 ∨ kd = 4 ∨ kd = 5 ∨ kd = 6 ∨ kd = 7 := by omega
    rcases this with rfl | rfl | rfl | rfl | rfl | rfl | rfl
    · exact asks_add w g base L A c n P hn hm hap e N M
    · exact asks_follow w g base L A c n P hn hm hap e N M
    · exact asks_at w g base L A c n P hn hm hap e N M
    · exact asks_since w g base L A c n P hn hm hap e N M
    · exact asks_span w g base L A c n P hn hm hap e N M hM
    · exact asks_back w g base L A c n P hn hm hap e N M hM
    · exact asks_all w g base L A c n P hn hm hap e N M

/-- Where the loop stands: the index, the model in its box, both the law's own. -/
structure Stand (w wr : World) (g bm : Nat) (base : Int) (L : List Ent) (A : Option Addr) (c : Nat) (P : Nat → Prop) : Prop where
  ap : Apart wr g base L A P
  box : RBox wr bm base (.slice A L.length c)
  own : ∀ k, P k → w.heap.size ≤ k
  far : ¬ P bm
  row : ∀ a, A = some a → 0 < L.length → a.block ≠ bm
  bel : Below w.heap.size w wr
  ge : w.heap.size ≤ bm
theorem Stand.below {w wr w' : World} {g bm : Nat} {base : Int} {L : List Ent} {A : Option Addr} {c : Nat} {P : Nat → Prop} (h : Stand w wr g bm base L A c P) (hb : Below wr.heap.size wr w') : Stand w w' g bm base L A c P :=
  ⟨h.ap.below hb, h.box.below hb h.box.lt, h.own, h.far, h.row, h.bel.trans (hb.mono h.bel.size), h.ge⟩
/-- A call of the script, then the model's box is written. -/
theorem Stand.asked {w wr w1 : World} {g bm : Nat} {base : Int} {L L' : List Ent} {A A' : Option Addr} {c c' : Nat} {P P' : Nat → Prop} (h : Stand w wr g bm base L A c P)
    (ha : Apart w1 g base L' A' P') (hp : ∀ k, P' k → P k ∨ wr.heap.size ≤ k) (hk : Kept P wr w1) (hq : ∀ a, A' = some a → 0 < L'.length → (A' = A ∧ 0 < L.length) ∨ wr.heap.size ≤ a.block) :
    Stand w ((w1.setCell ⟨bm, 0, none⟩ (.int .i64 base)).setCell ⟨bm, 1, none⟩ (.slice A' L'.length c')) g bm base L' A' c' P' := by
  have hbm := h.box.lt
  have hs : Kept (fun k => k = bm) w1 ((w1.setCell ⟨bm, 0, none⟩ (.int .i64 base)).setCell ⟨bm, 1, none⟩ (.slice A' L'.length c')) := kept_store
  have hrow : ∀ a, A' = some a → 0 < L'.length → a.block ≠ bm := fun a ha hl => by
    rcases hq a ha hl with ⟨h1, h2⟩ | h3
    · exact h.row a (h1 ▸ ha) h2
    · omega
  have hfar : ¬ P' bm := fun hx => by
    rcases hp _ hx with h1 | h1
    · exact h.far h1
    · omega
  have hge := h.bel.size
  refine ⟨⟨ha.obj.kept hs fun k hk hj => hfar (hj ▸ hk), fun k hk => Nat.lt_of_lt_of_le (ha.lt k hk) hs.size, ha.row.kept hs fun a h1 h2 h3 => hrow a h1 h2 h3, ha.off⟩, ?_, fun k hk => ?_, hfar, hrow, ?_, h.ge⟩
  · have hb : RBox w1 bm base (.slice A L.length c) := (hk.block _ hbm h.far).trans h.box
    exact heap_setCell_at (heap_setCell_at hb _) _
  · rcases hp k hk with h1 | h1
    · exact h.own k h1
    · omega
  · have h1 := h.bel.trans (hk.below hge h.own)
    exact h1.trans (hs.below h1.size fun k hk => hk ▸ h.ge)
end Go.Proofs.Ytomlhedichdkkaa
