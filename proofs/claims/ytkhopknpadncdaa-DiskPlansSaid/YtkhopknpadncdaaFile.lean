/- A file in memory: its rows grow; a file of a disk turns. -/
import Derived.Test.YtkhopknpadncdaaStep
import Derived.Deep.AppendLies
import Derived.Deep.CutRange
namespace Go.Proofs.Ytkhopknpadncdaa
open Go Go.RowKit Go.Maps Go.Proofs.YtkhopknpadncdaaW.PrintWords Go.Proofs.Ytkhopknpadncdaa.PDiskMemory Go.Proofs.YtkhopknpadncdaaW.PrintMore
set_option linter.unusedVariables false

section
variable {w w' w1 : World} {O O' : Nat → Own} {x : Nm} {p : Nat} {f : Fil} {sv nv cv : Value}
/-- What the walk reads of a file's own block. -/
structure FA.See (w : World) (p : Nat) (sv nv cv : Value) : Prop where
  c0 : w.cell? ⟨p, 0, none⟩ = some sv
  c1 : w.cell? ⟨p, 1, none⟩ = some nv
  c2 : w.cell? ⟨p, 2, none⟩ = some cv
  f0 : w.frozen? ⟨p, 0, none⟩ = false
  f1 : w.frozen? ⟨p, 1, none⟩ = false
  f2 : w.frozen? ⟨p, 2, none⟩ = false
  lt : p < w.heap.size
theorem see_of (h : w.heap[p]? = some (.cells #[sv, nv, cv] 89 (0, 0))) : FA.See w p sv nv cv :=
  ⟨(blk_cell h 0).trans rfl, (blk_cell h 1).trans rfl, (blk_cell h 2).trans rfl, blk_frozen h 0, blk_frozen h 1, blk_frozen h 2, blk_lt h⟩
theorem FA.see (h : FA w O x p f sv nv cv) : FA.See w p sv nv cv := see_of h.blk
theorem FA.lens (h : FA w O x p f sv nv cv) : ∃ A1 c1 A2 c2 A3 c3, sv = .slice A1 f.safe.length c1 ∧ nv = .slice A2 f.seen.length c2 ∧ cv = .slice A3 f.chs.length c3 := by
  obtain ⟨A1, c1, e1⟩ := Kd.R_slice h.safe
  obtain ⟨A2, c2, e2⟩ := Kd.R_slice h.seen
  obtain ⟨A3, c3, e3⟩ := Kd.R_slice h.chgs
  exact ⟨A1, c1, A2, c2, A3, c3, e1, e2, e3⟩
theorem set_size (w : World) (a : Addr) (v : Value) : (w.setCell a v).heap.size = w.heap.size := by simp [World.setCell]
theorem set_block (w : World) (a : Addr) (v : Value) {b : Nat} (hb : b ≠ a.block) : (w.setCell a v).heap[b]? = w.heap[b]? := Below.heap_setCell w a v b hb

theorem R_own {α : Type} {d : Kd α} {e : Nat} {c : Own} {v : Value} {xs : List α} (h : d.R e w 0 (fun b => O b = c) v xs) (hO : ∀ b, b < w.heap.size → O b = c → O' b = c) (hb : ∀ b, b < w.heap.size → O b = c → w'.heap[b]? = w.heap[b]?) : d.R e w' 0 (fun b => O' b = c) v xs :=
  Kd.R_mono (Kd.R_step (Kd.R_bound h) (fun b hk hl => hb b hl hk.1)) (fun b hk => hO b hk.2.2.1 hk.1)
theorem R_paint {α : Type} {d : Kd α} {e n : Nat} {c : Own} {v : Value} {xs : List α} (h : d.R e w1 0 (fun k => O k = c ∨ n ≤ k) v xs) : d.R e w1 0 (fun k => paint O n w1.heap.size c k = c) v xs :=
  Kd.R_mono (Kd.R_bound h) (fun b hk => by
    by_cases hn : n ≤ b
    · exact paint_new hn hk.2.2.1
    · rw [paint_old (by omega)]
      exact hk.1.elim id (fun h2 => absurd h2 hn))
/-- The row of what is seen has grown, and is stored back. -/
theorem FA.put_seen (h : FA w O x p f sv nv cv) {v1 : Value} {l : List Int} (hr : RB w1 (fun k => O k = .seen x ∨ w.heap.size ≤ k) v1 l) (hg : w.grownBy w1 nv.ownBlock) :
    FA.See w1 p sv nv cv ∧ FA (w1.setCell ⟨p, 1, none⟩ v1) (paint O w.heap.size w1.heap.size (.seen x)) x p ⟨f.safe, l, f.chs⟩ sv v1 cv := by
  have hb1 : w1.heap[p]? = some (.cells #[sv, nv, cv] 89 (0, 0)) := blk_grown h.blk hg (Kd.R_ne h.seen h.blk (by decide))
  have hpl := blk_lt h.blk
  have hkeep : ∀ b, b < w.heap.size → O b ≠ .seen x → b ≠ p → (w1.setCell ⟨p, 1, none⟩ v1).heap[b]? = w.heap[b]? := fun b hl ho hp => (set_block w1 ⟨p, 1, none⟩ v1 hp).trans (hg.block b hl (fun e => ho (h.seen.1 b e.symm)))
  have hne : ∀ {c : Own} {b : Nat}, O b = c → c ≠ .file x → b ≠ p := fun ho hc e => hc (by rw [← ho, e]; exact h.own)
  refine ⟨see_of hb1, blk_put hb1 1 v1 rfl, (paint_old hpl).trans h.own, R_own h.safe (fun b hl ho => (paint_old hl).trans ho) (fun b hl ho => hkeep b hl (by rw [ho]; exact Own.noConfusion) (hne ho Own.noConfusion)), Kd.R_step (R_paint hr) (fun b ho _ => set_block w1 ⟨p, 1, none⟩ v1 (fun e => ?_)), R_own h.chgs (fun b hl ho => (paint_old hl).trans ho) (fun b hl ho => hkeep b hl (by rw [ho]; exact Own.noConfusion) (hne ho Own.noConfusion))⟩
  have e' : b = p := e
  rw [e', paint_old hpl, h.own] at ho
  cases ho
theorem FA.put_chgs (h : FA w O x p f sv nv cv) {lo : Nat} (hlo : ∀ b, lo ≤ b → O b = .none) {v1 : Value} {l : List Chg} (hr : RC w1 (fun k => O k = .chgs x ∨ lo ≤ k) v1 l) (hg : w.grownBy w1 cv.ownBlock) :
    FA.See w1 p sv nv cv ∧ FA (w1.setCell ⟨p, 2, none⟩ v1) (paint O lo w1.heap.size (.chgs x)) x p ⟨f.safe, f.seen, l⟩ sv nv v1 := by
  have hb1 : w1.heap[p]? = some (.cells #[sv, nv, cv] 89 (0, 0)) := blk_grown h.blk hg (Kd.R_ne h.chgs h.blk (by decide))
  have hpo : ∀ {c : Own} {b : Nat}, O b = c → c ≠ .none → paint O lo w1.heap.size (.chgs x) b = c := fun {c b} ho hc => (paint_old (by
    rcases Nat.lt_or_ge b lo with h2 | h2
    · exact h2
    · exact absurd (ho.symm.trans (hlo b h2)) hc)).trans ho
  have hkeep : ∀ b, b < w.heap.size → O b ≠ .chgs x → b ≠ p → (w1.setCell ⟨p, 2, none⟩ v1).heap[b]? = w.heap[b]? := fun b hl ho hp => (set_block w1 ⟨p, 2, none⟩ v1 hp).trans (hg.block b hl (fun e => ho (h.chgs.1 b e.symm)))
  have hne : ∀ {c : Own} {b : Nat}, O b = c → c ≠ .file x → b ≠ p := fun ho hc e => hc (by rw [← ho, e]; exact h.own)
  refine ⟨see_of hb1, blk_put hb1 2 v1 rfl, hpo h.own Own.noConfusion, R_own h.safe (fun b hl ho => hpo ho Own.noConfusion) (fun b hl ho => hkeep b hl (by rw [ho]; exact Own.noConfusion) (hne ho Own.noConfusion)), R_own h.seen (fun b hl ho => hpo ho Own.noConfusion) (fun b hl ho => hkeep b hl (by rw [ho]; exact Own.noConfusion) (hne ho Own.noConfusion)), Kd.R_step (R_paint hr) (fun b ho _ => set_block w1 ⟨p, 2, none⟩ v1 (fun e => ?_))⟩
  have e' : b = p := e
  rw [e', hpo h.own Own.noConfusion] at ho
  cases ho
/-- The row of what is safe is another one, and there are no changes. -/
theorem FA.put_safe (h : FA w O x p f sv nv cv) {v1 : Value} {l : List Int} (hr : RB w1 (fun k => w.heap.size ≤ k) v1 l) (hb : Below w.heap.size w w1) :
    FA.See w1 p sv nv cv ∧ FA ((w1.setCell ⟨p, 0, none⟩ v1).setCell ⟨p, 2, none⟩ (.slice none 0 0)) (paint O w.heap.size w1.heap.size (.safe x)) x p ⟨l, f.seen, []⟩ v1 nv (.slice none 0 0) := by
  have hpl := blk_lt h.blk
  have hb1 : w1.heap[p]? = some (.cells #[sv, nv, cv] 89 (0, 0)) := (hb.block p hpl).trans h.blk
  have hkeep : ∀ b, b ≠ p → ((w1.setCell ⟨p, 0, none⟩ v1).setCell ⟨p, 2, none⟩ (.slice none 0 0)).heap[b]? = w1.heap[b]? := fun b hp => (set_block _ ⟨p, 2, none⟩ _ hp).trans (set_block w1 ⟨p, 0, none⟩ v1 hp)
  have hne : ∀ {c : Own} {b : Nat}, O b = c → c ≠ .file x → b ≠ p := fun ho hc e => hc (by rw [← ho, e]; exact h.own)
  refine ⟨see_of hb1, blk_put (blk_put hb1 0 v1 rfl) 2 (.slice none 0 0) rfl, (paint_old hpl).trans h.own, Kd.R_step (R_paint (Kd.R_mono hr (fun k hk => .inr hk))) (fun b ho _ => hkeep b (fun e => ?_)), R_own h.seen (fun b hl ho => (paint_old hl).trans ho) (fun b hl ho => (hkeep b (hne ho Own.noConfusion)).trans (hb.block b hl)), Kd.R_nil _ _ _ _ _⟩
  rw [e, paint_old hpl, h.own] at ho
  cases ho
end
/-- Blocks of the file x. -/
def OfFile (O : Nat → Own) (x : Nm) (b : Nat) : Prop := O b = .file x ∨ O b = .safe x ∨ O b = .seen x ∨ O b = .chgs x
/-- Owners of new blocks: the file's. -/
structure Grew (O O' : Nat → Own) (x : Nm) (lo hi : Nat) : Prop where
  old : ∀ b, b < lo → O' b = O b
  new : ∀ b, lo ≤ b → O' b = .none ∨ OfFile O' x b
  hi : ∀ b, hi ≤ b → O' b = O b
theorem Grew.refl {O : Nat → Own} (x : Nm) {lo hi : Nat} (h : ∀ b, lo ≤ b → O b = .none) : Grew O O x lo hi := ⟨fun _ _ => rfl, fun b hb => .inl (h b hb), fun _ _ => rfl⟩
theorem Grew.paint {O O' : Nat → Own} {x : Nm} {lo hi lo' hi' : Nat} (h : Grew O O' x lo hi) (h1 : lo ≤ lo') (h2 : hi ≤ hi') {c : Own} (hc : c = .safe x ∨ c = .seen x ∨ c = .chgs x) : Grew O (paint O' lo' hi' c) x lo hi' := by
  refine ⟨fun b hb => (paint_old (by omega)).trans (h.old b hb), fun b hb => ?_, fun b hb => ?_⟩
  · by_cases hn : lo' ≤ b ∧ b < hi'
    · right
      unfold OfFile
      rw [paint_new hn.1 hn.2]
      rcases hc with rfl | rfl | rfl <;> simp
    · have e : Own.none = Own.none := rfl
      unfold OfFile Go.Proofs.Ytkhopknpadncdaa.paint
      rw [if_neg hn]
      exact h.new b hb
  · unfold Go.Proofs.Ytkhopknpadncdaa.paint
    rw [if_neg (by omega)]
    exact h.hi b (by omega)
/-- A file of the disk turns. -/
theorem DA.turn_file {w w' : World} {d m : Nat} {O O' : Nat → Own} {k : Dk} {N N' : Nat} {pv : Value} {Z : List (Nm × (Nat × Fil))} {x : Nm} {p : Nat} {f f' : Fil} (h : DA w d m O k N pv Z) (hl : look k.files x = some f) (hz : look Z x = some (p, f)) (hF : File w' O' x p f')
    (hs : w.heap.size ≤ w'.heap.size) (hb : ∀ b, b < w.heap.size → ¬ OfFile O x b → w'.heap[b]? = w.heap[b]?) (hO : Grew O O' x w.heap.size w'.heap.size) (hok : Dk.ok { k with files := upd k.files x f' } N') :
    DA w' d m O' { k with files := upd k.files x f' } N' pv (upd Z x (p, f')) := by
  have nd : ¬ OfFile O x d := by unfold OfFile; rw [h.od]; simp
  have nm : ¬ OfFile O x m := by unfold OfFile; rw [h.om]; simp
  have ld := blk_lt h.blk
  have lm := h.mp.lt
  refine ⟨(hb d ld nd).trans h.blk, (hO.old d ld).trans h.od, (hO.old m lm).trans h.om, ?_, R_own h.plan (fun b hl ho => (hO.old b hl).trans ho) (fun b hl ho => hb b hl (by unfold OfFile; rw [ho]; simp)), ?_, fun y q g hy => ?_, fun b ho => ?_, hok⟩
  · rw [mapV_upd, upd_same h.mp.apart (by rw [look_mapV, hz]; rfl)]
    exact h.mp.kept (hb m lm nm)
  · rw [mapV_upd, ← h.files]
  · rcases mem_upd.1 hy with ⟨e, _⟩ | ⟨hy, hne⟩
    · injection e with e1 e2
      injection e2 with e2 e3
      subst e1 e2 e3
      exact hF
    · have h1 := h.file y q g hy
      have hne' : y ≠ x := hne
      refine (h1.own_ (fun b hl => hO.old b hl)).step (fun b hl ho => hb b hl (fun hx => ?_))
      rw [hO.old b hl] at ho
      rcases hx with hx | hx | hx | hx <;> rw [hx] at ho <;> rcases ho with ho | ho | ho | ho <;> first | (injection ho with ho; exact hne' ho.symm) | cases ho
  · by_cases hl : b < w.heap.size
    · omega
    · by_cases hh : b < w'.heap.size
      · exact hh
      · rw [hO.hi b (by omega)] at ho
        exact absurd (h.new (by omega)) ho
end Go.Proofs.Ytkhopknpadncdaa
