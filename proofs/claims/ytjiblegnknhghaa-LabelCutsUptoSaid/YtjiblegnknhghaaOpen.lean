/- A slice of bytes that came in, opened: the text that it reads as, and the bound on its bytes that the form itself gives. -/
import Derived.Test.YtjiblegnknhghaaLawUtf
import Derived.Test.YtjiblegnknhghaaRows
import Derived.ProofKit
import Derived.OpenShut
import Derived.ShutString
import Derived.ChangeOld
import Derived.SizedLaws
import Derived.Deep.CondSized
namespace Go.Proofs.Ytjiblegnknhghaa
open Go Go.ChangeShapes Go.WideShapes Go.ChangeAt Go.RowKit

theorem own : ownKnob Try.prog.godebug = none := by kernel_rfl
theorem laidOut : laidOutB Try.prog = true := by kernel_rfl
theorem bytes_u8 : Try.prog.bytesOf 5 = 1 := by kernel_rfl

/-- The text of these numbers. -/
def txt (zs : List Int) : ByteArray := ⟨(zs.map fun n => UInt8.ofNat n.toNat).toArray⟩
theorem txt_size (zs : List Int) : (txt zs).size = zs.length := by simp [txt, ByteArray.size]

theorem bvs_txt (zs : List Int) (h : ∀ n ∈ zs, 0 ≤ n ∧ n ≤ 255) : bvs (txt zs) = zs.map (Value.int .u8) := by
  unfold bvs txt
  rw [List.map_map]
  apply List.map_congr_left
  intro n hn
  have := h n hn
  show bv (UInt8.ofNat n.toNat) = _
  unfold bv
  congr 1
  simp
  omega

theorem open_bytes {H : Type} {enc : TypeId × Value → H} {W : World} {base : Nat} {spare : Nat → Bool} {held : Bool} {v : Value} {d : DataW H} {p : List MemPlace} (hsp : ∀ b, spare b = true)
    (hv : Value.okWide Try.prog W .any base 22 v) (h : DataW.Trod enc Try.prog W 0 spare held 22 v d p) :
    ∃ (A : Option Addr) (c : Nat) (s : ByteArray), v = .slice A s.size c ∧ RB W A s ∧ (s.size = 0 ∨ ∃ el sp, d = .slice el sp ∧ s.size ≤ el.length + sp.length) := by
  obtain ⟨a0, len, cap, rfl⟩ := okWide_slice Try.underlying22 hv
  obtain ⟨fuel, hf⟩ := h
  rcases open_ints Try.underlying22 Try.underlying5 (by kernel_rfl) hf with ⟨hcs, _⟩ | ⟨x, l, c, zs, hcs, _, hl, hm, hz, hx, hcell, hwz⟩
  · simp [Value.cells] at hcs
    obtain ⟨rfl, rfl, rfl⟩ := hcs
    exact ⟨none, 0, ByteArray.empty, rfl, ⟨rfl, fun h => absurd h (by decide)⟩, .inl rfl⟩
  · simp [Value.cells] at hcs
    obtain ⟨rfl, rfl, rfl⟩ := hcs
    rw [hsp, if_pos rfl] at hz
    have hrange : ∀ n ∈ zs, 0 ≤ n ∧ n ≤ 255 := fun n hn => by
      have := hwz n hn
      simpa [Lit.wf, IntKind.min, IntKind.max, IntKind.signed, IntKind.bits] using this
    have hsz : (txt (zs.take len)).size = len := by rw [txt_size, List.length_take]; omega
    have hb : bvs (txt (zs.take len)) = (zs.take len).map (Value.int .u8) := bvs_txt _ fun n hn => hrange n (List.mem_of_mem_take hn)
    refine ⟨some x, cap, txt (zs.take len), by rw [hsz], ⟨by rw [bvs_length]; omega, fun hn => ⟨x, rfl, ?_, ?_⟩⟩, .inr ?_⟩
    · have := World.block_lt_of_cell? W _ (hcell 0 (by rw [hsz] at hn; omega))
      rwa [add_block] at this
    · intro j u hu
      rw [hb] at hu
      have hj : j < len := by
        rcases Nat.lt_or_ge j len with h | h
        · exact h
        · rw [List.getElem?_eq_none (by simp; omega)] at hu
          cases hu
      rw [hcell j (by omega)]
      simp [hj] at hu
      obtain ⟨n, hn1, hn2⟩ := hu
      rw [← hn2]
      simp [hn1]
    · simp only [Prod.mk.injEq] at hx
      exact ⟨_, _, hx.1, by simp [lits, hsz]; omega⟩
end Go.Proofs.Ytjiblegnknhghaa
