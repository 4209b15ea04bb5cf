/- disk.Load. -/
import Derived.Test.YtkhopknpadncdaaD5
namespace Go.Proofs.Ytkhopknpadncdaa
open Go Go.RowKit Go.Maps Go.Proofs.YtkhopknpadncdaaW.PrintWords Go.Proofs.Ytkhopknpadncdaa.PDiskMemory Go.Proofs.YtkhopknpadncdaaW.PrintMore
set_option linter.unusedVariables false

abbrev SF := S45
/-- Files entered one by one. -/
def loadL : Dk → List SF → Dk × Int
  | k, [] => (k, 0)
  | k, f :: r => if (enterD k f.f0.data.toList f.f1).2 = 0 then loadL (enterD k f.f0.data.toList f.f1).1 r else enterD k f.f0.data.toList f.f1
def loadD (room : Int) (fs : List SF) : Dk × Int := loadL (newD room) fs
def LoadP (W : World) (x : Dk × Int) (e : Ending) (W' : World) : Prop :=
  (x.2 = 0 ∧ ∃ d, e = .returned (.tuple #[.pointer (some ⟨d, 0, none⟩), .int .i64 0]) ∧ Al W W' d x.1 0) ∨ (x.2 ≠ 0 ∧ e = .returned (.tuple #[.pointer none, .int .i64 x.2]) ∧ Below W.heap.size W W')
/-- A row of files that came in, element by element. -/
def FRow (w : World) (A : Option Addr) (n : Nat) (fs : List SF) : Prop :=
  n = fs.length ∧ ∀ i f, fs[i]? = some f → ∃ b o Ai ci, A = some ⟨b, o, none⟩ ∧ b < w.heap.size ∧ w.cell? ⟨b, o + i * 2, none⟩ = some (.string f.f0) ∧ w.cell? ⟨b, o + i * 2 + 1, none⟩ = some (.slice Ai f.f1.length ci) ∧ f.f1.length ≤ ci ∧ (Kd.int .u8).C w Ai f.f1.length f.f1
theorem loadL_step {k : Dk} {fs : List SF} {j : Nat} {f : SF} (h : fs[j]? = some f) : loadL k (fs.drop j) = if (enterD k f.f0.data.toList f.f1).2 = 0 then loadL (enterD k f.f0.data.toList f.f1).1 (fs.drop (j + 1)) else enterD k f.f0.data.toList f.f1 := by
  obtain ⟨hlt, he⟩ := List.getElem?_eq_some_iff.1 h
  rw [List.drop_eq_getElem_cons hlt, he]
  rfl
set_option maxRecDepth 100000 in
set_option maxHeartbeats 4000000 in
theorem load_any (w : World) (room : Int) (A : Option Addr) (n c : Nat) (fs : List SF) (h : FRow w A n fs) (hn : n ≤ 4611686018427387904) (hok : ∀ f ∈ fs, f.f0.size ≤ maxLen ∧ Byt f.f1 ∧ f.f1.length ≤ big) :
    Calls Try.prog 13 #[.int .i64 room, .slice A n c] w (LoadP w (loadD room fs)) := by
  have HN := Lib.hid (al_new (Below.refl w.heap.size w) room)
  have HF := Lib.hid h
  have HOK := Lib.hid hok
  have HL : Hid (n = fs.length) := h.1
  clear h hok
  go_enter Try.func13, Try.ntmps13
  go_wp2_with (go_at_call 8; refine HN.out.mono ?_; rintro e w1 ⟨d, rfl, h⟩; have H1 := Lib.hid h; clear h)
  go_loopw [8, 9, 14] (fun _ _ i wr => ∃ (j : Nat) (k : Dk), j ≤ n ∧ i = .int .i64 j ∧ Hid (Al w wr d k 0) ∧ Hid (loadD room fs = loadL k (fs.drop j))) (fun _ _ i _ => n - (intOf i).toNat)
  case atStart => exact ⟨0, newD room, Nat.zero_le _, rfl, H1.out, by show _ = _; rw [List.drop_zero]; rfl⟩
  case round =>
    clear HN H1
    obtain ⟨j, k, hj, rfl, HA, HE⟩ := hrel
    by_cases hjn : j < n
    · obtain ⟨f, hf⟩ : ∃ f, fs[j]? = some f := ⟨_, List.getElem?_eq_getElem (by have := HL.out; omega)⟩
      obtain ⟨b, o, Ai, ci, rfl, hbl0, hc0, hc1, hci, hC⟩ := HF.out.2 j f hf
      have hbl := Nat.lt_of_lt_of_le hbl0 HA.out.bl.size
      have k0 := (HA.out.bl.cell (p := ⟨b, o + j * 2, none⟩) hbl0).trans hc0
      have k1 := (HA.out.bl.cell (p := ⟨b, o + j * 2 + 1, none⟩) hbl0).trans hc1
      obtain ⟨hfs, hfb, hfl⟩ := HOK.out f (List.mem_of_getElem? hf)
      have hst := loadL_step (k := k) hf
      rw [← HE.out] at hst
      have HST := Lib.hid hst
      have HC := Lib.hid hC
      have HFS := Lib.hid hfs
      have HFB := Lib.hid hfb
      have HFL := Lib.hid hfl
      obtain ⟨nm, hnm⟩ : ∃ nm, nm = f.f0 := ⟨_, rfl⟩
      obtain ⟨l, hl⟩ : ∃ l, l = f.f1 := ⟨_, rfl⟩
      obtain ⟨m, hm⟩ : ∃ m, m = f.f1.length := ⟨_, rfl⟩
      rw [← hnm] at k0 HST HFS
      rw [← hm] at k1 hci HC
      rw [← hl] at HC HST HFB HFL
      have HM : Hid (m = l.length) := by show _ = _; rw [hm, hl]
      clear hbl0 hc0 hc1 hC hfs hfb hfl hst hnm hl hm hf
      have HAB : Hid (Al w (wr.alloc (.cells #[.string nm, .slice Ai m ci] 45)) d k 0) := HA.out.below ((Below.refl _ _).alloc (Nat.le_refl _) _)
      have HENT : Hid (∀ W, W = wr.alloc (.cells #[.string nm, .slice Ai m ci] 45) → Calls Try.prog 47 #[.pointer (some ⟨d, 0, none⟩), .string nm, .slice Ai m ci] W (APost w d 0 (enterD k nm.data.toList l))) := by
        intro W hW
        subst hW
        obtain ⟨S, h1, h2, h3⟩ := HAB.out
        exact (enter_any _ d 0 S k nm Ai m ci l h1 HFS.out (fun W' hT => Kd.C_below HC.out (h3.trans (hT.mono h3.size))) HFB.out (by rw [HM.out]; exact HFL.out)).mono fun e W' h => al_s h2 h3 h
      obtain ⟨x, hx⟩ : ∃ x, x = enterD k nm.data.toList l := ⟨_, rfl⟩
      rw [← hx] at HENT HST
      obtain ⟨k2, e2⟩ := x
      have HBX := Lib.hid (heap_alloc_new wr (.cells #[.string nm, .slice Ai m ci] 45))
      clear hx
      by_cases he : e2 = 0
      · subst he
        have HST2 : Hid (loadD room fs = loadL k2 (fs.drop (j + 1))) := by show _ = _; rw [HST.out]; rfl
        go_wp2_with (go_at_call 47; refine (HENT.out _ rfl).mono ?_; rintro e w3 ⟨rfl, h⟩; have H3 : Hid (Al w w3 d k2 0) := h; clear h)
        go_roundw
        case rel => exact ⟨j + 1, k2, by omega, by go_num, H3.out, HST2.out⟩
        case measure => simp [intOf]; omega
      · have HST2 : Hid (loadD room fs = (k2, e2)) := by show _ = _; rw [HST.out, if_neg he]
        go_wp2_with (go_at_call 47; refine (HENT.out _ rfl).mono ?_; rintro e w3 ⟨rfl, h⟩; have H3 : Hid (Al w w3 d k2 0) := h; clear h)
        go_ret2
        rw [HST2.out]
        exact .inr ⟨he, rfl, H3.out.bl⟩
    · obtain rfl : j = n := by omega
      have HST2 : Hid (loadD room fs = (k, 0)) := by show _ = _; rw [HE.out, HL.out, List.drop_length]; rfl
      go_wp2_with fail
      go_ret2
      rw [HST2.out]
      exact .inl ⟨rfl, d, rfl, HA.out⟩
end Go.Proofs.Ytkhopknpadncdaa
