/- alive: the document's example. -/
import Derived.Test.YtkhopknpadncdaaAl
import Derived.Lib.SlBytesConst
import Derived.Laws.BytesArg
namespace Go.Proofs.Ytkhopknpadncdaa
open Go Go.RowKit Go.Maps Go.Proofs.YtkhopknpadncdaaW.PrintWords Go.Proofs.Ytkhopknpadncdaa.PDiskMemory Go.Proofs.YtkhopknpadncdaaW.PrintMore
set_option linter.unusedVariables false

def sA : ByteArray := ⟨#[97]⟩
def kA0 : Dk := newD 10
def kA1 : Dk := (stepD (createD [97]) (fun k _ => k) kA0).1
def kA2 : Dk := (stepD (appendD [120, 121, 122] [97]) (partD [120, 121, 122] [97]) kA1).1
def kA3 : Dk := (stepD (syncD [97]) (fun k _ => k) kA2).1
def kA4 : Dk := (stepD (appendD [117, 118, 119] [97]) (partD [117, 118, 119] [97]) kA3).1
def kA5 : Dk := (stepD (appendD [49, 50, 51, 52, 53] [97]) (partD [49, 50, 51, 52, 53] [97]) kA4).1
def kA6 : Dk := onD [2] kA5
theorem eA1 : stepD (createD [97]) (fun k _ => k) kA0 = (kA1, 0) := by kernel_rfl
theorem eA2 : stepD (appendD [120, 121, 122] [97]) (partD [120, 121, 122] [97]) kA1 = (kA2, 0) := by kernel_rfl
theorem eA3 : stepD (syncD [97]) (fun k _ => k) kA2 = (kA3, 0) := by kernel_rfl
theorem eA4 : stepD (appendD [117, 118, 119] [97]) (partD [117, 118, 119] [97]) kA3 = (kA4, 0) := by kernel_rfl
theorem eA5 : stepD (appendD [49, 50, 51, 52, 53] [97]) (partD [49, 50, 51, 52, 53] [97]) kA4 = (kA5, 182) := by kernel_rfl
theorem eA6 : readD kA6 [97] 0 5 = ([120, 121, 122, 117, 118], 0) := by kernel_rfl
theorem eA7 : kA6.steps = 5 := by kernel_rfl
theorem app_lit {w W0 W : World} {d N : Nat} {k k' : Dk} {v : Int} {C : Array Value} {fr : Nat × Nat} {n : Nat} (l : List Int) (h : Al w W0 d k N) (hN : N < 1000000000000) (hW : W = W0.alloc (.cells C 5 fr)) (hC : C = (l.map (Value.int .u8)).toArray) (hl : Byt l) (hn : n = l.length) (hm : n ≤ 5)
    (he : stepD (appendD l [97]) (partD l [97]) k = (k', v)) : Calls Try.prog 10 #[.pointer (some ⟨d, 0, none⟩), .string sA, .slice (some ⟨W0.heap.size, 0, none⟩) n n] W (APost w d (N + 1) (k', v)) := by
  subst hW
  have hb : Below W0.heap.size W0 (W0.alloc (.cells C 5 fr)) := (Below.refl _ _).alloc (Nat.le_refl _) _
  have := al_append (s := sA) h hN (by decide) hb (some ⟨W0.heap.size, 0, none⟩) n n l (fun W' hW => lit_C l ((hW W0.heap.size (Nat.le_refl _) (by simp)).trans (heap_alloc_new _ _)) hC hn (by omega)) hl (by unfold big; omega) (Nat.le_refl _)
  rw [show sA.data.toList = [97] from rfl, he] at this
  exact this
theorem keeps_lit {W0 : World} {ty : TypeId} : Keeps (W0.alloc (.cells #[.int .i64 2] ty)) (fun b => b < W0.heap.size) (some ⟨W0.heap.size, 0, none⟩) 1 [2] := by
  refine ⟨rfl, fun v hv => by rw [List.mem_singleton.1 hv]; decide, fun _ => ⟨_, 0, rfl, by simp, Nat.lt_irrefl _, fun i hi => ?_⟩⟩
  obtain rfl : i = 0 := by omega
  exact (blk_cell (heap_alloc_new W0 (.cells #[.int .i64 2] ty)) 0).trans rfl
set_option maxRecDepth 100000 in
set_option maxHeartbeats 4000000 in
theorem alive_any (w : World) : Calls Try.prog 7 #[] w fun e w' => e = .returned (.bool true) ∧ Below w.heap.size w w' := by
  have kc := fun (w : World) (C : Array Value) (n c : Nat) => Lib.run_convert_bytes_const (P := Try.prog) w 34 5 C n c Try.underlying34 Try.underlying5
  have HN := Lib.hid (al_new (Below.refl w.heap.size w) 10)
  have tok : True := trivial
  go_enter Try.func7, Try.ntmps7
  go_upto_region 5 with (first
    | (go_at_call 8; refine HN.out.mono ?_; rintro e w0 ⟨d, rfl, h⟩; have H0 : Hid (Al w w0 d kA0 0) := h; clear h)
    | (go_at_call 28; refine (al_create H0.out (by decide) sA (by decide)).mono ?_; rw [show sA.data.toList = [97] from rfl, eA1]; rintro e w1 ⟨rfl, h⟩; have H1 : Hid (Al w w1 d kA1 1) := h; clear h))
  go_upto_region 6 with (go_at_call 10; refine (app_lit [120, 121, 122] H1.out (by decide) rfl rfl (by unfold Byt; decide) rfl (by decide) eA2).mono ?_; rintro e w2 ⟨rfl, h⟩; have H2 : Hid (Al w w2 d kA2 2) := h; clear h)
  go_upto_region 7 with (go_at_call 30; refine (al_sync H2.out (by decide) sA (by decide)).mono ?_; rw [show sA.data.toList = [97] from rfl, eA3]; rintro e w3 ⟨rfl, h⟩; have H3 : Hid (Al w w3 d kA3 3) := h; clear h)
  go_upto_region 8 with (go_at_call 10; refine (app_lit [117, 118, 119] H3.out (by decide) rfl rfl (by unfold Byt; decide) rfl (by decide) eA4).mono ?_; rintro e w4 ⟨rfl, h⟩; have H4 : Hid (Al w w4 d kA4 4) := h; clear h)
  go_upto_region 9 with (go_at_call 10; refine (app_lit [49, 50, 51, 52, 53] H4.out (by decide) rfl rfl (by unfold Byt; decide) rfl (by decide) eA5).mono ?_; rintro e w5 ⟨rfl, h⟩; have H5 : Hid (Al w w5 d kA5 5) := h; clear h)
  go_upto_region 10 with (go_at_call 34; refine (al_on H5.out (by decide) ((Below.refl _ _).alloc (Nat.le_refl _) _) _ _ _ [2] keeps_lit).mono ?_; rintro e w6 ⟨rfl, h⟩; have H6 : Hid (Al w w6 d kA6 5) := h; clear h)
  go_upto_region 11 with (go_at_call 26; refine (al_read H6.out sA (by decide) 0 5 (by decide) (by decide)).mono ?_; rw [show sA.data.toList = [97] from rfl, eA6]; rintro e w7 ⟨v, rfl, hv, hb⟩; obtain ⟨g, cap, rfl, hg, hgl, cs, hgc⟩ := Kd.R_form hv (by decide); have H7 : Hid (Al w w7 d kA6 5) := H6.out.below hb; have HV := Lib.hid hv; clear hv hb)
  have cv : ∀ W, Below w7.heap.size w7 W → (convert 34 9 (.slice (some ⟨g, 0, none⟩) 5 cap)).run Try.prog W = .ok (.string ⟨#[120, 121, 122, 117, 118]⟩) W := fun W hW => by
    have hr := Kd.reads_of_C (d := (0 : Int)) (Kd.C_below (Kd.R_reads' HV.out).2.2 hW)
    have := run_convert_bytes_arg (P := Try.prog) W 34 5 Try.underlying34 Try.underlying5 g 0 5 cap [120, 121, 122, 117, 118] rfl (fun i hi => by
      obtain ⟨ad, e, hc⟩ := hr.2.2 (by decide)
      injection e with e
      subst e
      have := hc i hi
      rw [addr_zero] at this
      rw [Nat.zero_add]
      exact this) 9 Try.underlying9
    exact this
  have cv0 := cv w7 (Below.refl _ _)
  have cv1 := cv w7.drew (below_drew (Below.refl _ _))
  clear cv
  go_wp2_with (go_at_call 11; refine (al_steps H7.out).mono ?_; rw [eA7]; rintro e w8 ⟨rfl, hw⟩; obtain rfl := hw.symm; clear hw)
  go_ret
  exact ⟨rfl, H7.out.bl⟩
end Go.Proofs.Ytkhopknpadncdaa
