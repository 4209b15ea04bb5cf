/- (*Disk).all, Files, Safe: the files told. -/
import Derived.Test.YtkhopknpadncdaaOnW
namespace Go.Proofs.Ytkhopknpadncdaa
open Go Go.RowKit Go.Maps Go.Proofs.YtkhopknpadncdaaW.PrintWords Go.Proofs.Ytkhopknpadncdaa.PDiskMemory Go.Proofs.YtkhopknpadncdaaW.PrintMore
set_option linter.unusedVariables false

/-- The files as they are told; rows apart. -/
def filesD (pk : Fil → List Int) (k : Dk) : List S45 := k.files.map fun p => ⟨toBA p.1, pk p.2⟩
abbrev RF (w : World) (base : Nat) (ok : Nat → Prop) (v : Value) (l : List S45) : Prop := Kd.S k45 45 w base ok v l
/-- append of a file, within a region that draws its order. -/
theorem step_file {ops : Array Oper} {o : Oper} {a : Act} {K : Act → World → Prop} {Q : Exit → Act → World → Prop} {E : Prop} (hgd : o.guard = none) (s x : Operand) (t : TypeId)
    (ho : o.op = .call { callee := .builtin .append, args := #[s, x], argTypes := #[t, t] }) (ht : Try.prog.underlying t = some (.slice 45))
    (W : World) (v : Value) (cs : List S45) (nm : ByteArray) (l : List Int) (av : Value) (ok okp : Nat → Prop) (hs : a.eval s = v) (hx : a.eval x = .slice (some ⟨W.heap.size, 0, none⟩) 1 1)
    (hp : (Kd.int .u8).R 5 W 0 okp av l) (hokp : ∀ k, okp k → ok k ∧ some k ≠ v.ownBlock) (hfresh : ∀ k, W.heap.size ≤ k → ok k) (HO : RF W 0 (fun k => ok k ∧ ¬ okp k) v cs) (hl : (cs.length + 1) * 40 ≤ 140737488355328)
    (h : ∀ v1 w1, RF w1 0 ok v1 (cs ++ [⟨nm, l⟩]) → W.grownBy w1 v.ownBlock → K (a.put o.dst v1) w1) :
    if Region.wanted o (yielded ops a.tmps) = true then Oper.wp Try.prog o a (W.alloc (.cells #[.string nm, av] 45)) K Q else E := by
  have hw : Region.wanted o (yielded ops a.tmps) = true := by simp [Region.wanted, hgd]
  rw [if_pos hw]
  have hst := Kd.S_append_step (P := Try.prog) (ops := ops) (o := o) (a := a) (Q := Q) (Kc := K) k45 (w0 := W) (W := W) 0 hw s x t 45 (.agg #[.string ⟨#[]⟩, .slice none 0 0]) 40 ho ht info45 rfl (by decide) (by decide) v cs ⟨nm, l⟩ [.string nm, av] ok okp hs hx (k45_mkM W 0 okp ⟨nm, l⟩ hp) hokp hfresh HO (Below.refl 0 W) (Nat.zero_le _) hl (fun v1 w1 hr hb hg _ => h v1 w1 hr hg)
  rw [if_pos hw] at hst
  exact hst

def FilesPost (w : World) (l : List S45) (e : Ending) (w' : World) : Prop := ∃ v, e = .returned v ∧ RF w' 0 (fun b => w.heap.size ≤ b) v l ∧ Below w.heap.size w w'
/-- A closure that tells one of a file's rows. -/
def Picks (K : Nat) (pk : Fil → List Int) : Prop := (∀ f : Fil, f.ok → (pk f).length ≤ big) ∧ ∀ w O x p f sv nv cv, FA w O x p f sv nv cv → ∃ A c, (Kd.int .u8).C w A (pk f).length (pk f) ∧ ∀ W, Below w.heap.size w W → Calls Try.prog K #[fptr p] W fun e W' => e = .returned (.slice A (pk f).length c) ∧ W' = W
theorem files_take {pk : Fil → List Int} {L : List (Nm × Fil)} {j : Nat} {x : Nm} {f : Fil} (h : L[j]? = some (x, f)) : (L.take (j + 1)).map (fun p => (⟨toBA p.1, pk p.2⟩ : S45)) = (L.take j).map (fun p => (⟨toBA p.1, pk p.2⟩ : S45)) ++ [⟨toBA x, pk f⟩] := by
  rw [List.take_add_one, List.map_append, h]
  rfl
set_option maxRecDepth 100000 in
set_option maxHeartbeats 4000000 in
theorem all_any (w : World) (d N : Nat) (S : Nat → Prop) (k : Dk) (h : Disk w d S k N) (K : Nat) (e1 : ∀ args w, (callFunc K args).run Try.prog w = .ok (.enter K args) w) (pk : Fil → List Int) (hpk : Picks K pk) :
    Calls Try.prog 52 #[.pointer (some ⟨d, 0, none⟩), .func (.func K) #[] #[]] w (FilesPost w (filesD pk k)) := by
  have HD := Lib.hid h
  have HPK := Lib.hid hpk
  have hnb : k.files.length ≤ 256 := h.okk.2.2.2.1
  obtain ⟨M, hM⟩ : ∃ M, M = k.files.length := ⟨_, rfl⟩
  rw [← hM] at hnb
  have HM := Lib.hid hM
  have HNM := Lib.hid (names_any w d N S k h)
  clear h hM hpk
  go_enter Try.func52, Try.ntmps52
  go_wp2_with (go_at_call 64; refine HNM.out.mono ?_; rintro r w1 ⟨v1, rfl, hv, hb⟩; obtain ⟨M', hM', An, cn, rfl⟩ : ∃ n, n = (namesD k).length ∧ ∃ A q, v1 = .slice A n q := (by obtain ⟨A_, q_, e_⟩ := Kd.R_slice hv; exact ⟨_, rfl, A_, q_, e_⟩); obtain rfl : M = M' := (by rw [HM.out, hM']; unfold namesD; rw [List.length_map]); have HV := Lib.hid (show RS w1 (fun b => w.heap.size ≤ b ∧ b < w1.heap.size) (.slice An M cn) (namesD k) from Kd.R_mono (Kd.R_bound hv) (fun b hb => ⟨hb.1, hb.2.2.1⟩)); have HB1 := Lib.hid hb; clear hv hb hM')
  go_loopw [5, 7, 11] (fun vo _ i wr => ∃ (j : Nat), j ≤ M ∧ i = .int .i64 j ∧ Hid (RF wr 0 (fun b => w1.heap.size ≤ b) vo ((k.files.take j).map fun p => (⟨toBA p.1, pk p.2⟩ : S45))) ∧ Hid (Below w1.heap.size w1 wr)) (fun _ _ i _ => M - (intOf i).toNat)
  case atStart => exact ⟨0, Nat.zero_le _, rfl, Kd.S_nil _ _ _ _ _, Below.refl _ _⟩
  case round =>
    obtain ⟨j, hj, rfl, HOUT, HBR⟩ := hrel
    by_cases hjm : j < M
    · obtain ⟨xf, hxf⟩ : ∃ xf, k.files[j]? = some xf := ⟨_, List.getElem?_eq_getElem (by have := HM.out; omega)⟩
      obtain ⟨x, f⟩ := xf
      have HBW : Hid (Below w.heap.size w wr) := HB1.out.trans (HBR.out.mono HB1.out.size)
      have HDR := Lib.hid (HD.out.below HBW.out)
      have HRS : Hid (RS wr (fun b => w.heap.size ≤ b ∧ b < w1.heap.size) (.slice An M cn) (namesD k)) := Kd.R_below HV.out HBR.out
      obtain ⟨g, rfl, hgl, hcn⟩ := name_at (s := toBA x) HRS.out (by unfold namesD; rw [List.getElem?_map, hxf]; rfl)
      obtain ⟨m, O, pv, Z, hDA, hS'⟩ := HDR.out
      obtain ⟨p, hz, hlf⟩ := look_files_Z hDA (x := x) (f := f) (List.mem_of_getElem? hxf)
      have hxs : (toBA x).size ≤ maxLen := by
        have := (HDR.out.okk.1 (x, f) (List.mem_of_getElem? hxf)).2.2
        simp only at this
        show x.toArray.size ≤ maxLen
        rw [List.size_toArray]
        unfold maxLen
        omega
      have LK := hDA.mp.look_run hxs
      rw [show (toBA x).data.toList = x from rfl, look_mapV, hz] at LK
      simp only [Option.map_some, optr, fptr] at LK
      obtain ⟨⟨c0, _⟩, hdl⟩ := hDA.cells
      obtain ⟨sv, nv, cv, hF⟩ := hDA.file x p f (look_mem hz)
      have hfok := (HDR.out.okk.1 (x, f) (List.mem_of_getElem? hxf)).1
      simp only at hfok
      obtain ⟨A, c, hC, hcall⟩ := HPK.out.2 wr O x p f sv nv cv hF
      unfold fptr at hcall
      obtain ⟨n, hn⟩ : ∃ n, n = (pk f).length := ⟨_, rfl⟩
      have HNL : Hid (n * 1 ≤ 140737488355328) := by show _ ≤ _; have := HPK.out.1 f hfok; unfold big at this; omega
      rw [← hn] at hcall hC
      have HC := Lib.hid hC
      have HCALL := Lib.hid hcall
      have HX := Lib.hid hxf
      obtain ⟨vn, ao, qo, rfl⟩ : ∃ n A q, u5 = .slice A n q := by obtain ⟨A_, c_, e_⟩ := Kd.S_slice HOUT.out; exact ⟨_, A_, c_, e_⟩
      obtain ⟨s, hs⟩ : ∃ s, s = toBA x := ⟨_, rfl⟩
      rw [← hs] at hcn LK hxs
      have HSX := Lib.hid hs
      have HLL : Hid ((((k.files.take j).map fun p => (⟨toBA p.1, pk p.2⟩ : S45)).length + 1) * 40 ≤ 140737488355328) := by show _ ≤ _; rw [List.length_map, List.length_take]; omega
      have HOK : Hid (∀ b, wr.heap.size ≤ b → w1.heap.size ≤ b ∧ some b ≠ (Value.slice ao vn qo).ownBlock) := fun b hb => ⟨Nat.le_trans HBR.out.size hb, fun e => by have := Kd.S_lt HOUT.out b e.symm; omega⟩
      have HFT := Lib.hid (files_take (pk := pk) hxf)
      obtain ⟨FL, hFL⟩ : ∃ FL, FL = ((k.files.take j).map fun p => (⟨toBA p.1, pk p.2⟩ : S45)) := ⟨_, rfl⟩
      rw [← hFL] at HOUT HLL HFT
      clear hFL
      clear hxf hDA hS' hz hlf hF hfok hC hcall hn hs
      go_wp2_with (first
        | (at_builtin; refine Kd.S_append k45 (w0 := w1) 0 rfl _ _ 33 45 (.agg #[.string ⟨#[]⟩, .slice none 0 0]) 40 rfl Try.underlying33 info45 rfl (by decide) (by decide) (.slice ao vn qo) FL (⟨s, pk f⟩ : S45) [.string s, .slice B6 N6 q6] (fun b => w1.heap.size ≤ b) (fun b => wr.heap.size ≤ b) rfl rfl HMK.out HOK.out HFR.out HSO.out HBO.out (Nat.zero_le _) HLL.out ?_; intro v4 w4 hr hb hg hat; have HR4 := Lib.hid hr; have HB4 := Lib.hid (HGN.out w4 hg); clear hr hb hg hat)
        | (go_at_call 58; refine (clone_bytes A n c (pk f) _ HC.out HNL.out).mono ?_; rintro r wB ⟨vB, rfl, hv, hb⟩; obtain ⟨N6, B6, q6, rfl⟩ : ∃ n A q, vB = .slice A n q := (by obtain ⟨A_, q_, e_⟩ := Kd.R_slice hv; exact ⟨_, A_, q_, e_⟩); have HBB := Lib.hid hb; have HVB := Lib.hid hv; have HMK := Lib.hid (k45_mkM wB 0 (fun b => wr.heap.size ≤ b) ⟨s, pk f⟩ hv); have HFR : Hid (∀ b, wB.heap.size ≤ b → w1.heap.size ≤ b) := (fun b hb => Nat.le_trans HBR.out.size (Nat.le_trans HBB.out.size hb)); have HSO : Hid (RF wB 0 (fun b => w1.heap.size ≤ b ∧ ¬ wr.heap.size ≤ b) (.slice ao vn qo) FL) := Kd.S_mono (Kd.S_old HOUT.out HBB.out) (fun b hb => ⟨hb.1, Nat.not_le.2 hb.2⟩); have hB1 : Below w1.heap.size w1 wB := HBR.out.trans (HBB.out.mono HBR.out.size); have HBO : Hid (Below 0 w1 wB) := hB1.mono (Nat.zero_le _); have HGN : Hid (∀ w4, wB.grownBy w4 (Value.slice ao vn qo).ownBlock → Below w1.heap.size w1 w4) := (fun w4 hg => grown_new hB1 hg (fun b hb => (Kd.S_R HOUT.out).1 b hb)); clear hv hb hB1)
        | (with_reducible refine (HCALL.out _ (Below.refl _ _)).mono ?_; rintro r wA ⟨rfl, hw⟩; obtain rfl := hw.symm; clear hw))
      go_roundw
      case rel => exact ⟨j + 1, by omega, by go_num, by rw [HFT.out, ← HSX.out]; exact HR4.out, HB4.out⟩
      case measure => simp [intOf]; omega
    · obtain rfl : j = M := by omega
      have htk : k.files.take j = k.files := by rw [HM.out]; exact List.take_length
      rw [htk] at HOUT
      go_wp2_with fail
      go_ret
      exact ⟨_, rfl, Kd.S_mono HOUT.out (fun b hb => Nat.le_trans HB1.out.size hb), HB1.out.trans (HBR.out.mono HB1.out.size)⟩

set_option maxRecDepth 100000 in
theorem picks_seen : Picks 53 (·.seen) := by
  refine ⟨fun f hf => hf.stop.1, fun w O x p f sv nv cv h => ?_⟩
  obtain ⟨A2, q2, e2⟩ := Kd.R_slice h.seen
  subst e2
  refine ⟨A2, q2, (Kd.R_reads' h.seen).2.2, fun W hW => ?_⟩
  obtain ⟨n, hn⟩ : ∃ n, n = f.seen.length := ⟨_, rfl⟩
  obtain ⟨c0, c1, c2, f0, f1, f2, hpl⟩ := (h.below hW).see
  rw [← hn] at c1 ⊢
  clear h hW hn
  unfold fptr
  go_enter Try.func53, Try.ntmps53
  go_wp2
  go_ret
  exact ⟨rfl, rfl⟩
set_option maxRecDepth 100000 in
theorem picks_safe : Picks 54 (·.safe) := by
  refine ⟨fun f hf => hf.start.1, fun w O x p f sv nv cv h => ?_⟩
  obtain ⟨A2, q2, e2⟩ := Kd.R_slice h.safe
  subst e2
  refine ⟨A2, q2, (Kd.R_reads' h.safe).2.2, fun W hW => ?_⟩
  obtain ⟨n, hn⟩ : ∃ n, n = f.safe.length := ⟨_, rfl⟩
  obtain ⟨c0, c1, c2, f0, f1, f2, hpl⟩ := (h.below hW).see
  rw [← hn] at c0 ⊢
  clear h hW hn
  unfold fptr
  go_enter Try.func54, Try.ntmps54
  go_wp2
  go_ret
  exact ⟨rfl, rfl⟩
set_option maxRecDepth 100000 in
theorem files_any (w : World) (d N : Nat) (S : Nat → Prop) (k : Dk) (h : Disk w d S k N) : Calls Try.prog 19 #[.pointer (some ⟨d, 0, none⟩)] w (FilesPost w (filesD (·.seen) k)) := by
  have HA := Lib.hid (all_any w d N S k h 53 (fun args w => by kernel_rfl) (·.seen) picks_seen)
  clear h
  go_enter Try.func19, Try.ntmps19
  go_wp2_with (go_at_call 52; refine HA.out.mono ?_; rintro r w1 ⟨v1, rfl, hv, hb⟩; have HV := Lib.hid hv; have HB := Lib.hid hb; clear hv hb)
  go_ret
  exact ⟨_, rfl, HV.out, HB.out⟩
set_option maxRecDepth 100000 in
theorem safe_any (w : World) (d N : Nat) (S : Nat → Prop) (k : Dk) (h : Disk w d S k N) : Calls Try.prog 20 #[.pointer (some ⟨d, 0, none⟩)] w (FilesPost w (filesD (·.safe) k)) := by
  have HA := Lib.hid (all_any w d N S k h 54 (fun args w => by kernel_rfl) (·.safe) picks_safe)
  clear h
  go_enter Try.func20, Try.ntmps20
  go_wp2_with (go_at_call 52; refine HA.out.mono ?_; rintro r w1 ⟨v1, rfl, hv, hb⟩; have HV := Lib.hid hv; have HB := Lib.hid hb; clear hv hb)
  go_ret
  exact ⟨_, rfl, HV.out, HB.out⟩
end Go.Proofs.Ytkhopknpadncdaa
