/- The reference's disk and log where there is no file: New, File, bases, kept, Open. -/
import Derived.Test.YtciikcmiiebfpaaGreatDoorPlogO
namespace Go.Proofs.YtciikcmiiebfpaaGreatDoor
open Go Go.RowKit Go.Maps Go.Proofs.YtciikcmiiebfpaaGreatDoorW.PrintWords Go.Proofs.YtciikcmiiebfpaaGreatDoor.PTopicsGets Go.Proofs.YtciikcmiiebfpaaGreatDoorW.PrintMore
set_option linter.unusedVariables false
set_option linter.unusedSimpArgs false

theorem results_ctt_ {fn : Func} {p u v : Tmp} {ty : TypeId} (h : fn.results = #[.cell p ty, .tmp u, .tmp v]) (tmps : Array Value) (w : World) (g : Nat) (cs : Array Value)
    (hp : tmps.getD p undef = .pointer (some ⟨g, 0, none⟩)) (hr : (loadVar ty ⟨g, 0, none⟩).run Tryz.prog w = .ok (.agg cs) w) :
    (results fn tmps).run Tryz.prog w = .ok (.tuple #[.agg cs, tmps.getD u undef, tmps.getD v undef]) w := by
  have hp' : tmps[p]?.getD undef = .pointer (some ⟨g, 0, none⟩) := by simpa using hp
  simp [results, h, hp', asAddr, hr, Result.andThen]
theorem results_cct_ {fn : Func} {p q u : Tmp} {ty ty2 : TypeId} (h : fn.results = #[.cell p ty, .cell q ty2, .tmp u]) (tmps : Array Value) (w : World) (g g2 : Nat) (cs cs2 : Array Value)
    (hp : tmps.getD p undef = .pointer (some ⟨g, 0, none⟩)) (hr : (loadVar ty ⟨g, 0, none⟩).run Tryz.prog w = .ok (.agg cs) w)
    (hp2 : tmps.getD q undef = .pointer (some ⟨g2, 0, none⟩)) (hr2 : (loadVar ty2 ⟨g2, 0, none⟩).run Tryz.prog w = .ok (.agg cs2) w) :
    (results fn tmps).run Tryz.prog w = .ok (.tuple #[.agg cs, .agg cs2, tmps.getD u undef]) w := by
  have hp' : tmps[p]?.getD undef = .pointer (some ⟨g, 0, none⟩) := by simpa using hp
  have hp2' : tmps[q]?.getD undef = .pointer (some ⟨g2, 0, none⟩) := by simpa using hp2
  simp [results, h, hp', hp2', asAddr, hr, hr2, Result.andThen]

/-- The reference's empty disk. -/
abbrev rdCells (room : Int) : List Value := [.slice none 0 0, .int .i64 room, .slice none 0 0, .int .i64 0, .bool false]
abbrev rdV (room : Int) : Value := .agg #[.slice none 0 0, .int .i64 room, .slice none 0 0, .int .i64 0, .bool false]
abbrev rlCells (dir : ByteArray) : List Value := [.string dir, .int .i64 100, .slice none 0 0, .slice none 0 0, .bool false]
abbrev rlV (dir : ByteArray) : Value := .agg #[.string dir, .int .i64 100, .slice none 0 0, .slice none 0 0, .bool false]

theorem bound_hundred (w : World) : Calls Tryz.prog 104 #[.int .i64 100] w fun r w' => w' = w ∧ r = .returned (.int .i64 100) := by
  go_enter Tryz.func104, Tryz.ntmps104
  go_wp2_with fail
  all_goals
    go_ret
    exact ⟨rfl, rfl⟩

set_option maxRecDepth 100000 in
set_option maxHeartbeats 2000000 in
theorem rnew_ok (w : World) : Calls Tryz.prog 9 #[.int .i64 1048576] w fun r w' => Below w.heap.size w w' ∧ r = .returned (rdV 1048576) := by
  go_enter Tryz.func9, Tryz.ntmps9
  go_wp2_with fail
  have hres := run_loadVar_row _ w.heap.size 34 34 _ _ _ (blk_new w (.cells (rdCells 1048576).toArray 34)) Tryz.underlying34 rfl (by kernel_rfl)
  refine bodyPost_ret (results_c (p := 2) (ty := 34) rfl _ _ w.heap.size _ rfl hres) rfl ?_
  exact ⟨(Below.refl _ _).alloc (Nat.le_refl _) _, rfl⟩

set_option maxRecDepth 100000 in
theorem rfile_zero (w : World) (dir : ByteArray) (hd : dir.size ≤ 1000) : Calls Tryz.prog 55 #[.string dir, .int .i64 0] w fun r w' => Below w.heap.size w w' ∧ r = .returned (.string (nameS dir 0)) := by
  have hf := Lb.rfile_any w 0
  have ha : Lb.fileAns 0 = .tuple #[.string (Lb.fileS 0), .int .i64 0] := rfl
  rw [ha] at hf
  have HF := Lib.hid hf
  have h1 := fileS_size 0 (by decide)
  have HN : Hid (nameS dir 0 = dir ++ ⟨#[47]⟩ ++ Lb.fileS 0) := rfl
  have h2 : (dir ++ (⟨#[47]⟩ : ByteArray)).size = dir.size + 1 := by rw [ByteArray.size_append]; rfl
  clear hf ha
  generalize Lb.fileS 0 = f at *
  go_enter Tryz.func55, Tryz.ntmps55
  go_wp2_with fail
  refine HF.out.mono ?_
  rintro r w1 ⟨rfl, hb1⟩
  have HB := Lib.hid hb1
  clear hb1 HF
  go_wp2_with fail
  all_goals
    go_ret
    exact ⟨HB.out, by rw [HN.out]; rfl⟩

set_option maxRecDepth 100000 in
theorem rbases_none (w : World) (dir : ByteArray) (room : Int) : Calls Tryz.prog 56 #[rdV room, .string dir] w fun r w' => Below w.heap.size w w' ∧ ∃ A c, r = .returned (.slice A 0 c) := by
  have HB : Hid (Below w.heap.size w (w.alloc (.cells #[.slice none 0 0, .int .i64 room, .slice none 0 0, .int .i64 0, .bool false] 34))) := (Below.refl _ _).alloc (Nat.le_refl _) _
  unfold rdV
  go_enter Tryz.func56, Tryz.ntmps56
  go_wp2_with fail
  refine wp_loop_rounds 1 ?_
  rw [rounds_succ]
  go_wp2_with fail
  all_goals
    go_ret
    exact ⟨HB.out.alloc HB.out.size _, _, _, rfl⟩

theorem three_new (w : World) (o1 o2 o3 : Obj) (nq : Nat) : Below w.heap.size w ((((w.alloc o1).alloc o2).alloc o3).drewN nq) := by
  have h1 : Below w.heap.size w (w.alloc o1) := (Below.refl _ _).alloc (Nat.le_refl _) _
  have h2 := h1.alloc h1.size o2
  have h3 := h2.alloc h2.size o3
  exact h3.trans ((pw_below_drewN (Below.refl _ _) nq).mono h3.size)
theorem three_first (w : World) (o1 o2 o3 : Obj) (nq : Nat) : ((((w.alloc o1).alloc o2).alloc o3).drewN nq).heap[w.heap.size]? = some o1 := by
  have h1 : (w.alloc o1).heap[w.heap.size]? = some o1 := heap_alloc_new _ _
  have h2 : Below (w.alloc o1).heap.size (w.alloc o1) ((w.alloc o1).alloc o2) := (Below.refl _ _).alloc (Nat.le_refl _) o2
  have h3 := h2.alloc h2.size o3
  have h3b : Below (((w.alloc o1).alloc o2).alloc o3).heap.size (((w.alloc o1).alloc o2).alloc o3) ((((w.alloc o1).alloc o2).alloc o3).drewN nq) := pw_below_drewN (Below.refl _ _) nq
  have h4 := h3.trans (h3b.mono h3.size)
  exact (h4.block _ (by rw [World.size_alloc]; omega)).trans h1
theorem three_last (w : World) (o1 o2 o3 : Obj) (nq : Nat) : ((((w.alloc o1).alloc o2).alloc o3).drewN nq).heap[w.heap.size + 1 + 1]? = some o3 := by
  have s1 : ((w.alloc o1).alloc o2).heap.size = w.heap.size + 1 + 1 := by rw [World.size_alloc, World.size_alloc]
  have h1 : (((w.alloc o1).alloc o2).alloc o3).heap[w.heap.size + 1 + 1]? = some o3 := by rw [← s1]; exact heap_alloc_new _ _
  have h3b : Below (((w.alloc o1).alloc o2).alloc o3).heap.size (((w.alloc o1).alloc o2).alloc o3) ((((w.alloc o1).alloc o2).alloc o3).drewN nq) := pw_below_drewN (Below.refl _ _) nq
  exact (h3b.block _ (by rw [World.size_alloc, s1]; omega)).trans h1
theorem three_mid (w : World) (o1 o2 o3 : Obj) (nq : Nat) : ((((w.alloc o1).alloc o2).alloc o3).drewN nq).heap[w.heap.size + 1]? = some o2 := by
  have s1 : (w.alloc o1).heap.size = w.heap.size + 1 := World.size_alloc _ _
  have h2 : ((w.alloc o1).alloc o2).heap[w.heap.size + 1]? = some o2 := by rw [← s1]; exact heap_alloc_new _ _
  have s2 : ((w.alloc o1).alloc o2).heap.size = w.heap.size + 1 + 1 := by rw [World.size_alloc, s1]
  have h3a : Below ((w.alloc o1).alloc o2).heap.size ((w.alloc o1).alloc o2) (((w.alloc o1).alloc o2).alloc o3) := (Below.refl _ _).alloc (Nat.le_refl _) o3
  have h3b : Below (((w.alloc o1).alloc o2).alloc o3).heap.size (((w.alloc o1).alloc o2).alloc o3) ((((w.alloc o1).alloc o2).alloc o3).drewN nq) := pw_below_drewN (Below.refl _ _) nq
  have h3 := h3a.trans (h3b.mono h3a.size)
  exact (h3.block _ (by omega)).trans h2
set_option maxRecDepth 100000 in
set_option maxHeartbeats 4000000 in
theorem rkept_none (w : World) (dir : ByteArray) (room : Int) (A : Option Addr) (c : Nat) : Calls Tryz.prog 57 #[rdV room, .string dir, .int .i64 100, .slice A 0 c] w fun r w' => Below w.heap.size w w' ∧ r = .returned (.tuple #[rlV dir, .int .i64 0, .int .i64 (-1)]) := by
  have HB : Hid (∀ nq, Below w.heap.size w ((((w.alloc (.cells #[.slice none 0 0, .int .i64 room, .slice none 0 0, .int .i64 0, .bool false] 34)).alloc (.cells #[.string ⟨#[]⟩, .int .i64 0, .slice none 0 0, .slice none 0 0, .bool false] 74)).alloc (.cells #[.string dir, .int .i64 100, .slice none 0 0, .slice none 0 0, .bool false] 74)).drewN nq)) := fun nq =>
    three_new w _ _ _ nq
  have HN : Hid (∀ nq, ((((w.alloc (.cells #[.slice none 0 0, .int .i64 room, .slice none 0 0, .int .i64 0, .bool false] 34)).alloc (.cells #[.string ⟨#[]⟩, .int .i64 0, .slice none 0 0, .slice none 0 0, .bool false] 74)).alloc (.cells #[.string dir, .int .i64 100, .slice none 0 0, .slice none 0 0, .bool false] 74)).drewN nq).heap[w.heap.size + 1]? = some (.cells [.string ⟨#[]⟩, .int .i64 0, .slice none 0 0, .slice none 0 0, .bool false].toArray 74 (0, 0))) := fun nq => three_mid w _ _ _ nq
  unfold rdV
  go_enter Tryz.func57, Tryz.ntmps57
  go_wp2_with (go_at_call 104; refine (bound_hundred _).mono ?_; rintro r w1 ⟨rfl, rfl⟩)
  refine wp_loop_rounds 1 ?_
  rw [rounds_succ]
  go_upto_region 3 with fail
  go_quiet (fail)
  go_wp2_with fail
  have hb := HB.out nq
  have hn := HN.out nq
  clear HB HN
  generalize (((w.alloc _).alloc _).alloc _).drewN nq = W0 at *
  have h7 := puts_all hn (rlCells dir) rfl
  have t7 : Below w.heap.size w (puts W0 (w.heap.size + 1) 0 (rlCells dir)) := hb.trans ((puts_tch (w.heap.size + 1) _ 0 W0).below hb.size (fun i hi => by omega))
  have hres := run_loadVar_row _ (w.heap.size + 1) 74 74 _ _ _ h7 Tryz.underlying74 rfl (by kernel_rfl)
  simp only [puts, Nat.reduceAdd, Nat.zero_add] at hres t7
  refine bodyPost_ret (results_ctt_ (p := 8) (u := 9) (v := 10) (ty := 74) rfl _ _ (w.heap.size + 1) _ rfl hres) rfl ?_
  exact ⟨t7, rfl⟩
end Go.Proofs.YtciikcmiiebfpaaGreatDoor
