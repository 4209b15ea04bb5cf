/- One call of a script: At, Since. -/
import Derived.Test.YtomlhedichdkkaaAsks
import Derived.RegionTactic
import Derived.ChangeAlike
namespace Go.Proofs.Ytomlhedichdkkaa
open Go Go.RowKit
set_option linter.unusedVariables false

section
variable (w : World) (g : Nat) (base : Int) (L : List Ent) (A : Option Addr) (c n : Nat) (P : Nat → Prop) (hn : L.length = n) (hm : n ≤ 1759218604390) (hap : Apart w g base L A P)
include hn hm hap

set_option maxRecDepth 20000 in
set_option maxHeartbeats 2000000 in
theorem asks_at (e : Ent) (N M : Int) :
    Calls Try.prog 21 #[.pointer (some ⟨g, 0, none⟩), .agg #[.int .i64 base, .slice A n c], opVal 3 e N M] w (AskAns w g base L A P) := by
  have HN := Lib.hid hn
  have HAP := Lib.hid hap
  have hh := aheads w base (.slice A n c) 3 e N M
  simp only [opObj] at hh
  have HH := Lib.hid hh
  have HC := Lib.hid (at_find hap.obj.val N)
  have HVA := Lib.hid hap.obj.val
  obtain ⟨X, ok, hX⟩ : ∃ (X : Ent) (ok : Bool), optAns (L.find? (holdsB N)) = .tuple #[.agg #[.int .i64 X.base, .int .i64 X.count, .int .i64 X.at_, .int .i64 X.size, .int .i64 X.last, .int .i64 X.pid, .int .i16 X.pep, .int .i32 X.seq], .bool ok] := ⟨_, _, rfl⟩
  have HX := Lib.hid hX
  clear hX
  unfold opVal
  clear hap hn hh
  go_enter Try.func21, Try.ntmps21
  go_wp2_with fail
  generalize ((w.alloc (.cells #[.int .i64 base, .slice A n c] 47)).alloc (.cells #[.int .i64 3, .int .i64 e.base, .int .i64 e.count, .int .i64 e.at_, .int .i64 e.size, .int .i64 e.last, .int .i64 e.pid, .int .i16 e.pep, .int .i32 e.seq, .int .i64 N, .int .i64 M] 49)).alloc (.cells #[.int .i64 0, .slice none 0 0] 47) = W3 at *
  have O3 : Hid (Obj W3 g base L P) := (HAP.out.below HH.out.b).obj
  have R3 : Hid (Row W3 A L) := (HAP.out.below HH.out.b).row
  have kk := HH.out.o.c
  have k0 := kk.k0
  have k1 := kk.k1
  clear kk
  go_wp2_with fail
  refine (ob_at O3.out (by rw [HN.out]; omega) N).mono ?_
  rintro r w4 ⟨rfl, h4⟩
  rw [HC.out, HX.out]
  have HH4 := Lib.hid (HH.out.below h4)
  obtain ⟨x0, x1⟩ := HH4.out.x.c
  have kk := HH4.out.o.c
  have j1 := kk.k1
  have lt0 : w.heap.size < w4.heap.size := HH4.out.x.lt
  have lt1 : w.heap.size + 1 < w4.heap.size := HH4.out.o.lt
  have h5 : Below W3.heap.size W3 (w4.alloc (.cells #[.int .i64 X.base, .int .i64 X.count, .int .i64 X.at_, .int .i64 X.size, .int .i64 X.last, .int .i64 X.pid, .int .i16 X.pep, .int .i32 X.seq] 30)) := h4.alloc h4.size _
  have B5 := Lib.hid h5
  have HH5 := Lib.hid (HH.out.below h5)
  have X5 := Lib.hid (boxAt w4 X)
  have L5 : Hid (w4.heap.size < (w4.alloc (.cells #[.int .i64 X.base, .int .i64 X.count, .int .i64 X.at_, .int .i64 X.size, .int .i64 X.last, .int .i64 X.pid, .int .i16 X.pep, .int .i32 X.seq] 30)).heap.size) := (Array.getElem?_eq_some_iff.1 X5.out).1
  clear h4 h5 kk k0 k1
  go_wp2_with fail
  generalize w4.alloc (.cells #[.int .i64 X.base, .int .i64 X.count, .int .i64 X.at_, .int .i64 X.size, .int .i64 X.last, .int .i64 X.pid, .int .i16 X.pep, .int .i32 X.seq] 30) = w5 at *
  clear x0 x1 j1 lt0 lt1
  refine (rat_any w5 base L A c n HN.out (by omega) (R3.out.below' B5.out) HVA.out N).mono ?_
  rintro r w6 ⟨rfl, h6⟩
  rw [HX.out]
  have h7 : Below w5.heap.size w5 (w6.alloc (.cells #[.int .i64 X.base, .int .i64 X.count, .int .i64 X.at_, .int .i64 X.size, .int .i64 X.last, .int .i64 X.pid, .int .i16 X.pep, .int .i32 X.seq] 30)) := h6.alloc h6.size _
  have HZ := Lib.hid (HH5.out.below h7)
  obtain ⟨x0, x1⟩ := HZ.out.x.c
  obtain ⟨r0, r1⟩ := HZ.out.r.c
  have rf := HZ.out.r.free
  have lt0 : w.heap.size < w6.heap.size := (HH5.out.below h6).x.lt
  have lt2 : w.heap.size + 1 + 1 < w6.heap.size := (HH5.out.below h6).r.lt
  obtain ⟨y0, y1, y2, y3, y4, y5, y6, y7⟩ := (X5.out.below h7 L5.out).ent
  obtain ⟨z0, z1, z2, z3, z4, z5, z6, z7⟩ := (boxAt w6 X).ent
  clear h6 h7
  go_wp2_with fail
  generalize w6.alloc (.cells #[.int .i64 X.base, .int .i64 X.count, .int .i64 X.at_, .int .i64 X.size, .int .i64 X.last, .int .i64 X.pid, .int .i16 X.pep, .int .i32 X.seq] 30) = w7 at *
  cases ok
  all_goals
    go_region
    go_wp2_with fail
    refine bodyPost_ret (v := .tuple #[.agg #[.int .i64 base, .slice A n c], .bool true]) ?_ rfl (AskAns.same HAP.out HN.out ?_ rfl)
    · rw [results_cell_tmp rfl]
      go_simp
      try rfl
    · exact (put_res base HZ.out.b).drew

set_option maxRecDepth 20000 in
set_option maxHeartbeats 2000000 in
theorem asks_since (e : Ent) (N M : Int) :
    Calls Try.prog 21 #[.pointer (some ⟨g, 0, none⟩), .agg #[.int .i64 base, .slice A n c], opVal 4 e N M] w (AskAns w g base L A P) := by
  have HN := Lib.hid hn
  have HAP := Lib.hid hap
  have hh := aheads w base (.slice A n c) 4 e N M
  simp only [opObj] at hh
  have HH := Lib.hid hh
  have HC := Lib.hid (since_find L N)
  have HVA := Lib.hid hap.obj.val
  obtain ⟨X, ok, hX⟩ : ∃ (X : Ent) (ok : Bool), optAns (L.find? (isLate N)) = .tuple #[.agg #[.int .i64 X.base, .int .i64 X.count, .int .i64 X.at_, .int .i64 X.size, .int .i64 X.last, .int .i64 X.pid, .int .i16 X.pep, .int .i32 X.seq], .bool ok] := ⟨_, _, rfl⟩
  have HX := Lib.hid hX
  clear hX
  unfold opVal
  clear hap hn hh
  go_enter Try.func21, Try.ntmps21
  go_wp2_with fail
  generalize ((w.alloc (.cells #[.int .i64 base, .slice A n c] 47)).alloc (.cells #[.int .i64 4, .int .i64 e.base, .int .i64 e.count, .int .i64 e.at_, .int .i64 e.size, .int .i64 e.last, .int .i64 e.pid, .int .i16 e.pep, .int .i32 e.seq, .int .i64 N, .int .i64 M] 49)).alloc (.cells #[.int .i64 0, .slice none 0 0] 47) = W3 at *
  have O3 : Hid (Obj W3 g base L P) := (HAP.out.below HH.out.b).obj
  have R3 : Hid (Row W3 A L) := (HAP.out.below HH.out.b).row
  have kk := HH.out.o.c
  have k0 := kk.k0
  have k1 := kk.k1
  clear kk
  go_wp2_with fail
  refine (ob_since O3.out (by rw [HN.out]; omega) N).mono ?_
  rintro r w4 ⟨rfl, h4⟩
  rw [HC.out, HX.out]
  have HH4 := Lib.hid (HH.out.below h4)
  obtain ⟨x0, x1⟩ := HH4.out.x.c
  have kk := HH4.out.o.c
  have j1 := kk.k1
  have lt0 : w.heap.size < w4.heap.size := HH4.out.x.lt
  have lt1 : w.heap.size + 1 < w4.heap.size := HH4.out.o.lt
  have h5 : Below W3.heap.size W3 (w4.alloc (.cells #[.int .i64 X.base, .int .i64 X.count, .int .i64 X.at_, .int .i64 X.size, .int .i64 X.last, .int .i64 X.pid, .int .i16 X.pep, .int .i32 X.seq] 30)) := h4.alloc h4.size _
  have B5 := Lib.hid h5
  have HH5 := Lib.hid (HH.out.below h5)
  have X5 := Lib.hid (boxAt w4 X)
  have L5 : Hid (w4.heap.size < (w4.alloc (.cells #[.int .i64 X.base, .int .i64 X.count, .int .i64 X.at_, .int .i64 X.size, .int .i64 X.last, .int .i64 X.pid, .int .i16 X.pep, .int .i32 X.seq] 30)).heap.size) := (Array.getElem?_eq_some_iff.1 X5.out).1
  clear h4 h5 kk k0 k1
  go_wp2_with fail
  generalize w4.alloc (.cells #[.int .i64 X.base, .int .i64 X.count, .int .i64 X.at_, .int .i64 X.size, .int .i64 X.last, .int .i64 X.pid, .int .i16 X.pep, .int .i32 X.seq] 30) = w5 at *
  clear x0 x1 j1 lt0 lt1
  refine (rsince_any w5 base L A c n HN.out (by omega) (R3.out.below' B5.out) N).mono ?_
  rintro r w6 ⟨rfl, h6⟩
  rw [HX.out]
  have h7 : Below w5.heap.size w5 (w6.alloc (.cells #[.int .i64 X.base, .int .i64 X.count, .int .i64 X.at_, .int .i64 X.size, .int .i64 X.last, .int .i64 X.pid, .int .i16 X.pep, .int .i32 X.seq] 30)) := h6.alloc h6.size _
  have HZ := Lib.hid (HH5.out.below h7)
  obtain ⟨x0, x1⟩ := HZ.out.x.c
  obtain ⟨r0, r1⟩ := HZ.out.r.c
  have rf := HZ.out.r.free
  have lt0 : w.heap.size < w6.heap.size := (HH5.out.below h6).x.lt
  have lt2 : w.heap.size + 1 + 1 < w6.heap.size := (HH5.out.below h6).r.lt
  obtain ⟨y0, y1, y2, y3, y4, y5, y6, y7⟩ := (X5.out.below h7 L5.out).ent
  obtain ⟨z0, z1, z2, z3, z4, z5, z6, z7⟩ := (boxAt w6 X).ent
  clear h6 h7
  go_wp2_with fail
  generalize w6.alloc (.cells #[.int .i64 X.base, .int .i64 X.count, .int .i64 X.at_, .int .i64 X.size, .int .i64 X.last, .int .i64 X.pid, .int .i16 X.pep, .int .i32 X.seq] 30) = w7 at *
  cases ok
  all_goals
    go_region
    go_wp2_with fail
    refine bodyPost_ret (v := .tuple #[.agg #[.int .i64 base, .slice A n c], .bool true]) ?_ rfl (AskAns.same HAP.out HN.out ?_ rfl)
    · rw [results_cell_tmp rfl]
      go_simp
      try rfl
    · exact (put_res base HZ.out.b).drew
end
end Go.Proofs.Ytomlhedichdkkaa
