/-
  DERIVED: THE SHELF's CONTRACTS AT THIS DUMP, IN PLAIN WORDS (tools/lay-plain.mjs out of 'TryKeys.lean', which tools/lay-shelf.mjs wrote): THE SAME DECLARATIONS UNDER THE SAME NAMES: 'import', 'namespace', 'open', 'def', 'theorem' AND NOTHING ELSE: no command of the shelf's: FOR A HAND-IN. Each laying: the table of numbers ('.._ren') and one theorem, a field a fact of the dump's own or the kernel's comparison; each contract: ONE APPLICATION.
-/
import Derived.Shelf.SlIterI.Nil
import Derived.Shelf.SortM.Plain
import Derived.Shelf.SortM.SortNone
import Derived.Shelf.SlMaps.DeleteFunc
import Derived.Shelf.SlicesQ.IndexFunc
import Derived.Ground.GgzProg
import Derived.Ground.SlgmProg
import Derived.Ground.SlmdProg
import Derived.Ground.SlgfProg
import Derived.Test.YtnooekflmjebiaaProg
namespace Go.Proofs
open Go.Shelf
def Try.keysA_ren : Go.Shelf.Ren := ⟨fun | 7 => 29 | 10 => 38 | n => n, fun | 23 => 54 | 26 => 2 | 3 => 60 | 28 => 75 | 0 => 0 | 27 => 74 | 33 => 83 | 4 => 4 | n => n, fun | n => n⟩
theorem Try.keysA : Go.Proofs.SlLaysZI.n7 Try.prog Try.keysA_ren := {
  mixed := by kernel_rfl
  f7 := ⟨Try.f29.name, by decide, Try.func29.trans (congrArg some (by kernel_rfl))⟩
  f10 := ⟨Try.f38.name, by decide, Try.func38.trans (congrArg some (by kernel_rfl))⟩
  t0 := Try.underlying0
  a0 := Try.isAgg0
  z0 := Try.sizeOf0
  v0 := Try.zeroValue0
  t4 := Try.underlying4
  a4 := Try.isAgg4
  z4 := Try.sizeOf4
  v4 := Try.zeroValue4
  t23 := Try.underlying54
  a23 := Try.isAgg54
  z23 := Try.sizeOf54
  v23 := Try.zeroValue54
  t26 := Try.underlying2
  a26 := Try.isAgg2
  z26 := Try.sizeOf2
  v26 := Try.zeroValue2
  t27 := Try.underlying74
  a27 := Try.isAgg74
  z27 := Try.sizeOf74
  v27 := Try.zeroValue74
  t28 := Try.underlying75
  a28 := Try.isAgg75
  z28 := Try.sizeOf75
  v28 := Try.zeroValue75
  t33 := Try.underlying83
  a33 := Try.isAgg83
  z33 := Try.sizeOf83
  v33 := Try.zeroValue83 }
def Try.sortedA_ren : Go.Shelf.Ren := ⟨fun | 6 => 33 | 8 => 28 | 9 => 39 | 11 => 37 | 13 => 41 | 12 => 40 | 23 => 51 | 24 => 52 | 14 => 42 | 15 => 43 | 16 => 44 | 17 => 45 | 18 => 46 | 19 => 47 | 20 => 48 | 21 => 49 | 22 => 50 | 25 => 53 | 26 => 54 | 27 => 55 | 28 => 56 | 29 => 57 | 30 => 58 | 31 => 59 | n => n, fun | 26 => 2 | 28 => 75 | 24 => 50 | 0 => 0 | 3 => 3 | 37 => 87 | 48 => 98 | 50 => 100 | 4 => 4 | 40 => 90 | 39 => 89 | 45 => 95 | 5 => 5 | 9 => 9 | 51 => 101 | 55 => 105 | 57 => 107 | 58 => 108 | 33 => 83 | n => n, fun | n => n⟩
theorem Try.sortedA : Go.Proofs.SlLaysZI.n6 Try.prog Try.sortedA_ren := {
  mixed := by kernel_rfl
  f6 := ⟨Try.f33.name, by decide, Try.func33.trans (congrArg some (by kernel_rfl))⟩
  f8 := ⟨Try.f28.name, by decide, Try.func28.trans (congrArg some (by kernel_rfl))⟩
  f11 := ⟨Try.f37.name, by decide, Try.func37.trans (congrArg some (by kernel_rfl))⟩
  t0 := Try.underlying0
  a0 := Try.isAgg0
  z0 := Try.sizeOf0
  v0 := Try.zeroValue0
  t24 := Try.underlying50
  a24 := Try.isAgg50
  z24 := Try.sizeOf50
  v24 := Try.zeroValue50
  t26 := Try.underlying2
  a26 := Try.isAgg2
  z26 := Try.sizeOf2
  v26 := Try.zeroValue2
  t28 := Try.underlying75
  a28 := Try.isAgg75
  z28 := Try.sizeOf75
  v28 := Try.zeroValue75
  i26 := by kernel_rfl }
def Try.sortA_ren : Go.Shelf.Ren := ⟨fun | 5 => 39 | 8 => 41 | 7 => 40 | 19 => 51 | 20 => 52 | 10 => 42 | 11 => 43 | 12 => 44 | 13 => 45 | 14 => 46 | 15 => 47 | 16 => 48 | 17 => 49 | 18 => 50 | 30 => 53 | 31 => 54 | 32 => 55 | 33 => 56 | 34 => 57 | 35 => 58 | 40 => 59 | n => n, fun | 23 => 50 | 25 => 2 | 3 => 3 | 32 => 87 | 22 => 50 | 0 => 0 | 44 => 98 | 46 => 100 | 4 => 4 | 36 => 90 | 35 => 89 | 41 => 95 | 5 => 5 | 9 => 9 | 53 => 101 | 57 => 105 | 63 => 107 | 64 => 108 | n => n, fun | n => n⟩
theorem Try.sortA : Go.Proofs.SlLaysM.n5 Try.prog Try.sortA_ren := {
  mixed := by kernel_rfl
  f5 := ⟨Try.f39.name, by decide, Try.func39.trans (congrArg some (by kernel_rfl))⟩
  f7 := ⟨Try.f40.name, by decide, Try.func40.trans (congrArg some (by kernel_rfl))⟩
  f8 := Try.func41.trans (congrArg some (by kernel_rfl))
  f10 := ⟨Try.f42.name, by decide, Try.func42.trans (congrArg some (by kernel_rfl))⟩
  f11 := ⟨Try.f43.name, by decide, Try.func43.trans (congrArg some (by kernel_rfl))⟩
  f12 := ⟨Try.f44.name, by decide, Try.func44.trans (congrArg some (by kernel_rfl))⟩
  f13 := ⟨Try.f45.name, by decide, Try.func45.trans (congrArg some (by kernel_rfl))⟩
  f14 := ⟨Try.f46.name, by decide, Try.func46.trans (congrArg some (by kernel_rfl))⟩
  f15 := ⟨Try.f47.name, by decide, Try.func47.trans (congrArg some (by kernel_rfl))⟩
  f16 := ⟨Try.f48.name, by decide, Try.func48.trans (congrArg some (by kernel_rfl))⟩
  f17 := ⟨Try.f49.name, by decide, Try.func49.trans (congrArg some (by kernel_rfl))⟩
  f18 := ⟨Try.f50.name, by decide, Try.func50.trans (congrArg some (by kernel_rfl))⟩
  f19 := Try.func51.trans (congrArg some (by kernel_rfl))
  f20 := Try.func52.trans (congrArg some (by kernel_rfl))
  f30 := ⟨Try.f53.name, by decide, Try.func53.trans (congrArg some (by kernel_rfl))⟩
  f31 := Try.func54.trans (congrArg some (by kernel_rfl))
  f32 := Try.func55.trans (congrArg some (by kernel_rfl))
  f33 := ⟨Try.f56.name, by decide, Try.func56.trans (congrArg some (by kernel_rfl))⟩
  f34 := ⟨Try.f57.name, by decide, Try.func57.trans (congrArg some (by kernel_rfl))⟩
  f35 := ⟨Try.f58.name, by decide, Try.func58.trans (congrArg some (by kernel_rfl))⟩
  f40 := ⟨Try.f59.name, by decide, Try.func59.trans (congrArg some (by kernel_rfl))⟩
  t0 := Try.underlying0
  a0 := Try.isAgg0
  z0 := Try.sizeOf0
  v0 := Try.zeroValue0
  t3 := Try.underlying3
  a3 := Try.isAgg3
  z3 := Try.sizeOf3
  v3 := Try.zeroValue3
  t4 := Try.underlying4
  a4 := Try.isAgg4
  z4 := Try.sizeOf4
  v4 := Try.zeroValue4
  t5 := Try.underlying5
  a5 := Try.isAgg5
  z5 := Try.sizeOf5
  v5 := Try.zeroValue5
  t9 := Try.underlying9
  a9 := Try.isAgg9
  z9 := Try.sizeOf9
  v9 := Try.zeroValue9
  t22 := Try.underlying50
  a22 := Try.isAgg50
  z22 := Try.sizeOf50
  v22 := Try.zeroValue50
  t23 := Try.underlying50
  a23 := Try.isAgg50
  z23 := Try.sizeOf50
  v23 := Try.zeroValue50
  t25 := Try.underlying2
  a25 := Try.isAgg2
  z25 := Try.sizeOf2
  v25 := Try.zeroValue2
  t32 := Try.underlying87
  a32 := Try.isAgg87
  z32 := Try.sizeOf87
  v32 := Try.zeroValue87
  t35 := Try.underlying89
  a35 := Try.isAgg89
  z35 := Try.sizeOf89
  v35 := Try.zeroValue89
  t36 := Try.underlying90
  a36 := Try.isAgg90
  z36 := Try.sizeOf90
  v36 := Try.zeroValue90
  t41 := Try.underlying95
  a41 := Try.isAgg95
  z41 := Try.sizeOf95
  v41 := Try.zeroValue95
  t44 := Try.underlying98
  a44 := Try.isAgg98
  z44 := Try.sizeOf98
  v44 := Try.zeroValue98
  t46 := Try.underlying100
  a46 := Try.isAgg100
  z46 := Try.sizeOf100
  v46 := Try.zeroValue100
  t53 := Try.underlying101
  a53 := Try.isAgg101
  z53 := Try.sizeOf101
  v53 := Try.zeroValue101
  t57 := Try.underlying105
  a57 := Try.isAgg105
  z57 := Try.sizeOf105
  v57 := Try.zeroValue105
  t63 := Try.underlying107
  a63 := Try.isAgg107
  z63 := Try.sizeOf107
  v63 := Try.zeroValue107
  t64 := Try.underlying108
  a64 := Try.isAgg108
  z64 := Try.sizeOf108
  v64 := Try.zeroValue108 }
def Try.indexA_ren : Go.Shelf.Ren := ⟨fun | 6 => 36 | n => n, fun | 22 => 58 | 23 => 66 | 25 => 71 | 3 => 3 | 0 => 0 | 4 => 4 | n => n, fun | n => n⟩
theorem Try.indexA : Go.Proofs.SlLaysH0.n6 Try.prog Try.indexA_ren := {
  mixed := by kernel_rfl
  f6 := ⟨Try.f36.name, by decide, Try.func36.trans (congrArg some (by kernel_rfl))⟩
  t0 := Try.underlying0
  a0 := Try.isAgg0
  z0 := Try.sizeOf0
  v0 := Try.zeroValue0
  t3 := Try.underlying3
  a3 := Try.isAgg3
  z3 := Try.sizeOf3
  v3 := Try.zeroValue3
  t4 := Try.underlying4
  a4 := Try.isAgg4
  z4 := Try.sizeOf4
  v4 := Try.zeroValue4
  t22 := Try.underlying58
  a22 := Try.isAgg58
  z22 := Try.sizeOf58
  v22 := Try.zeroValue58
  t25 := Try.underlying71
  a25 := Try.isAgg71
  z25 := Try.sizeOf71
  v25 := Try.zeroValue71 }
def Try.containsA_ren : Go.Shelf.Ren := ⟨fun | 8 => 26 | 6 => 36 | n => n, fun | 22 => 58 | 23 => 66 | 25 => 71 | 4 => 4 | 3 => 3 | 0 => 0 | n => n, fun | n => n⟩
theorem Try.containsA : Go.Proofs.SlLaysH0.n8 Try.prog Try.containsA_ren := {
  mixed := by kernel_rfl
  f6 := ⟨Try.f36.name, by decide, Try.func36.trans (congrArg some (by kernel_rfl))⟩
  f8 := ⟨Try.f26.name, by decide, Try.func26.trans (congrArg some (by kernel_rfl))⟩
  t0 := Try.underlying0
  a0 := Try.isAgg0
  z0 := Try.sizeOf0
  v0 := Try.zeroValue0
  t3 := Try.underlying3
  a3 := Try.isAgg3
  z3 := Try.sizeOf3
  v3 := Try.zeroValue3
  t4 := Try.underlying4
  a4 := Try.isAgg4
  z4 := Try.sizeOf4
  v4 := Try.zeroValue4
  t22 := Try.underlying58
  a22 := Try.isAgg58
  z22 := Try.sizeOf58
  v22 := Try.zeroValue58
  t25 := Try.underlying71
  a25 := Try.isAgg71
  z25 := Try.sizeOf71
  v25 := Try.zeroValue71 }
end Go.Proofs
