/-
  DERIVED: THE SHELF's CONTRACTS AT THIS DUMP, IN PLAIN WORDS (tools/lay-plain.mjs out of 'TryzShelf.lean', which tools/lay-shelf.mjs wrote): THE SAME DECLARATIONS UNDER THE SAME NAMES: 'import', 'namespace', 'open', 'def', 'theorem' AND NOTHING ELSE: no command of the shelf's: FOR A HAND-IN. Each laying: the table of numbers ('.._ren') and one theorem, a field a fact of the dump's own or the kernel's comparison; each contract: ONE APPLICATION.
-/
import Derived.Shelf.Strings.Builder1
import Derived.Shelf.Strings.Builder2
import Derived.Shelf.Small.Utf8
import Derived.Shelf.Small.Bits
import Derived.Shelf.Small.Strs
import Derived.Shelf.Small.Wraps
import Derived.Shelf.Strings.BuilderF
import Derived.Shelf.Strconv.Itoa0
import Derived.Shelf.Strconv.Itoa1
import Derived.Shelf.LaysM
import Derived.Shelf.Strconv.Itoa2
import Derived.Shelf.Strconv.Itoa3
import Derived.Shelf.Strconv.Itoa4
import Derived.Shelf.Strings.Search1
import Derived.Shelf.Strings.Search2
import Derived.Shelf.Strings.Search3
import Derived.Shelf.Strings.Count
import Derived.Shelf.Strings.Shaped
import Derived.Shelf.Sort.Plain
import Derived.Shelf.GgClosure.StringsIndexFunc
import Derived.Ground.GgwProg
import Derived.Shelf.GgClosure.StringsIndexFuncTop
import Derived.Shelf.Strings.Prefix
import Derived.Shelf.Strings.Split
import Derived.Shelf.Strings.Replace
import Derived.Shelf.Strings.SplitShaped
import Derived.Shelf.Strings.Runes
import Derived.Shelf.Bits.Mul64
import Derived.Shelf.Strings.Repeat
import Derived.Shelf.Unicode.DecodeSlow
import Derived.Shelf.Unicode.DecodeAny
import Derived.Shelf.Strings.FuncGrows
import Derived.Shelf.Slices.In.SortNone
import Derived.Ground.SlbCloneProg
import Derived.Shelf.Bytes.SlClone
import Derived.Test.YtciikcmiiebfpaaGreatDoorProg
namespace Go.Proofs
open Go.Shelf
def Tryz.lays119_ren : Go.Shelf.Ren := ⟨fun | 119 => 306 | n => n, fun | 21 => 21 | 4 => 4 | n => n, fun | n => n⟩
theorem Tryz.lays119 : Go.Proofs.Lays.n119 Tryz.prog Tryz.lays119_ren := {
  mixed := by kernel_rfl
  f119 := Tryz.func306.trans (congrArg some (by kernel_rfl))
  t4 := Tryz.underlying4
  a4 := Tryz.isAgg4
  z4 := Tryz.sizeOf4
  v4 := Tryz.zeroValue4
  t21 := Tryz.underlying21
  a21 := Tryz.isAgg21
  z21 := Tryz.sizeOf21
  v21 := Tryz.zeroValue21 }
/-- utf8.ValidRune: "ValidRune reports whether r can be legally encoded as UTF-8. Code points that are out of range or a surrogate half are illegal.": IT RETURNS 'Lib.validRune r'; the world is as it was. (LAID: no walk: one application.) -/
theorem Tryz.utf8_ValidRune (r : Int) (w : World) :
    Calls Tryz.prog 306 #[.int .i32 r] w fun e w' => e = .returned (.bool (Lib.validRune r)) ∧ w' = w := Any.utf8_ValidRune Tryz.lays119 r w
def Tryz.lays125_ren : Go.Shelf.Ren := ⟨fun | 125 => 150 | 128 => 205 | 129 => 206 | n => n, fun | 46 => 268 | 3 => 3 | 51 => 257 | 53 => 316 | 4 => 4 | 5 => 5 | 9 => 9 | n => n, fun | n => n⟩
theorem Tryz.lays125 : Go.Proofs.Lays.n125 Tryz.prog Tryz.lays125_ren := {
  mixed := by kernel_rfl
  f125 := Tryz.func150.trans (congrArg some (by kernel_rfl))
  f128 := Tryz.func205.trans (congrArg some (by kernel_rfl))
  f129 := Tryz.func206.trans (congrArg some (by kernel_rfl))
  t3 := Tryz.underlying3
  a3 := Tryz.isAgg3
  z3 := Tryz.sizeOf3
  v3 := Tryz.zeroValue3
  t4 := Tryz.underlying4
  a4 := Tryz.isAgg4
  z4 := Tryz.sizeOf4
  v4 := Tryz.zeroValue4
  t5 := Tryz.underlying5
  a5 := Tryz.isAgg5
  z5 := Tryz.sizeOf5
  v5 := Tryz.zeroValue5
  t9 := Tryz.underlying9
  a9 := Tryz.isAgg9
  z9 := Tryz.sizeOf9
  v9 := Tryz.zeroValue9
  t46 := Tryz.underlying268
  a46 := Tryz.isAgg268
  z46 := Tryz.sizeOf268
  v46 := Tryz.zeroValue268
  t51 := Tryz.underlying257
  a51 := Tryz.isAgg257
  z51 := Tryz.sizeOf257
  v51 := Tryz.zeroValue257
  t53 := Tryz.underlying316
  a53 := Tryz.isAgg316
  z53 := Tryz.sizeOf316
  v53 := Tryz.zeroValue316 }
/-- bits.Len: "Len returns the minimum number of bits required to represent x; the result is 0 for x == 0.": IT RETURNS 'Lib.bitLen x'; the world is as it was. (A uint has 64 bits in the model.) ITS CALLEE bits.Len64 IS MET BY ITS OWN CONTRACT OFF THE SHELF (lay that first). (LAID: no walk: one application.) -/
theorem Tryz.bits_Len (x : Int) (w : World) (h0 : 0 ≤ x) (h1 : x ≤ 18446744073709551615) :
    Calls Tryz.prog 150 #[.int .u64 x] w fun e w' => e = .returned (.int .i64 (Lib.bitLen x.toNat)) ∧ w' = w := Any.bits_Len Tryz.lays125 x w h0 h1
def Tryz.lays137_ren : Go.Shelf.Ren := ⟨fun | 137 => 305 | 217 => 310 | 266 => 326 | n => n, fun | 9 => 9 | 5 => 5 | 3 => 3 | n => n, fun | n => n⟩
theorem Tryz.lays137 : Go.Proofs.Lays.n137 Tryz.prog Tryz.lays137_ren := {
  mixed := by kernel_rfl
  f137 := Tryz.func305.trans (congrArg some (by kernel_rfl))
  f217 := Tryz.func310.trans (congrArg some (by kernel_rfl))
  f266 := Tryz.func326.trans (congrArg some (by kernel_rfl))
  t3 := Tryz.underlying3
  a3 := Tryz.isAgg3
  z3 := Tryz.sizeOf3
  v3 := Tryz.zeroValue3
  t5 := Tryz.underlying5
  a5 := Tryz.isAgg5
  z5 := Tryz.sizeOf5
  v5 := Tryz.zeroValue5
  t9 := Tryz.underlying9
  a9 := Tryz.isAgg9
  z9 := Tryz.sizeOf9
  v9 := Tryz.zeroValue9 }
open Go.RowKit in
/-- strings.IndexByte: "IndexByte returns the index of the first instance of c in s, or -1 if c is not present in s.": IT RETURNS 'Lib.indexByte s c'; the world is as it was. (LAID: no walk: one application.) -/
theorem Tryz.strings_IndexByte (s : ByteArray) (c : Int) (w : World) :
    Calls Tryz.prog 305 #[.string s, .int .u8 c] w fun e w' => e = .returned (.int .i64 (Lib.indexByte s.data.toList c.toNat.toUInt8)) ∧ w' = w := Any.strings_IndexByte Tryz.lays137 s c w
def Tryz.laysM246_ren : Go.Shelf.Ren := ⟨fun | 246 => 144 | 283 => 188 | 284 => 189 | 285 => 190 | 286 => 191 | 129 => 206 | 317 => 242 | 318 => 243 | 319 => 244 | 320 => 245 | 337 => 280 | 338 => 281 | n => n, fun | 2 => 2 | 3 => 3 | 9 => 9 | 4 => 4 | 171 => 326 | 0 => 0 | 53 => 316 | 37 => 51 | 5 => 5 | 173 => 329 | 212 => 382 | 51 => 257 | 20 => 20 | 213 => 383 | 46 => 268 | 232 => 446 | 233 => 447 | n => n, fun | 17 => 0 | 18 => 7 | 19 => 8 | n => n⟩
def Tryz.laysM243_ren : Go.Shelf.Ren := ⟨fun | 243 => 86 | 246 => 144 | 283 => 188 | 284 => 189 | 285 => 190 | 286 => 191 | 129 => 206 | 317 => 242 | 318 => 243 | 319 => 244 | 320 => 245 | 337 => 280 | 338 => 281 | n => n, fun | 3 => 3 | 9 => 9 | 2 => 2 | 4 => 4 | 171 => 326 | 0 => 0 | 53 => 316 | 37 => 51 | 5 => 5 | 173 => 329 | 212 => 382 | 51 => 257 | 20 => 20 | 213 => 383 | 46 => 268 | 232 => 446 | 233 => 447 | n => n, fun | 17 => 0 | 18 => 7 | 19 => 8 | n => n⟩
def Tryz.laysM171_ren : Go.Shelf.Ren := ⟨fun | 171 => 43 | 243 => 86 | 246 => 144 | 283 => 188 | 284 => 189 | 285 => 190 | 286 => 191 | 129 => 206 | 317 => 242 | 318 => 243 | 319 => 244 | 320 => 245 | 337 => 280 | 338 => 281 | n => n, fun | 3 => 3 | 9 => 9 | 2 => 2 | 4 => 4 | 171 => 326 | 0 => 0 | 53 => 316 | 37 => 51 | 5 => 5 | 173 => 329 | 212 => 382 | 51 => 257 | 20 => 20 | 213 => 383 | 46 => 268 | 232 => 446 | 233 => 447 | n => n, fun | 17 => 0 | 18 => 7 | 19 => 8 | n => n⟩
theorem Tryz.laysM171 : Go.Proofs.LaysM.n171 Tryz.prog Tryz.laysM171_ren := {
  mixed := by kernel_rfl
  f129 := Tryz.func206.trans (congrArg some (by kernel_rfl))
  f171 := Tryz.func43.trans (congrArg some (by kernel_rfl))
  f243 := Tryz.func86.trans (congrArg some (by kernel_rfl))
  f246 := Tryz.func144.trans (congrArg some (by kernel_rfl))
  f283 := Tryz.func188.trans (congrArg some (by kernel_rfl))
  f284 := Tryz.func189.trans (congrArg some (by kernel_rfl))
  f285 := Tryz.func190.trans (congrArg some (by kernel_rfl))
  f286 := Tryz.func191.trans (congrArg some (by kernel_rfl))
  f317 := Tryz.func242.trans (congrArg some (by kernel_rfl))
  f318 := Tryz.func243.trans (congrArg some (by kernel_rfl))
  f319 := Tryz.func244.trans (congrArg some (by kernel_rfl))
  f320 := Tryz.func245.trans (congrArg some (by kernel_rfl))
  f337 := Tryz.func280.trans (congrArg some (by kernel_rfl))
  f338 := Tryz.func281.trans (congrArg some (by kernel_rfl))
  t0 := Tryz.underlying0
  a0 := Tryz.isAgg0
  z0 := Tryz.sizeOf0
  v0 := Tryz.zeroValue0
  t2 := Tryz.underlying2
  a2 := Tryz.isAgg2
  z2 := Tryz.sizeOf2
  v2 := Tryz.zeroValue2
  t3 := Tryz.underlying3
  a3 := Tryz.isAgg3
  z3 := Tryz.sizeOf3
  v3 := Tryz.zeroValue3
  t4 := Tryz.underlying4
  a4 := Tryz.isAgg4
  z4 := Tryz.sizeOf4
  v4 := Tryz.zeroValue4
  t5 := Tryz.underlying5
  a5 := Tryz.isAgg5
  z5 := Tryz.sizeOf5
  v5 := Tryz.zeroValue5
  t9 := Tryz.underlying9
  a9 := Tryz.isAgg9
  z9 := Tryz.sizeOf9
  v9 := Tryz.zeroValue9
  t20 := Tryz.underlying20
  a20 := Tryz.isAgg20
  z20 := Tryz.sizeOf20
  v20 := Tryz.zeroValue20
  t37 := Tryz.underlying51
  a37 := Tryz.isAgg51
  z37 := Tryz.sizeOf51
  v37 := Tryz.zeroValue51
  t46 := Tryz.underlying268
  a46 := Tryz.isAgg268
  z46 := Tryz.sizeOf268
  v46 := Tryz.zeroValue268
  t51 := Tryz.underlying257
  a51 := Tryz.isAgg257
  z51 := Tryz.sizeOf257
  v51 := Tryz.zeroValue257
  t53 := Tryz.underlying316
  a53 := Tryz.isAgg316
  z53 := Tryz.sizeOf316
  v53 := Tryz.zeroValue316
  t171 := Tryz.underlying326
  a171 := Tryz.isAgg326
  z171 := Tryz.sizeOf326
  v171 := Tryz.zeroValue326
  t173 := Tryz.underlying329
  a173 := Tryz.isAgg329
  z173 := Tryz.sizeOf329
  v173 := Tryz.zeroValue329
  t212 := Tryz.underlying382
  a212 := Tryz.isAgg382
  z212 := Tryz.sizeOf382
  v212 := Tryz.zeroValue382
  t213 := Tryz.underlying383
  a213 := Tryz.isAgg383
  z213 := Tryz.sizeOf383
  t232 := Tryz.underlying446
  a232 := Tryz.isAgg446
  z232 := Tryz.sizeOf446
  v232 := Tryz.zeroValue446
  t233 := Tryz.underlying447
  a233 := Tryz.isAgg447
  z233 := Tryz.sizeOf447
  v233 := Tryz.zeroValue447
  g17 := by kernel_rfl
  g18 := by kernel_rfl
  g19 := by kernel_rfl
  i0 := by kernel_rfl
  i2 := by kernel_rfl
  i3 := by kernel_rfl
  i4 := by kernel_rfl
  i5 := by kernel_rfl
  i9 := by kernel_rfl
  i20 := by kernel_rfl
  i37 := by kernel_rfl
  i46 := by kernel_rfl
  i51 := by kernel_rfl
  i53 := by kernel_rfl
  i171 := by kernel_rfl
  i173 := by kernel_rfl
  i212 := by kernel_rfl
  i232 := by kernel_rfl
  i233 := by kernel_rfl
  m17 := by kernel_rfl
  m18 := by kernel_rfl
  m19 := by kernel_rfl }
open Go.RowKit Go.Sort Go.Lib in
/-- strconv.Itoa: "Itoa is equivalent to FormatInt(int64(i), 10).": i's DECIMAL NUMERAL ('Lib.itoa': a '-' where i is negative, then the digits), FOR EVERY int. The world behind the call: the world before it, new blocks behind the heap (the library's 'var a [24]byte'), draws. (LAID: no walk: one application.) -/
theorem Tryz.strconv_Itoa (n : Int) (h0 : -9223372036854775808 ≤ n) (h1 : n ≤ 9223372036854775807) (w : World) (htab : Lib.TabIs Tryz.prog w "internal/strconv.uint64pow10" .u64 Lib.pow10Tab) :
    Calls Tryz.prog 43 #[.int .i64 n] w fun e w' => e = .returned (.string ⟨(Lib.itoa n).toArray⟩) ∧ ∃ k os, w' = grow (w.drewN k) os := Any.strconv_Itoa Tryz.laysM171 n h0 h1 w htab
def Tryz.laysM173_ren : Go.Shelf.Ren := ⟨fun | 173 => 154 | 246 => 144 | 283 => 188 | 284 => 189 | 285 => 190 | 286 => 191 | 129 => 206 | 317 => 242 | 318 => 243 | 319 => 244 | 320 => 245 | 337 => 280 | 338 => 281 | n => n, fun | 2 => 2 | 3 => 3 | 9 => 9 | 4 => 4 | 171 => 326 | 0 => 0 | 53 => 316 | 37 => 51 | 5 => 5 | 173 => 329 | 212 => 382 | 51 => 257 | 20 => 20 | 213 => 383 | 46 => 268 | 232 => 446 | 233 => 447 | n => n, fun | 17 => 0 | 18 => 7 | 19 => 8 | n => n⟩
theorem Tryz.laysM173 : Go.Proofs.LaysM.n173 Tryz.prog Tryz.laysM173_ren := {
  mixed := by kernel_rfl
  f129 := Tryz.func206.trans (congrArg some (by kernel_rfl))
  f173 := Tryz.func154.trans (congrArg some (by kernel_rfl))
  f246 := Tryz.func144.trans (congrArg some (by kernel_rfl))
  f283 := Tryz.func188.trans (congrArg some (by kernel_rfl))
  f284 := Tryz.func189.trans (congrArg some (by kernel_rfl))
  f285 := Tryz.func190.trans (congrArg some (by kernel_rfl))
  f286 := Tryz.func191.trans (congrArg some (by kernel_rfl))
  f317 := Tryz.func242.trans (congrArg some (by kernel_rfl))
  f318 := Tryz.func243.trans (congrArg some (by kernel_rfl))
  f319 := Tryz.func244.trans (congrArg some (by kernel_rfl))
  f320 := Tryz.func245.trans (congrArg some (by kernel_rfl))
  f337 := Tryz.func280.trans (congrArg some (by kernel_rfl))
  f338 := Tryz.func281.trans (congrArg some (by kernel_rfl))
  t0 := Tryz.underlying0
  a0 := Tryz.isAgg0
  z0 := Tryz.sizeOf0
  v0 := Tryz.zeroValue0
  t2 := Tryz.underlying2
  a2 := Tryz.isAgg2
  z2 := Tryz.sizeOf2
  v2 := Tryz.zeroValue2
  t3 := Tryz.underlying3
  a3 := Tryz.isAgg3
  z3 := Tryz.sizeOf3
  v3 := Tryz.zeroValue3
  t4 := Tryz.underlying4
  a4 := Tryz.isAgg4
  z4 := Tryz.sizeOf4
  v4 := Tryz.zeroValue4
  t5 := Tryz.underlying5
  a5 := Tryz.isAgg5
  z5 := Tryz.sizeOf5
  v5 := Tryz.zeroValue5
  t9 := Tryz.underlying9
  a9 := Tryz.isAgg9
  z9 := Tryz.sizeOf9
  v9 := Tryz.zeroValue9
  t20 := Tryz.underlying20
  a20 := Tryz.isAgg20
  z20 := Tryz.sizeOf20
  v20 := Tryz.zeroValue20
  t37 := Tryz.underlying51
  a37 := Tryz.isAgg51
  z37 := Tryz.sizeOf51
  v37 := Tryz.zeroValue51
  t46 := Tryz.underlying268
  a46 := Tryz.isAgg268
  z46 := Tryz.sizeOf268
  v46 := Tryz.zeroValue268
  t51 := Tryz.underlying257
  a51 := Tryz.isAgg257
  z51 := Tryz.sizeOf257
  v51 := Tryz.zeroValue257
  t53 := Tryz.underlying316
  a53 := Tryz.isAgg316
  z53 := Tryz.sizeOf316
  v53 := Tryz.zeroValue316
  t171 := Tryz.underlying326
  a171 := Tryz.isAgg326
  z171 := Tryz.sizeOf326
  v171 := Tryz.zeroValue326
  t173 := Tryz.underlying329
  a173 := Tryz.isAgg329
  z173 := Tryz.sizeOf329
  v173 := Tryz.zeroValue329
  t212 := Tryz.underlying382
  a212 := Tryz.isAgg382
  z212 := Tryz.sizeOf382
  v212 := Tryz.zeroValue382
  t213 := Tryz.underlying383
  a213 := Tryz.isAgg383
  z213 := Tryz.sizeOf383
  t232 := Tryz.underlying446
  a232 := Tryz.isAgg446
  z232 := Tryz.sizeOf446
  v232 := Tryz.zeroValue446
  t233 := Tryz.underlying447
  a233 := Tryz.isAgg447
  z233 := Tryz.sizeOf447
  v233 := Tryz.zeroValue447
  g17 := by kernel_rfl
  g18 := by kernel_rfl
  g19 := by kernel_rfl
  i0 := by kernel_rfl
  i2 := by kernel_rfl
  i3 := by kernel_rfl
  i4 := by kernel_rfl
  i5 := by kernel_rfl
  i9 := by kernel_rfl
  i20 := by kernel_rfl
  i37 := by kernel_rfl
  i46 := by kernel_rfl
  i51 := by kernel_rfl
  i53 := by kernel_rfl
  i171 := by kernel_rfl
  i173 := by kernel_rfl
  i212 := by kernel_rfl
  i232 := by kernel_rfl
  i233 := by kernel_rfl
  m17 := by kernel_rfl
  m18 := by kernel_rfl
  m19 := by kernel_rfl }
open Go.RowKit Go.Sort Go.Lib in
/-- strconv.FormatInt: "FormatInt returns the string representation of i in the given base": AT BASE 10: i's decimal numeral, for every int64. (LAID: no walk: one application.) -/
theorem Tryz.strconv_FormatInt_10 (n : Int) (h0 : -9223372036854775808 ≤ n) (h1 : n ≤ 9223372036854775807) (w : World) (htab : Lib.TabIs Tryz.prog w "internal/strconv.uint64pow10" .u64 Lib.pow10Tab) :
    Calls Tryz.prog 154 #[.int .i64 n, .int .i64 10] w fun e w' => e = .returned (.string ⟨(Lib.itoa n).toArray⟩) ∧ ∃ k os, w' = grow (w.drewN k) os := Any.strconv_FormatInt_10 Tryz.laysM173 n h0 h1 w htab
def Tryz.lays190_ren : Go.Shelf.Ren := ⟨fun | 190 => 192 | 125 => 150 | 258 => 246 | 128 => 205 | 129 => 206 | 302 => 282 | 303 => 283 | 304 => 284 | 305 => 285 | 306 => 286 | 307 => 287 | 308 => 288 | 309 => 289 | 310 => 290 | 333 => 312 | 329 => 254 | 330 => 255 | 334 => 313 | 335 => 314 | 336 => 315 | 344 => 328 | n => n, fun | 31 => 193 | 9 => 9 | 3 => 3 | 46 => 268 | 0 => 0 | 51 => 257 | 53 => 316 | 4 => 4 | 183 => 335 | 182 => 334 | 131 => 339 | 5 => 5 | 218 => 392 | 222 => 396 | 228 => 430 | 229 => 44 | n => n, fun | n => n⟩
theorem Tryz.lays190 : Go.Proofs.Lays.n190 Tryz.prog Tryz.lays190_ren := {
  mixed := by kernel_rfl
  f125 := Tryz.func150.trans (congrArg some (by kernel_rfl))
  f128 := Tryz.func205.trans (congrArg some (by kernel_rfl))
  f129 := Tryz.func206.trans (congrArg some (by kernel_rfl))
  f190 := Tryz.func192.trans (congrArg some (by kernel_rfl))
  f258 := Tryz.func246.trans (congrArg some (by kernel_rfl))
  f302 := Tryz.func282.trans (congrArg some (by kernel_rfl))
  f303 := Tryz.func283.trans (congrArg some (by kernel_rfl))
  f304 := Tryz.func284.trans (congrArg some (by kernel_rfl))
  f305 := Tryz.func285.trans (congrArg some (by kernel_rfl))
  f306 := Tryz.func286.trans (congrArg some (by kernel_rfl))
  f307 := Tryz.func287.trans (congrArg some (by kernel_rfl))
  f308 := Tryz.func288.trans (congrArg some (by kernel_rfl))
  f309 := Tryz.func289.trans (congrArg some (by kernel_rfl))
  f310 := Tryz.func290.trans (congrArg some (by kernel_rfl))
  f329 := Tryz.func254.trans (congrArg some (by kernel_rfl))
  f330 := Tryz.func255.trans (congrArg some (by kernel_rfl))
  f333 := Tryz.func312.trans (congrArg some (by kernel_rfl))
  f334 := Tryz.func313.trans (congrArg some (by kernel_rfl))
  f335 := Tryz.func314.trans (congrArg some (by kernel_rfl))
  f336 := Tryz.func315.trans (congrArg some (by kernel_rfl))
  f344 := Tryz.func328.trans (congrArg some (by kernel_rfl))
  t0 := Tryz.underlying0
  a0 := Tryz.isAgg0
  z0 := Tryz.sizeOf0
  v0 := Tryz.zeroValue0
  t3 := Tryz.underlying3
  a3 := Tryz.isAgg3
  z3 := Tryz.sizeOf3
  v3 := Tryz.zeroValue3
  t4 := Tryz.underlying4
  a4 := Tryz.isAgg4
  z4 := Tryz.sizeOf4
  v4 := Tryz.zeroValue4
  t5 := Tryz.underlying5
  a5 := Tryz.isAgg5
  z5 := Tryz.sizeOf5
  v5 := Tryz.zeroValue5
  t9 := Tryz.underlying9
  a9 := Tryz.isAgg9
  z9 := Tryz.sizeOf9
  v9 := Tryz.zeroValue9
  t31 := Tryz.underlying193
  a31 := Tryz.isAgg193
  z31 := Tryz.sizeOf193
  v31 := Tryz.zeroValue193
  t46 := Tryz.underlying268
  a46 := Tryz.isAgg268
  z46 := Tryz.sizeOf268
  v46 := Tryz.zeroValue268
  t51 := Tryz.underlying257
  a51 := Tryz.isAgg257
  z51 := Tryz.sizeOf257
  v51 := Tryz.zeroValue257
  t53 := Tryz.underlying316
  a53 := Tryz.isAgg316
  z53 := Tryz.sizeOf316
  v53 := Tryz.zeroValue316
  t131 := Tryz.underlying339
  a131 := Tryz.isAgg339
  z131 := Tryz.sizeOf339
  v131 := Tryz.zeroValue339
  t182 := Tryz.underlying334
  a182 := Tryz.isAgg334
  z182 := Tryz.sizeOf334
  v182 := Tryz.zeroValue334
  t183 := Tryz.underlying335
  a183 := Tryz.isAgg335
  z183 := Tryz.sizeOf335
  v183 := Tryz.zeroValue335
  t218 := Tryz.underlying392
  a218 := Tryz.isAgg392
  z218 := Tryz.sizeOf392
  v218 := Tryz.zeroValue392
  t222 := Tryz.underlying396
  a222 := Tryz.isAgg396
  z222 := Tryz.sizeOf396
  v222 := Tryz.zeroValue396
  t228 := Tryz.underlying430
  a228 := Tryz.isAgg430
  z228 := Tryz.sizeOf430
  v228 := Tryz.zeroValue430
  t229 := Tryz.underlying44
  a229 := Tryz.isAgg44
  z229 := Tryz.sizeOf44
  v229 := Tryz.zeroValue44 }
open Go.Sort Go.RowKit in
theorem Tryz.slices_Sort_string (blk off cap : Nat) (ss : List (List UInt8)) (w : World) (hH : Holds encStr w blk off ss.toArray) (hblk : blk < w.heap.size) (hsz : ss.length < 4611686018427387904) :
    Calls Tryz.prog 192 #[.slice (some ⟨blk, off, none⟩) ss.length cap] w fun e w' =>
      e = .returned (.tuple #[]) ∧ ∃ n os, w' = grow (putRow encStr (Sort.ahead w n) blk off (ss.mergeSort fun x y => decide (x ≤ y)).toArray) os := Any.slices_Sort_string Tryz.lays190 blk off cap ss w hH hblk hsz
def Tryz.laysGw17_ren : Go.Shelf.Ren := ⟨fun | 17 => 228 | 15 => 270 | 20 => 304 | n => n, fun | 9 => 9 | 23 => 142 | 4 => 4 | 3 => 3 | 0 => 0 | 21 => 21 | n => n, fun | n => n⟩
theorem Tryz.laysGw17 : Go.Proofs.LaysGw.n17 Tryz.prog Tryz.laysGw17_ren := {
  mixed := by kernel_rfl
  f15 := Tryz.func270.trans (congrArg some (by kernel_rfl))
  f17 := Tryz.func228.trans (congrArg some (by kernel_rfl))
  f20 := Tryz.func304.trans (congrArg some (by kernel_rfl))
  t0 := Tryz.underlying0
  a0 := Tryz.isAgg0
  z0 := Tryz.sizeOf0
  v0 := Tryz.zeroValue0
  i0 := by kernel_rfl
  t3 := Tryz.underlying3
  a3 := Tryz.isAgg3
  z3 := Tryz.sizeOf3
  v3 := Tryz.zeroValue3
  i3 := by kernel_rfl
  t4 := Tryz.underlying4
  a4 := Tryz.isAgg4
  z4 := Tryz.sizeOf4
  v4 := Tryz.zeroValue4
  i4 := by kernel_rfl
  t9 := Tryz.underlying9
  a9 := Tryz.isAgg9
  z9 := Tryz.sizeOf9
  v9 := Tryz.zeroValue9
  i9 := by kernel_rfl
  t21 := Tryz.underlying21
  a21 := Tryz.isAgg21
  z21 := Tryz.sizeOf21
  v21 := Tryz.zeroValue21
  i21 := by kernel_rfl
  t23 := Tryz.underlying142
  a23 := Tryz.isAgg142
  z23 := Tryz.sizeOf142
  v23 := Tryz.zeroValue142
  i23 := by kernel_rfl }
def Tryz.lays154_ren : Go.Shelf.Ren := ⟨fun | 154 => 187 | 138 => 239 | 165 => 209 | 143 => 240 | 166 => 210 | 197 => 241 | 169 => 212 | 195 => 276 | 218 => 277 | 240 => 260 | 241 => 261 | 219 => 278 | 260 => 279 | 276 => 296 | 277 => 297 | 217 => 310 | 225 => 308 | 224 => 307 | 267 => 311 | 266 => 326 | 314 => 327 | n => n, fun | 9 => 9 | 3 => 3 | 4 => 4 | 72 => 346 | 0 => 0 | 76 => 347 | 105 => 379 | 21 => 21 | 5 => 5 | 70 => 344 | 20 => 20 | 37 => 51 | 75 => 263 | 127 => 402 | 164 => 432 | 46 => 268 | 119 => 442 | 139 => 445 | 138 => 444 | 146 => 398 | 51 => 257 | 80 => 349 | n => n, fun | 1 => 4 | 3 => 5 | 4 => 6 | n => n⟩
def Tryz.lays155_ren : Go.Shelf.Ren := ⟨fun | 155 => 143 | 154 => 187 | 138 => 239 | 165 => 209 | 143 => 240 | 166 => 210 | 197 => 241 | 169 => 212 | 195 => 276 | 218 => 277 | 240 => 260 | 241 => 261 | 219 => 278 | 260 => 279 | 276 => 296 | 277 => 297 | 217 => 310 | 225 => 308 | 224 => 307 | 267 => 311 | 266 => 326 | 314 => 327 | n => n, fun | 9 => 9 | 3 => 3 | 4 => 4 | 72 => 346 | 0 => 0 | 76 => 347 | 105 => 379 | 21 => 21 | 5 => 5 | 70 => 344 | 20 => 20 | 37 => 51 | 75 => 263 | 127 => 402 | 164 => 432 | 46 => 268 | 119 => 442 | 139 => 445 | 138 => 444 | 146 => 398 | 51 => 257 | 80 => 349 | n => n, fun | 1 => 4 | 3 => 5 | 4 => 6 | n => n⟩
theorem Tryz.lays155 : Go.Proofs.Lays.n155 Tryz.prog Tryz.lays155_ren := {
  mixed := by kernel_rfl
  f138 := Tryz.func239.trans (congrArg some (by kernel_rfl))
  f143 := Tryz.func240.trans (congrArg some (by kernel_rfl))
  f154 := Tryz.func187.trans (congrArg some (by kernel_rfl))
  f155 := Tryz.func143.trans (congrArg some (by kernel_rfl))
  f165 := Tryz.func209.trans (congrArg some (by kernel_rfl))
  f166 := Tryz.func210.trans (congrArg some (by kernel_rfl))
  f169 := Tryz.func212.trans (congrArg some (by kernel_rfl))
  f195 := Tryz.func276.trans (congrArg some (by kernel_rfl))
  f197 := Tryz.func241.trans (congrArg some (by kernel_rfl))
  f217 := Tryz.func310.trans (congrArg some (by kernel_rfl))
  f218 := Tryz.func277.trans (congrArg some (by kernel_rfl))
  f219 := Tryz.func278.trans (congrArg some (by kernel_rfl))
  f224 := Tryz.func307.trans (congrArg some (by kernel_rfl))
  f225 := Tryz.func308.trans (congrArg some (by kernel_rfl))
  f240 := Tryz.func260.trans (congrArg some (by kernel_rfl))
  f241 := Tryz.func261.trans (congrArg some (by kernel_rfl))
  f260 := Tryz.func279.trans (congrArg some (by kernel_rfl))
  f266 := Tryz.func326.trans (congrArg some (by kernel_rfl))
  f267 := Tryz.func311.trans (congrArg some (by kernel_rfl))
  f276 := Tryz.func296.trans (congrArg some (by kernel_rfl))
  f277 := Tryz.func297.trans (congrArg some (by kernel_rfl))
  f314 := Tryz.func327.trans (congrArg some (by kernel_rfl))
  t0 := Tryz.underlying0
  a0 := Tryz.isAgg0
  z0 := Tryz.sizeOf0
  v0 := Tryz.zeroValue0
  t3 := Tryz.underlying3
  a3 := Tryz.isAgg3
  z3 := Tryz.sizeOf3
  v3 := Tryz.zeroValue3
  t4 := Tryz.underlying4
  a4 := Tryz.isAgg4
  z4 := Tryz.sizeOf4
  v4 := Tryz.zeroValue4
  t5 := Tryz.underlying5
  a5 := Tryz.isAgg5
  z5 := Tryz.sizeOf5
  v5 := Tryz.zeroValue5
  t9 := Tryz.underlying9
  a9 := Tryz.isAgg9
  z9 := Tryz.sizeOf9
  v9 := Tryz.zeroValue9
  t20 := Tryz.underlying20
  a20 := Tryz.isAgg20
  z20 := Tryz.sizeOf20
  v20 := Tryz.zeroValue20
  t21 := Tryz.underlying21
  a21 := Tryz.isAgg21
  z21 := Tryz.sizeOf21
  v21 := Tryz.zeroValue21
  t37 := Tryz.underlying51
  a37 := Tryz.isAgg51
  z37 := Tryz.sizeOf51
  v37 := Tryz.zeroValue51
  t46 := Tryz.underlying268
  a46 := Tryz.isAgg268
  z46 := Tryz.sizeOf268
  v46 := Tryz.zeroValue268
  t51 := Tryz.underlying257
  a51 := Tryz.isAgg257
  z51 := Tryz.sizeOf257
  v51 := Tryz.zeroValue257
  t70 := Tryz.underlying344
  a70 := Tryz.isAgg344
  z70 := Tryz.sizeOf344
  v70 := Tryz.zeroValue344
  t72 := Tryz.underlying346
  a72 := Tryz.isAgg346
  z72 := Tryz.sizeOf346
  v72 := Tryz.zeroValue346
  t75 := Tryz.underlying263
  a75 := Tryz.isAgg263
  z75 := Tryz.sizeOf263
  v75 := Tryz.zeroValue263
  t76 := Tryz.underlying347
  a76 := Tryz.isAgg347
  z76 := Tryz.sizeOf347
  v76 := Tryz.zeroValue347
  t105 := Tryz.underlying379
  a105 := Tryz.isAgg379
  z105 := Tryz.sizeOf379
  v105 := Tryz.zeroValue379
  t119 := Tryz.underlying442
  a119 := Tryz.isAgg442
  z119 := Tryz.sizeOf442
  t127 := Tryz.underlying402
  a127 := Tryz.isAgg402
  z127 := Tryz.sizeOf402
  v127 := Tryz.zeroValue402
  t138 := Tryz.underlying444
  a138 := Tryz.isAgg444
  z138 := Tryz.sizeOf444
  v138 := Tryz.zeroValue444
  t139 := Tryz.underlying445
  a139 := Tryz.isAgg445
  z139 := Tryz.sizeOf445
  v139 := Tryz.zeroValue445
  t146 := Tryz.underlying398
  a146 := Tryz.isAgg398
  z146 := Tryz.sizeOf398
  v146 := Tryz.zeroValue398
  t164 := Tryz.underlying432
  a164 := Tryz.isAgg432
  z164 := Tryz.sizeOf432
  v164 := Tryz.zeroValue432
  g1 := by kernel_rfl
  g3 := by kernel_rfl
  g4 := by kernel_rfl }
theorem Tryz.Builder_Extra_155 : Builder.Extra Tryz.prog Tryz.lays155_ren := {
  sizeBuilder := by kernel_rfl
  liesBuilder := by kernel_rfl
  t5 := Tryz.underlying5
  a5 := Tryz.isAgg5
  z5 := Tryz.sizeOf5
  v5 := Tryz.zeroValue5
  infoByte := by kernel_rfl
  cellsByte := by kernel_rfl
  sizeByte := by kernel_rfl
  neB5 := by decide }
open Go.RowKit Go.Lib in
/-- strings.ReplaceAll: "ReplaceAll returns a copy of the string s with all non-overlapping instances of old replaced by new.": AT AN old THAT IS NOT EMPTY: 'Lib.replaceAll s old new'. (LAID: no walk: one application.) -/
theorem Tryz.strings_ReplaceAll (s old new : ByteArray) (m : Int) (w : World) (hs : s.size < 4294967281) (hm : w.cell? ⟨4, 0, none⟩ = some (.int .i64 m)) (h1 : 1 ≤ old.size) (hlen : s.size + Lib.countB s old * new.size ≤ 140737488355328) :
    Calls Tryz.prog 143 #[.string s, .string old, .string new] w fun e w' =>
      e = .returned (.string ⟨(Lib.replaceAll s.data.toList old.data.toList new.data.toList).toArray⟩) ∧ Below w.heap.size w w' := Any.strings_ReplaceAll Tryz.lays155 Tryz.Builder_Extra_155 s old new m w hs hm h1 hlen
def Tryz.lays151_ren : Go.Shelf.Ren := ⟨fun | 151 => 230 | 152 => 271 | 137 => 305 | 119 => 306 | 224 => 307 | 225 => 308 | 217 => 310 | 266 => 326 | n => n, fun | 9 => 9 | 21 => 21 | 4 => 4 | 3 => 3 | 5 => 5 | 0 => 0 | 46 => 268 | n => n, fun | n => n⟩
theorem Tryz.lays151 : Go.Proofs.Lays.n151 Tryz.prog Tryz.lays151_ren := {
  mixed := by kernel_rfl
  f119 := Tryz.func306.trans (congrArg some (by kernel_rfl))
  f137 := Tryz.func305.trans (congrArg some (by kernel_rfl))
  f151 := Tryz.func230.trans (congrArg some (by kernel_rfl))
  f152 := Tryz.func271.trans (congrArg some (by kernel_rfl))
  f217 := Tryz.func310.trans (congrArg some (by kernel_rfl))
  f224 := Tryz.func307.trans (congrArg some (by kernel_rfl))
  f225 := Tryz.func308.trans (congrArg some (by kernel_rfl))
  f266 := Tryz.func326.trans (congrArg some (by kernel_rfl))
  t0 := Tryz.underlying0
  a0 := Tryz.isAgg0
  z0 := Tryz.sizeOf0
  v0 := Tryz.zeroValue0
  t3 := Tryz.underlying3
  a3 := Tryz.isAgg3
  z3 := Tryz.sizeOf3
  v3 := Tryz.zeroValue3
  t4 := Tryz.underlying4
  a4 := Tryz.isAgg4
  z4 := Tryz.sizeOf4
  v4 := Tryz.zeroValue4
  t5 := Tryz.underlying5
  a5 := Tryz.isAgg5
  z5 := Tryz.sizeOf5
  v5 := Tryz.zeroValue5
  t9 := Tryz.underlying9
  a9 := Tryz.isAgg9
  z9 := Tryz.sizeOf9
  v9 := Tryz.zeroValue9
  t21 := Tryz.underlying21
  a21 := Tryz.isAgg21
  z21 := Tryz.sizeOf21
  v21 := Tryz.zeroValue21
  t46 := Tryz.underlying268
  a46 := Tryz.isAgg268
  z46 := Tryz.sizeOf268
  v46 := Tryz.zeroValue268 }
open Go.RowKit Go.Lib in
theorem Tryz.strings_ContainsRune_ascii (s : ByteArray) (r : Int) (w : World) (h0 : 0 ≤ r) (h1 : r < 128) :
    Calls Tryz.prog 230 #[.string s, .int .i32 r] w fun e w' => e = .returned (.bool (decide (0 ≤ Lib.indexByte s.data.toList r.toNat.toUInt8))) ∧ w' = w := Any.strings_ContainsRune_ascii Tryz.lays151 s r w h0 h1
def Tryz.lays105_ren : Go.Shelf.Ren := ⟨fun | 105 => 155 | 212 => 207 | 99 => 208 | 165 => 209 | 166 => 210 | 170 => 211 | 169 => 212 | 263 => 258 | 264 => 259 | 206 => 193 | 240 => 260 | 241 => 261 | 276 => 296 | 277 => 297 | n => n, fun | 9 => 9 | 3 => 3 | 4 => 4 | 20 => 20 | 0 => 0 | 46 => 268 | 109 => 342 | 5 => 5 | 72 => 346 | 76 => 347 | 51 => 257 | 146 => 398 | 53 => 316 | 148 => 400 | 70 => 344 | 37 => 51 | 75 => 263 | 127 => 402 | 164 => 432 | 80 => 349 | n => n, fun | n => n⟩
theorem Tryz.lays105 : Go.Proofs.Lays.n105 Tryz.prog Tryz.lays105_ren := {
  mixed := by kernel_rfl
  f99 := Tryz.func208.trans (congrArg some (by kernel_rfl))
  f105 := Tryz.func155.trans (congrArg some (by kernel_rfl))
  f165 := Tryz.func209.trans (congrArg some (by kernel_rfl))
  f166 := Tryz.func210.trans (congrArg some (by kernel_rfl))
  f169 := Tryz.func212.trans (congrArg some (by kernel_rfl))
  f170 := Tryz.func211.trans (congrArg some (by kernel_rfl))
  f206 := Tryz.func193.trans (congrArg some (by kernel_rfl))
  f212 := Tryz.func207.trans (congrArg some (by kernel_rfl))
  f240 := Tryz.func260.trans (congrArg some (by kernel_rfl))
  f241 := Tryz.func261.trans (congrArg some (by kernel_rfl))
  f263 := Tryz.func258.trans (congrArg some (by kernel_rfl))
  f264 := Tryz.func259.trans (congrArg some (by kernel_rfl))
  f276 := Tryz.func296.trans (congrArg some (by kernel_rfl))
  f277 := Tryz.func297.trans (congrArg some (by kernel_rfl))
  t0 := Tryz.underlying0
  a0 := Tryz.isAgg0
  z0 := Tryz.sizeOf0
  v0 := Tryz.zeroValue0
  t3 := Tryz.underlying3
  a3 := Tryz.isAgg3
  z3 := Tryz.sizeOf3
  v3 := Tryz.zeroValue3
  t4 := Tryz.underlying4
  a4 := Tryz.isAgg4
  z4 := Tryz.sizeOf4
  v4 := Tryz.zeroValue4
  t5 := Tryz.underlying5
  a5 := Tryz.isAgg5
  z5 := Tryz.sizeOf5
  v5 := Tryz.zeroValue5
  t9 := Tryz.underlying9
  a9 := Tryz.isAgg9
  z9 := Tryz.sizeOf9
  v9 := Tryz.zeroValue9
  t20 := Tryz.underlying20
  a20 := Tryz.isAgg20
  z20 := Tryz.sizeOf20
  v20 := Tryz.zeroValue20
  t37 := Tryz.underlying51
  a37 := Tryz.isAgg51
  z37 := Tryz.sizeOf51
  v37 := Tryz.zeroValue51
  t46 := Tryz.underlying268
  a46 := Tryz.isAgg268
  z46 := Tryz.sizeOf268
  v46 := Tryz.zeroValue268
  t51 := Tryz.underlying257
  a51 := Tryz.isAgg257
  z51 := Tryz.sizeOf257
  v51 := Tryz.zeroValue257
  t53 := Tryz.underlying316
  a53 := Tryz.isAgg316
  z53 := Tryz.sizeOf316
  v53 := Tryz.zeroValue316
  t70 := Tryz.underlying344
  a70 := Tryz.isAgg344
  z70 := Tryz.sizeOf344
  v70 := Tryz.zeroValue344
  t72 := Tryz.underlying346
  a72 := Tryz.isAgg346
  z72 := Tryz.sizeOf346
  v72 := Tryz.zeroValue346
  t75 := Tryz.underlying263
  a75 := Tryz.isAgg263
  z75 := Tryz.sizeOf263
  v75 := Tryz.zeroValue263
  t76 := Tryz.underlying347
  a76 := Tryz.isAgg347
  z76 := Tryz.sizeOf347
  v76 := Tryz.zeroValue347
  t109 := Tryz.underlying342
  a109 := Tryz.isAgg342
  z109 := Tryz.sizeOf342
  v109 := Tryz.zeroValue342
  t127 := Tryz.underlying402
  a127 := Tryz.isAgg402
  z127 := Tryz.sizeOf402
  v127 := Tryz.zeroValue402
  t146 := Tryz.underlying398
  a146 := Tryz.isAgg398
  z146 := Tryz.sizeOf398
  v146 := Tryz.zeroValue398
  t148 := Tryz.underlying400
  a148 := Tryz.isAgg400
  z148 := Tryz.sizeOf400
  v148 := Tryz.zeroValue400
  t164 := Tryz.underlying432
  a164 := Tryz.isAgg432
  z164 := Tryz.sizeOf432
  v164 := Tryz.zeroValue432 }
theorem Tryz.Builder_Extra_105 : Builder.Extra Tryz.prog Tryz.lays105_ren := {
  sizeBuilder := by kernel_rfl
  liesBuilder := by kernel_rfl
  t5 := Tryz.underlying5
  a5 := Tryz.isAgg5
  z5 := Tryz.sizeOf5
  v5 := Tryz.zeroValue5
  infoByte := by kernel_rfl
  cellsByte := by kernel_rfl
  sizeByte := by kernel_rfl
  neB5 := by decide }
open Go.RowKit Go.Lib in
/-- **strings.Repeat: count ≥ 0, the result within one allocation: count copies of s.** (LAID: no walk: one application.) -/
theorem Tryz.strings_Repeat (s : ByteArray) (c : Nat) (w : World) (hc : c ≤ 9223372036854775807) (hlen : s.size * c ≤ 140737488355328) :
    Calls Tryz.prog 155 #[.string s, .int .i64 c] w fun e w' => e = .returned (.string ⟨(Lib.repeatL s.data.toList c).toArray⟩) ∧ Below w.heap.size w w' := Any.strings_Repeat Tryz.lays105 Tryz.Builder_Extra_105 s c w hc hlen
open Go.RowKit Go.Lib in
theorem Tryz.strings_ContainsFunc_grows (g : Nat) (lb : Array Value) (eg : ∀ args w, (callFunc g args).run Tryz.prog w = .ok (.enter g args) w) (p : Nat → Bool) (s : ByteArray) (w : World) (hp : PredGrows Tryz.prog g lb p w) :
    Calls Tryz.prog 228 #[.string s, .func (.func g) #[] lb] w fun e w' => e = .returned (.bool (decide (0 ≤ Lib.idxFunc p true s))) ∧ Below w.heap.size w w' := Any.strings_ContainsFunc_grows Tryz.laysGw17 g lb eg p s w hp
open Go.RowKit Go.Sort in
/-- .. and plain. (LAID: no walk: one application.) -/
theorem Tryz.slices_Sort_string_none (p : Option Addr) (cap : Nat) (w : World) :
    Calls Tryz.prog 192 #[.slice p 0 cap] w fun e w' => e = .returned (.tuple #[]) ∧ w' = w := Any.slices_Sort_string_none Tryz.lays190 p cap w
end Go.Proofs
