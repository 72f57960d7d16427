/-
  DERIVED: THE SHELF's CONTRACTS AT THIS DUMP, IN PLAIN WORDS (tools/lay-plain.mjs out of 'TryzShelf.lean', which tools/lay-shelf.mjs wrote): THE SAME DECLARATIONS UNDER THE SAME NAMES: 'import', 'namespace', 'open', 'def', 'theorem' AND NOTHING ELSE: no command of the shelf's: FOR A HAND-IN. Each laying: the table of numbers ('.._ren') and one theorem, a field a fact of the dump's own or the kernel's comparison; each contract: ONE APPLICATION.
-/
import Derived.Shelf.Small.Bits
import Derived.Shelf.Small.Wraps
import Derived.Shelf.Strconv.Itoa0
import Derived.Shelf.Strconv.Itoa1
import Derived.Shelf.LaysM
import Derived.Shelf.Strconv.Itoa2
import Derived.Shelf.Strconv.Itoa3
import Derived.Shelf.Slices.Turned
import Derived.Ground.Names2Prog
import Derived.Shelf.Slices.Clone
import Derived.Shelf.Slices.SearchI
import Derived.Shelf.Bytes.SlSearch0
import Derived.Shelf.Bytes.SlEqualAll
import Derived.Shelf.Bytes.Small
import Derived.Test.YtdpmnldmbnpfpaaGreatDoorProg
namespace Go.Proofs
open Go.Shelf
def Tryz.lays128_ren : Go.Shelf.Ren := ⟨fun | 128 => 238 | n => n, fun | 51 => 23 | 3 => 3 | 4 => 4 | 46 => 174 | 5 => 5 | 9 => 9 | n => n, fun | n => n⟩
def Tryz.lays125_ren : Go.Shelf.Ren := ⟨fun | 125 => 225 | 128 => 238 | 129 => 213 | n => n, fun | 46 => 174 | 3 => 3 | 51 => 23 | 53 => 236 | 4 => 4 | 5 => 5 | 9 => 9 | n => n, fun | n => n⟩
theorem Tryz.lays125 : Go.Proofs.Lays.n125 Tryz.prog Tryz.lays125_ren := {
 mixed := by kernel_rfl
 f125 := Tryz.func225.trans (congrArg some (by kernel_rfl))
 f128 := Tryz.func238.trans (congrArg some (by kernel_rfl))
 f129 := Tryz.func213.trans (congrArg some (by kernel_rfl))
 t3 := Tryz.underlying3
 a3 := Tryz.isAgg3
 z3 := Tryz.sizeOf3
 v3 := Tryz.zeroValue3
 t4 := Tryz.underlying4
 a4 := Tryz.isAgg4
 z4 := Tryz.sizeOf4
 v4 := Tryz.zeroValue4
 t5 := Tryz.underlying5
 a5 := Tryz.isAgg5
 z5 := Tryz.sizeOf5
 v5 := Tryz.zeroValue5
 t9 := Tryz.underlying9
 a9 := Tryz.isAgg9
 z9 := Tryz.sizeOf9
 v9 := Tryz.zeroValue9
 t46 := Tryz.underlying174
 a46 := Tryz.isAgg174
 z46 := Tryz.sizeOf174
 v46 := Tryz.zeroValue174
 t51 := Tryz.underlying23
 a51 := Tryz.isAgg23
 z51 := Tryz.sizeOf23
 v51 := Tryz.zeroValue23
 t53 := Tryz.underlying236
 a53 := Tryz.isAgg236
 z53 := Tryz.sizeOf236
 v53 := Tryz.zeroValue236 }
/-- bits.Len: "Len returns the minimum number of bits required to represent x; the result is 0 for x == 0.": IT RETURNS 'Lib.bitLen x'; the world is as it was. (A uint has 64 bits in the model.) ITS CALLEE bits.Len64 IS MET BY ITS OWN CONTRACT OFF THE SHELF (lay that first). (LAID: no walk: one application.) -/
theorem Tryz.bits_Len (x : Int) (w : World) (h0 : 0 <= x) (h1 : x <= 18446744073709551615) :
 Calls Tryz.prog 225 #[.int .u64 x] w fun e w' => e = .returned (.int .i64 (Lib.bitLen x.toNat)) /\ w' = w := Any.bits_Len Tryz.lays125 x w h0 h1
def Tryz.lays133_ren : Go.Shelf.Ren := ⟨fun | 133 => 239 | 128 => 238 | n => n, fun | 51 => 23 | 3 => 3 | 4 => 4 | 46 => 174 | 5 => 5 | 9 => 9 | n => n, fun | n => n⟩
theorem Tryz.lays133 : Go.Proofs.Lays.n133 Tryz.prog Tryz.lays133_ren := {
 mixed := by kernel_rfl
 f128 := Tryz.func238.trans (congrArg some (by kernel_rfl))
 f133 := Tryz.func239.trans (congrArg some (by kernel_rfl))
 t3 := Tryz.underlying3
 a3 := Tryz.isAgg3
 z3 := Tryz.sizeOf3
 v3 := Tryz.zeroValue3
 t4 := Tryz.underlying4
 a4 := Tryz.isAgg4
 z4 := Tryz.sizeOf4
 v4 := Tryz.zeroValue4
 t5 := Tryz.underlying5
 a5 := Tryz.isAgg5
 z5 := Tryz.sizeOf5
 v5 := Tryz.zeroValue5
 t9 := Tryz.underlying9
 a9 := Tryz.isAgg9
 z9 := Tryz.sizeOf9
 v9 := Tryz.zeroValue9
 t46 := Tryz.underlying174
 a46 := Tryz.isAgg174
 z46 := Tryz.sizeOf174
 v46 := Tryz.zeroValue174
 t51 := Tryz.underlying23
 a51 := Tryz.isAgg23
 z51 := Tryz.sizeOf23
 v51 := Tryz.zeroValue23 }
/-- bits.LeadingZeros32: "LeadingZeros32 returns the number of leading zero bits in x; the result is 32 for x == 0.": IT RETURNS '32 - Lib.bitLen x'; the world is as it was. ITS CALLEE bits.Len32 IS MET BY ITS OWN CONTRACT OFF THE SHELF (lay that first): entered in place it sends the kernel out of memory. (LAID: no walk: one application.) -/
theorem Tryz.bits_LeadingZeros32 (x : Int) (w : World) (h0 : 0 <= x) (h1 : x <= 4294967295) :
 Calls Tryz.prog 239 #[.int .u32 x] w fun e w' => e = .returned (.int .i64 (32 - (Lib.bitLen x.toNat : Int))) /\ w' = w := Any.bits_LeadingZeros32 Tryz.lays133 x w h0 h1
def Tryz.lays215_ren : Go.Shelf.Ren := ⟨fun | 215 => 219 | n => n, fun | 3 => 3 | 4 => 4 | n => n, fun | n => n⟩
open Go.RowKit in
def Tryz.lays122_ren : Go.Shelf.Ren := ⟨fun | 122 => 203 | 215 => 219 | n => n, fun | 3 => 3 | 4 => 4 | n => n, fun | n => n⟩
open Go.RowKit in
def Tryz.lays129_ren : Go.Shelf.Ren := ⟨fun | 129 => 213 | n => n, fun | 53 => 236 | 3 => 3 | 4 => 4 | 46 => 174 | 5 => 5 | 9 => 9 | n => n, fun | n => n⟩
def Tryz.lays317_ren : Go.Shelf.Ren := ⟨fun | 317 => 212 | n => n, fun | 3 => 3 | 46 => 174 | n => n, fun | n => n⟩
open Go.Lib in
def Tryz.lays318_ren : Go.Shelf.Ren := ⟨fun | 318 => 214 | n => n, fun | 3 => 3 | 4 => 4 | n => n, fun | n => n⟩
open Go.Lib in
def Tryz.lays283_ren : Go.Shelf.Ren := ⟨fun | 283 => 185 | n => n, fun | 3 => 3 | 9 => 9 | 4 => 4 | n => n, fun | n => n⟩
open Go.Lib in
def Tryz.laysM284_ren : Go.Shelf.Ren := ⟨fun | 284 => 186 | 129 => 213 | 317 => 212 | 318 => 214 | n => n, fun | 53 => 236 | 3 => 3 | 212 => 263 | 0 => 0 | 4 => 4 | 46 => 174 | 5 => 5 | 9 => 9 | n => n, fun | 17 => 1 | n => n⟩
open Go.Lib in
def Tryz.lays285_ren : Go.Shelf.Ren := ⟨fun | 285 => 187 | n => n, fun | 37 => 22 | 53 => 236 | 3 => 3 | 4 => 4 | 51 => 23 | 9 => 9 | 5 => 5 | 0 => 0 | n => n, fun | n => n⟩
open Go.RowKit Go.Sort Go.Lib in
def Tryz.laysM246_ren : Go.Shelf.Ren := ⟨fun | 246 => 149 | 283 => 185 | 284 => 186 | 285 => 187 | 286 => 188 | 129 => 213 | 317 => 212 | 318 => 214 | 319 => 215 | 320 => 216 | 337 => 226 | 338 => 227 | n => n, fun | 2 => 2 | 3 => 3 | 9 => 9 | 4 => 4 | 171 => 235 | 0 => 0 | 53 => 236 | 37 => 22 | 5 => 5 | 173 => 239 | 212 => 263 | 51 => 23 | 20 => 20 | 213 => 264 | 46 => 174 | 232 => 280 | 233 => 281 | n => n, fun | 17 => 1 | 18 => 2 | 19 => 3 | n => n⟩
open Go.RowKit Go.Sort Go.Lib in
def Tryz.lays246_ren : Go.Shelf.Ren := ⟨fun | 246 => 149 | 283 => 185 | 284 => 186 | 285 => 187 | 286 => 188 | 129 => 213 | 317 => 212 | 318 => 214 | 319 => 215 | 320 => 216 | 337 => 226 | 338 => 227 | n => n, fun | 2 => 2 | 3 => 3 | 9 => 9 | 4 => 4 | 171 => 235 | 0 => 0 | 53 => 236 | 37 => 22 | 5 => 5 | 173 => 239 | 212 => 263 | 51 => 23 | 20 => 20 | 213 => 264 | 46 => 174 | 232 => 280 | 233 => 281 | n => n, fun | 17 => 1 | 18 => 2 | 19 => 3 | n => n⟩
open Go.RowKit Go.Sort Go.Lib in
def Tryz.laysM243_ren : Go.Shelf.Ren := ⟨fun | 243 => 93 | 246 => 149 | 283 => 185 | 284 => 186 | 285 => 187 | 286 => 188 | 129 => 213 | 317 => 212 | 318 => 214 | 319 => 215 | 320 => 216 | 337 => 226 | 338 => 227 | n => n, fun | 3 => 3 | 9 => 9 | 2 => 2 | 4 => 4 | 171 => 235 | 0 => 0 | 53 => 236 | 37 => 22 | 5 => 5 | 173 => 239 | 212 => 263 | 51 => 23 | 20 => 20 | 213 => 264 | 46 => 174 | 232 => 280 | 233 => 281 | n => n, fun | 17 => 1 | 18 => 2 | 19 => 3 | n => n⟩
open Go.RowKit Go.Sort Go.Lib in
def Tryz.lays243_ren : Go.Shelf.Ren := ⟨fun | 243 => 93 | 246 => 149 | 283 => 185 | 284 => 186 | 285 => 187 | 286 => 188 | 129 => 213 | 317 => 212 | 318 => 214 | 319 => 215 | 320 => 216 | 337 => 226 | 338 => 227 | n => n, fun | 3 => 3 | 9 => 9 | 2 => 2 | 4 => 4 | 171 => 235 | 0 => 0 | 53 => 236 | 37 => 22 | 5 => 5 | 173 => 239 | 212 => 263 | 51 => 23 | 20 => 20 | 213 => 264 | 46 => 174 | 232 => 280 | 233 => 281 | n => n, fun | 17 => 1 | 18 => 2 | 19 => 3 | n => n⟩
open Go.RowKit Go.Sort Go.Lib in
def Tryz.laysM171_ren : Go.Shelf.Ren := ⟨fun | 171 => 39 | 243 => 93 | 246 => 149 | 283 => 185 | 284 => 186 | 285 => 187 | 286 => 188 | 129 => 213 | 317 => 212 | 318 => 214 | 319 => 215 | 320 => 216 | 337 => 226 | 338 => 227 | n => n, fun | 3 => 3 | 9 => 9 | 2 => 2 | 4 => 4 | 171 => 235 | 0 => 0 | 53 => 236 | 37 => 22 | 5 => 5 | 173 => 239 | 212 => 263 | 51 => 23 | 20 => 20 | 213 => 264 | 46 => 174 | 232 => 280 | 233 => 281 | n => n, fun | 17 => 1 | 18 => 2 | 19 => 3 | n => n⟩
theorem Tryz.laysM171 : Go.Proofs.LaysM.n171 Tryz.prog Tryz.laysM171_ren := {
 mixed := by kernel_rfl
 f129 := Tryz.func213.trans (congrArg some (by kernel_rfl))
 f171 := Tryz.func39.trans (congrArg some (by kernel_rfl))
 f243 := Tryz.func93.trans (congrArg some (by kernel_rfl))
 f246 := Tryz.func149.trans (congrArg some (by kernel_rfl))
 f283 := Tryz.func185.trans (congrArg some (by kernel_rfl))
 f284 := Tryz.func186.trans (congrArg some (by kernel_rfl))
 f285 := Tryz.func187.trans (congrArg some (by kernel_rfl))
 f286 := Tryz.func188.trans (congrArg some (by kernel_rfl))
 f317 := Tryz.func212.trans (congrArg some (by kernel_rfl))
 f318 := Tryz.func214.trans (congrArg some (by kernel_rfl))
 f319 := Tryz.func215.trans (congrArg some (by kernel_rfl))
 f320 := Tryz.func216.trans (congrArg some (by kernel_rfl))
 f337 := Tryz.func226.trans (congrArg some (by kernel_rfl))
 f338 := Tryz.func227.trans (congrArg some (by kernel_rfl))
 t0 := Tryz.underlying0
 a0 := Tryz.isAgg0
 z0 := Tryz.sizeOf0
 v0 := Tryz.zeroValue0
 t2 := Tryz.underlying2
 a2 := Tryz.isAgg2
 z2 := Tryz.sizeOf2
 v2 := Tryz.zeroValue2
 t3 := Tryz.underlying3
 a3 := Tryz.isAgg3
 z3 := Tryz.sizeOf3
 v3 := Tryz.zeroValue3
 t4 := Tryz.underlying4
 a4 := Tryz.isAgg4
 z4 := Tryz.sizeOf4
 v4 := Tryz.zeroValue4
 t5 := Tryz.underlying5
 a5 := Tryz.isAgg5
 z5 := Tryz.sizeOf5
 v5 := Tryz.zeroValue5
 t9 := Tryz.underlying9
 a9 := Tryz.isAgg9
 z9 := Tryz.sizeOf9
 v9 := Tryz.zeroValue9
 t20 := Tryz.underlying20
 a20 := Tryz.isAgg20
 z20 := Tryz.sizeOf20
 v20 := Tryz.zeroValue20
 t37 := Tryz.underlying22
 a37 := Tryz.isAgg22
 z37 := Tryz.sizeOf22
 v37 := Tryz.zeroValue22
 t46 := Tryz.underlying174
 a46 := Tryz.isAgg174
 z46 := Tryz.sizeOf174
 v46 := Tryz.zeroValue174
 t51 := Tryz.underlying23
 a51 := Tryz.isAgg23
 z51 := Tryz.sizeOf23
 v51 := Tryz.zeroValue23
 t53 := Tryz.underlying236
 a53 := Tryz.isAgg236
 z53 := Tryz.sizeOf236
 v53 := Tryz.zeroValue236
 t171 := Tryz.underlying235
 a171 := Tryz.isAgg235
 z171 := Tryz.sizeOf235
 v171 := Tryz.zeroValue235
 t173 := Tryz.underlying239
 a173 := Tryz.isAgg239
 z173 := Tryz.sizeOf239
 v173 := Tryz.zeroValue239
 t212 := Tryz.underlying263
 a212 := Tryz.isAgg263
 z212 := Tryz.sizeOf263
 v212 := Tryz.zeroValue263
 t213 := Tryz.underlying264
 a213 := Tryz.isAgg264
 z213 := Tryz.sizeOf264
 t232 := Tryz.underlying280
 a232 := Tryz.isAgg280
 z232 := Tryz.sizeOf280
 v232 := Tryz.zeroValue280
 t233 := Tryz.underlying281
 a233 := Tryz.isAgg281
 z233 := Tryz.sizeOf281
 v233 := Tryz.zeroValue281
 g17 := by kernel_rfl
 g18 := by kernel_rfl
 g19 := by kernel_rfl
 i0 := by kernel_rfl
 i2 := by kernel_rfl
 i3 := by kernel_rfl
 i4 := by kernel_rfl
 i5 := by kernel_rfl
 i9 := by kernel_rfl
 i20 := by kernel_rfl
 i37 := by kernel_rfl
 i46 := by kernel_rfl
 i51 := by kernel_rfl
 i53 := by kernel_rfl
 i171 := by kernel_rfl
 i173 := by kernel_rfl
 i212 := by kernel_rfl
 i232 := by kernel_rfl
 i233 := by kernel_rfl
 m17 := by kernel_rfl
 m18 := by kernel_rfl
 m19 := by kernel_rfl }
open Go.RowKit Go.Sort Go.Lib in
/-- strconv.Itoa: "Itoa is equivalent to FormatInt(int64(i), 10).": i's DECIMAL NUMERAL ('Lib.itoa': a '-' where i is negative, then the digits), FOR EVERY int. The world behind the call: the world before it, new blocks behind the heap (the library's 'var a [24]byte'), draws. (LAID: no walk: one application.) -/
theorem Tryz.strconv_Itoa (n : Int) (h0 : -9223372036854775808 <= n) (h1 : n <= 9223372036854775807) (w : World) (htab : Lib.TabIs Tryz.prog w "internal/strconv.uint64pow10" .u64 Lib.pow10Tab) :
 Calls Tryz.prog 39 #[.int .i64 n] w fun e w' => e = .returned (.string ⟨(Lib.itoa n).toArray⟩) /\ ∃ k os, w' = grow (w.drewN k) os := Any.strconv_Itoa Tryz.laysM171 n h0 h1 w htab
def Tryz.lays171_ren : Go.Shelf.Ren := ⟨fun | 171 => 39 | 243 => 93 | 246 => 149 | 283 => 185 | 284 => 186 | 285 => 187 | 286 => 188 | 129 => 213 | 317 => 212 | 318 => 214 | 319 => 215 | 320 => 216 | 337 => 226 | 338 => 227 | n => n, fun | 3 => 3 | 9 => 9 | 2 => 2 | 4 => 4 | 171 => 235 | 0 => 0 | 53 => 236 | 37 => 22 | 5 => 5 | 173 => 239 | 212 => 263 | 51 => 23 | 20 => 20 | 213 => 264 | 46 => 174 | 232 => 280 | 233 => 281 | n => n, fun | 17 => 1 | 18 => 2 | 19 => 3 | n => n⟩
open Go.RowKit Go.Sort Go.Lib in
def Tryz.lays108_ren : Go.Shelf.Ren := ⟨fun | 108 => 72 | n => n, fun | 28 => 47 | 3 => 3 | 0 => 0 | 4 => 4 | n => n, fun | n => n⟩
theorem Tryz.lays108 : Go.Proofs.Lays.n108 Tryz.prog Tryz.lays108_ren := {
 mixed := by kernel_rfl
 f108 := Tryz.func72.trans (congrArg some (by kernel_rfl))
 t0 := Tryz.underlying0
 a0 := Tryz.isAgg0
 z0 := Tryz.sizeOf0
 v0 := Tryz.zeroValue0
 t3 := Tryz.underlying3
 a3 := Tryz.isAgg3
 z3 := Tryz.sizeOf3
 v3 := Tryz.zeroValue3
 t4 := Tryz.underlying4
 a4 := Tryz.isAgg4
 z4 := Tryz.sizeOf4
 v4 := Tryz.zeroValue4
 t28 := Tryz.underlying47
 a28 := Tryz.isAgg47
 z28 := Tryz.sizeOf47
 v28 := Tryz.zeroValue47 }
open Go.Lib in
/-- slices.Index at []int: "Index returns the index of the first occurrence of v in s, or -1 if not present.": IT RETURNS 'Lib.idxOf (the elements) v'; the world is as it was. 'zs': what the cells behind the slice's address hold (its spare capacity too, if you have it); 'zs.take n': its elements. (LAID: no walk: one application.) -/
theorem Tryz.slices_Index_int (b off n c : Nat) (zs : List Int) (x : Int) (w : World) (hz : n <= zs.length) (hbig : n <= 9223372036854775807) (hc : ∀ j, j < zs.length -> w.cell? ⟨b, off + j, none⟩ = some (.int .i64 (zs.getD j 0))) :
 Calls Tryz.prog 72 #[.slice (some ⟨b, off, none⟩) n c, .int .i64 x] w fun e w' => e = .returned (.int .i64 (Lib.idxOf (zs.take n) x)) /\ w' = w := Any.slices_Index_int Tryz.lays108 b off n c zs x w hz hbig hc
open Go.Lib in
def Tryz.lays114_ren : Go.Shelf.Ren := ⟨fun | 114 => 51 | n => n, fun | 28 => 47 | 3 => 3 | 4 => 4 | 9 => 9 | 20 => 20 | 0 => 0 | n => n, fun | n => n⟩
theorem Tryz.lays114 : Go.Proofs.Lays.n114 Tryz.prog Tryz.lays114_ren := {
 mixed := by kernel_rfl
 f114 := Tryz.func51.trans (congrArg some (by kernel_rfl))
 t0 := Tryz.underlying0
 a0 := Tryz.isAgg0
 z0 := Tryz.sizeOf0
 v0 := Tryz.zeroValue0
 t3 := Tryz.underlying3
 a3 := Tryz.isAgg3
 z3 := Tryz.sizeOf3
 v3 := Tryz.zeroValue3
 t4 := Tryz.underlying4
 a4 := Tryz.isAgg4
 z4 := Tryz.sizeOf4
 v4 := Tryz.zeroValue4
 t9 := Tryz.underlying9
 a9 := Tryz.isAgg9
 z9 := Tryz.sizeOf9
 v9 := Tryz.zeroValue9
 t20 := Tryz.underlying20
 a20 := Tryz.isAgg20
 z20 := Tryz.sizeOf20
 v20 := Tryz.zeroValue20
 t28 := Tryz.underlying47
 a28 := Tryz.isAgg47
 z28 := Tryz.sizeOf47
 v28 := Tryz.zeroValue47 }
open Go.Lib in
/-- slices.Min at []int: "Min returns the minimal value in x. It panics if x is empty.": OF A SLICE THAT IS NOT EMPTY IT RETURNS 'Lib.minOf (the elements)'; the world is as it was. (Of an empty one it panics: no contract here.) (LAID: no walk: one application.) -/
theorem Tryz.slices_Min_int (b off n c : Nat) (zs : List Int) (w : World) (hn : 0 < n) (hz : n <= zs.length) (hbig : n <= 9223372036854775807) (hc : ∀ j, j < zs.length -> w.cell? ⟨b, off + j, none⟩ = some (.int .i64 (zs.getD j 0))) :
 Calls Tryz.prog 51 #[.slice (some ⟨b, off, none⟩) n c] w fun e w' => e = .returned (.int .i64 (Lib.minOf (zs.take n))) /\ w' = w := Any.slices_Min_int Tryz.lays114 b off n c zs w hn hz hbig hc
def Tryz.laysNm215_ren : Go.Shelf.Ren := ⟨fun | 15 => 74 | n => n, fun | 22 => 47 | 3 => 3 | 4 => 4 | n => n, fun | n => n⟩
open Go.RowKit Go.Lib in
open Go.RowKit Go.Lib in
open Go.RowKit Go.Lib in
def Tryz.laysNm237_ren : Go.Shelf.Ren := ⟨fun | 37 => 219 | n => n, fun | 3 => 3 | 4 => 4 | n => n, fun | n => n⟩
open Go.RowKit Go.Lib in
def Tryz.lays115_ren : Go.Shelf.Ren := ⟨fun | 115 => 107 | n => n, fun | 37 => 22 | 4 => 4 | 9 => 9 | 5 => 5 | n => n, fun | n => n⟩
open Go.Proofs Go.RowKit Go.Lib in
def Tryz.laysnb115_ren : Go.Shelf.Ren := ⟨fun | 115 => 107 | n => n, fun | 37 => 22 | 4 => 4 | 9 => 9 | 5 => 5 | n => n, fun | n => n⟩
theorem Tryz.laysnb115 : Go.Proofs.Lays.nb115 Tryz.prog Tryz.laysnb115_ren := {
 mixed := by kernel_rfl
 f115 := Tryz.func107.trans (congrArg some (by kernel_rfl))
 t4 := Tryz.underlying4
 a4 := Tryz.isAgg4
 z4 := Tryz.sizeOf4
 v4 := Tryz.zeroValue4
 t9 := Tryz.underlying9
 a9 := Tryz.isAgg9
 z9 := Tryz.sizeOf9
 v9 := Tryz.zeroValue9
 t37 := Tryz.underlying22
 a37 := Tryz.isAgg22
 z37 := Tryz.sizeOf22
 v37 := Tryz.zeroValue22
 t5 := Tryz.underlying5
 a5 := Tryz.isAgg5
 z5 := Tryz.sizeOf5
 v5 := Tryz.zeroValue5 }
/-- bytes.Equal: WHOLE. (LAID: no walk: one application.) -/
theorem Tryz.bytes_Equal_all (p1 p2 : Option Addr) (n c m d : Nat) (xs ys : List Int) (w : World) (hx : xs.length = n) (hy : ys.length = m) (h1 : Lib.BytesIn w p1 n xs) (h2 : Lib.BytesIn w p2 m ys) :
 Calls Tryz.prog 107 #[.slice p1 n c, .slice p2 m d] w fun e w' => e = .returned (.bool (Lib.bytesOf xs == Lib.bytesOf ys)) /\ w' = w := Any.bytes_Equal_all Tryz.laysnb115 p1 p2 n c m d xs ys w hx hy h1 h2
end Go.Proofs
