/-
  DERIVED: THE SHELF's CONTRACTS AT THIS DUMP, IN PLAIN WORDS (tools/lay-plain.mjs out of 'TrydPick.lean', which tools/lay-shelf.mjs wrote): THE SAME DECLARATIONS UNDER THE SAME NAMES: 'import', 'namespace', 'open', 'def', 'theorem' AND NOTHING ELSE: no command of the shelf's: FOR A HAND-IN. Each laying: the table of numbers ('.._ren') and one theorem, a field a fact of the dump's own or the kernel's comparison; each contract: ONE APPLICATION.
-/
import Derived.Shelf.Strings.Builder1
import Derived.Shelf.Strings.Builder2
import Derived.Shelf.Strings.OnBuilder
import Derived.Shelf.Small.Strs
import Derived.Shelf.Strconv.Itoa0
import Derived.Shelf.Strconv.Itoa1
import Derived.Shelf.LaysM
import Derived.Shelf.Strconv.Itoa2
import Derived.Shelf.Strconv.Itoa3
import Derived.Shelf.Strings.Search1
import Derived.Shelf.Strings.Search2
import Derived.Shelf.Strings.Search3
import Derived.Shelf.Strings.Cut
import Derived.Shelf.Strings.Count
import Derived.Shelf.Strings.Shaped
import Derived.Shelf.Unicode.DecodeSlow
import Derived.Shelf.Slices.CompactS
import Derived.Shelf.Slices.Cells
import Derived.Test.YtiokdhklhnhfhaaDoorProg
namespace Go.Proofs
open Go.Shelf
def Tryd.laysM246_ren : Go.Shelf.Ren := ⟨fun | 246 => 208 | 283 => 235 | 284 => 236 | 285 => 237 | 286 => 238 | 129 => 185 | 317 => 247 | 318 => 248 | 319 => 249 | 320 => 250 | 337 => 254 | 338 => 255 | n => n, fun | 2 => 2 | 3 => 3 | 9 => 9 | 4 => 4 | 171 => 240 | 0 => 0 | 53 => 214 | 37 => 24 | 5 => 5 | 173 => 242 | 212 => 253 | 51 => 212 | 20 => 20 | 213 => 254 | 46 => 110 | 232 => 259 | 233 => 260 | n => n, fun | 17 => 4 | 18 => 5 | 19 => 6 | n => n⟩
theorem Tryd.laysM246 : Go.Proofs.LaysM.n246 Tryd.prog Tryd.laysM246_ren := {
  mixed := by kernel_rfl
  f129 := Tryd.func185.trans (congrArg some (by kernel_rfl))
  f246 := Tryd.func208.trans (congrArg some (by kernel_rfl))
  f283 := Tryd.func235.trans (congrArg some (by kernel_rfl))
  f284 := Tryd.func236.trans (congrArg some (by kernel_rfl))
  f285 := Tryd.func237.trans (congrArg some (by kernel_rfl))
  f286 := Tryd.func238.trans (congrArg some (by kernel_rfl))
  f317 := Tryd.func247.trans (congrArg some (by kernel_rfl))
  f318 := Tryd.func248.trans (congrArg some (by kernel_rfl))
  f319 := Tryd.func249.trans (congrArg some (by kernel_rfl))
  f320 := Tryd.func250.trans (congrArg some (by kernel_rfl))
  f337 := Tryd.func254.trans (congrArg some (by kernel_rfl))
  f338 := Tryd.func255.trans (congrArg some (by kernel_rfl))
  t0 := Tryd.underlying0
  a0 := Tryd.isAgg0
  z0 := Tryd.sizeOf0
  v0 := Tryd.zeroValue0
  t2 := Tryd.underlying2
  a2 := Tryd.isAgg2
  z2 := Tryd.sizeOf2
  v2 := Tryd.zeroValue2
  t3 := Tryd.underlying3
  a3 := Tryd.isAgg3
  z3 := Tryd.sizeOf3
  v3 := Tryd.zeroValue3
  t4 := Tryd.underlying4
  a4 := Tryd.isAgg4
  z4 := Tryd.sizeOf4
  v4 := Tryd.zeroValue4
  t5 := Tryd.underlying5
  a5 := Tryd.isAgg5
  z5 := Tryd.sizeOf5
  v5 := Tryd.zeroValue5
  t9 := Tryd.underlying9
  a9 := Tryd.isAgg9
  z9 := Tryd.sizeOf9
  v9 := Tryd.zeroValue9
  t20 := Tryd.underlying20
  a20 := Tryd.isAgg20
  z20 := Tryd.sizeOf20
  v20 := Tryd.zeroValue20
  t37 := Tryd.underlying24
  a37 := Tryd.isAgg24
  z37 := Tryd.sizeOf24
  v37 := Tryd.zeroValue24
  t46 := Tryd.underlying110
  a46 := Tryd.isAgg110
  z46 := Tryd.sizeOf110
  v46 := Tryd.zeroValue110
  t51 := Tryd.underlying212
  a51 := Tryd.isAgg212
  z51 := Tryd.sizeOf212
  v51 := Tryd.zeroValue212
  t53 := Tryd.underlying214
  a53 := Tryd.isAgg214
  z53 := Tryd.sizeOf214
  v53 := Tryd.zeroValue214
  t171 := Tryd.underlying240
  a171 := Tryd.isAgg240
  z171 := Tryd.sizeOf240
  v171 := Tryd.zeroValue240
  t173 := Tryd.underlying242
  a173 := Tryd.isAgg242
  z173 := Tryd.sizeOf242
  v173 := Tryd.zeroValue242
  t212 := Tryd.underlying253
  a212 := Tryd.isAgg253
  z212 := Tryd.sizeOf253
  v212 := Tryd.zeroValue253
  t213 := Tryd.underlying254
  a213 := Tryd.isAgg254
  z213 := Tryd.sizeOf254
  t232 := Tryd.underlying259
  a232 := Tryd.isAgg259
  z232 := Tryd.sizeOf259
  v232 := Tryd.zeroValue259
  t233 := Tryd.underlying260
  a233 := Tryd.isAgg260
  z233 := Tryd.sizeOf260
  v233 := Tryd.zeroValue260
  g17 := by kernel_rfl
  g18 := by kernel_rfl
  g19 := by kernel_rfl
  i0 := by kernel_rfl
  i2 := by kernel_rfl
  i3 := by kernel_rfl
  i4 := by kernel_rfl
  i5 := by kernel_rfl
  i9 := by kernel_rfl
  i20 := by kernel_rfl
  i37 := by kernel_rfl
  i46 := by kernel_rfl
  i51 := by kernel_rfl
  i53 := by kernel_rfl
  i171 := by kernel_rfl
  i173 := by kernel_rfl
  i212 := by kernel_rfl
  i232 := by kernel_rfl
  i233 := by kernel_rfl
  m17 := by kernel_rfl
  m18 := by kernel_rfl
  m19 := by kernel_rfl }
open Go.RowKit Go.Sort Go.Lib in
/-- internal/strconv.FormatInt: "FormatInt returns the string representation of i in the given base": AT BASE 10: i's decimal numeral, for every int64. The world behind the call: the world before it, new blocks behind the heap, draws. (LAID: no walk: one application.) -/
theorem Tryd.internal_strconv_FormatInt_10 (n : Int) (h0 : -9223372036854775808 ≤ n) (h1 : n ≤ 9223372036854775807) (w : World) (htab : Lib.TabIs Tryd.prog w "internal/strconv.uint64pow10" .u64 Lib.pow10Tab) :
    Calls Tryd.prog 208 #[.int .i64 n, .int .i64 10] w fun e w' => e = .returned (.string ⟨(Lib.itoa n).toArray⟩) ∧ ∃ k os, w' = grow (w.drewN k) os := Any.internal_strconv_FormatInt_10 Tryd.laysM246 n h0 h1 w htab
end Go.Proofs
