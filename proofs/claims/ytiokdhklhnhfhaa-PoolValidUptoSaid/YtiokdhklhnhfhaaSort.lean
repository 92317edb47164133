/-
  DERIVED: THE SHELF's CONTRACTS AT THIS DUMP, IN PLAIN WORDS (tools/lay-plain.mjs out of 'TryPick.lean', which tools/lay-shelf.mjs wrote): THE SAME DECLARATIONS UNDER THE SAME NAMES: 'import', 'namespace', 'open', 'def', 'theorem' AND NOTHING ELSE: no command of the shelf's: FOR A HAND-IN. Each laying: the table of numbers ('.._ren') and one theorem, a field a fact of the dump's own or the kernel's comparison; each contract: ONE APPLICATION.
-/
import Derived.Shelf.Small.Bits
import Derived.Shelf.Small.Wraps
import Derived.Shelf.Strconv.Itoa0
import Derived.Shelf.Sort.Plain
import Derived.Ground.Names2Prog
import Derived.Shelf.Slices.Clone
import Derived.Shelf.Slices.SearchI
import Derived.Shelf.Slices.In.SortNone
import Derived.Ground.SlgnProg
import Derived.Shelf.SlicesE.Clone
import Derived.Test.YtiokdhklhnhfhaaProg
namespace Go.Proofs
open Go.Shelf
def Try.lays189_ren : Go.Shelf.Ren := ⟨fun | 189 => 31 | 125 => 35 | 257 => 34 | 128 => 45 | 129 => 46 | 294 => 36 | 295 => 37 | 296 => 38 | 297 => 39 | 298 => 40 | 299 => 41 | 216 => 42 | 300 => 43 | 301 => 44 | 328 => 47 | 329 => 48 | 330 => 49 | 331 => 50 | 332 => 51 | 215 => 52 | 343 => 53 | n => n, fun | 28 => 22 | 3 => 3 | 46 => 55 | 0 => 0 | 51 => 66 | 53 => 68 | 4 => 4 | 183 => 58 | 182 => 57 | 131 => 63 | 5 => 5 | 9 => 9 | 218 => 69 | 222 => 73 | 228 => 76 | 229 => 77 | n => n, fun | n => n⟩
theorem Try.lays189 : Go.Proofs.Lays.n189 Try.prog Try.lays189_ren := {
  mixed := by kernel_rfl
  f125 := Try.func35.trans (congrArg some (by kernel_rfl))
  f128 := Try.func45.trans (congrArg some (by kernel_rfl))
  f129 := Try.func46.trans (congrArg some (by kernel_rfl))
  f189 := Try.func31.trans (congrArg some (by kernel_rfl))
  f215 := Try.func52.trans (congrArg some (by kernel_rfl))
  f216 := Try.func42.trans (congrArg some (by kernel_rfl))
  f257 := Try.func34.trans (congrArg some (by kernel_rfl))
  f294 := Try.func36.trans (congrArg some (by kernel_rfl))
  f295 := Try.func37.trans (congrArg some (by kernel_rfl))
  f296 := Try.func38.trans (congrArg some (by kernel_rfl))
  f297 := Try.func39.trans (congrArg some (by kernel_rfl))
  f298 := Try.func40.trans (congrArg some (by kernel_rfl))
  f299 := Try.func41.trans (congrArg some (by kernel_rfl))
  f300 := Try.func43.trans (congrArg some (by kernel_rfl))
  f301 := Try.func44.trans (congrArg some (by kernel_rfl))
  f328 := Try.func47.trans (congrArg some (by kernel_rfl))
  f329 := Try.func48.trans (congrArg some (by kernel_rfl))
  f330 := Try.func49.trans (congrArg some (by kernel_rfl))
  f331 := Try.func50.trans (congrArg some (by kernel_rfl))
  f332 := Try.func51.trans (congrArg some (by kernel_rfl))
  f343 := Try.func53.trans (congrArg some (by kernel_rfl))
  t0 := Try.underlying0
  a0 := Try.isAgg0
  z0 := Try.sizeOf0
  v0 := Try.zeroValue0
  t3 := Try.underlying3
  a3 := Try.isAgg3
  z3 := Try.sizeOf3
  v3 := Try.zeroValue3
  t4 := Try.underlying4
  a4 := Try.isAgg4
  z4 := Try.sizeOf4
  v4 := Try.zeroValue4
  t5 := Try.underlying5
  a5 := Try.isAgg5
  z5 := Try.sizeOf5
  v5 := Try.zeroValue5
  t9 := Try.underlying9
  a9 := Try.isAgg9
  z9 := Try.sizeOf9
  v9 := Try.zeroValue9
  t28 := Try.underlying22
  a28 := Try.isAgg22
  z28 := Try.sizeOf22
  v28 := Try.zeroValue22
  t46 := Try.underlying55
  a46 := Try.isAgg55
  z46 := Try.sizeOf55
  v46 := Try.zeroValue55
  t51 := Try.underlying66
  a51 := Try.isAgg66
  z51 := Try.sizeOf66
  v51 := Try.zeroValue66
  t53 := Try.underlying68
  a53 := Try.isAgg68
  z53 := Try.sizeOf68
  v53 := Try.zeroValue68
  t131 := Try.underlying63
  a131 := Try.isAgg63
  z131 := Try.sizeOf63
  v131 := Try.zeroValue63
  t182 := Try.underlying57
  a182 := Try.isAgg57
  z182 := Try.sizeOf57
  v182 := Try.zeroValue57
  t183 := Try.underlying58
  a183 := Try.isAgg58
  z183 := Try.sizeOf58
  v183 := Try.zeroValue58
  t218 := Try.underlying69
  a218 := Try.isAgg69
  z218 := Try.sizeOf69
  v218 := Try.zeroValue69
  t222 := Try.underlying73
  a222 := Try.isAgg73
  z222 := Try.sizeOf73
  v222 := Try.zeroValue73
  t228 := Try.underlying76
  a228 := Try.isAgg76
  z228 := Try.sizeOf76
  v228 := Try.zeroValue76
  t229 := Try.underlying77
  a229 := Try.isAgg77
  z229 := Try.sizeOf77
  v229 := Try.zeroValue77 }
open Go.Sort Go.RowKit in
theorem Try.slices_Sort_int (blk off cap : Nat) (zs : List Int) (w : World) (hH : Holds (Value.int .i64) w blk off zs.toArray) (hblk : blk < w.heap.size) (hsz : zs.length < 4611686018427387904) :
    Calls Try.prog 31 #[.slice (some ⟨blk, off, none⟩) zs.length cap] w fun e w' =>
      e = .returned (.tuple #[]) ∧ ∃ n os, w' = grow (putRow (Value.int .i64) (Sort.ahead w n) blk off (zs.mergeSort fun x y => decide (x ≤ y)).toArray) os := Any.slices_Sort_int Try.lays189 blk off cap zs w hH hblk hsz
open Go.RowKit Go.Sort in
/-- .. and plain. (LAID: no walk: one application.) -/
theorem Try.slices_Sort_int_none (p : Option Addr) (cap : Nat) (w : World) :
    Calls Try.prog 31 #[.slice p 0 cap] w fun e w' => e = .returned (.tuple #[]) ∧ w' = w := Any.slices_Sort_int_none Try.lays189 p cap w
end Go.Proofs
