/- DERIVED: THE SHELF's CONTRACTS AT THIS DUMP, IN PLAIN WORDS (tools/lay-plain.mjs out of 'YtkbggcencmjgfaaGreatDoorShRaw.lean', which tools/lay-shelf.mjs wrote): THE SAME DECLARATIONS UNDER THE SAME NAMES: 'import', 'namespace', 'open', 'def', 'theorem' AND NOTHING ELSE: no command of the shelf's: FOR A HAND-IN. Each laying: the table of numbers ('.._ren') and one theorem, a field a fact of the dump's own or the kernel's comparison; each contract: ONE APPLICATION. -/
import Derived.Shelf.Small.Bits
import Derived.Shelf.Small.Wraps
import Derived.Shelf.Strconv.Itoa0
import Derived.Shelf.Sort.Plain
import Derived.Ground.Names2Prog
import Derived.Shelf.Slices.SearchI
import Derived.Shelf.Slices.In.SortNone
import Derived.Test.YtkbggcencmjgfaaGreatDoorProg
namespace Go.Proofs
open Go.Shelf
def Tryz.lays189_ren : Go.Shelf.Ren := ⟨fun | 189 => 128 | 125 => 126 | 257 => 162 | 128 => 159 | 129 => 160 | 294 => 177 | 295 => 178 | 296 => 179 | 297 => 180 | 298 => 181 | 299 => 182 | 216 => 183 | 300 => 184 | 301 => 185 | 328 => 191 | 329 => 173 | 330 => 174 | 331 => 192 | 332 => 193 | 215 => 194 | 343 => 195 | n => n, fun | 28 => 71 | 3 => 3 | 46 => 204 | 0 => 0 | 51 => 234 | 53 => 195 | 4 => 4 | 183 => 228 | 182 => 227 | 131 => 93 | 5 => 5 | 9 => 9 | 218 => 248 | 222 => 88 | 228 => 266 | 229 => 43 | n => n, fun | n => n⟩
theorem Tryz.lays189 : Go.Proofs.Lays.n189 Tryz.prog Tryz.lays189_ren := {
  mixed := by kernel_rfl
  f125 := Tryz.func126.trans (congrArg some (by kernel_rfl))
  f128 := Tryz.func159.trans (congrArg some (by kernel_rfl))
  f129 := Tryz.func160.trans (congrArg some (by kernel_rfl))
  f189 := Tryz.func128.trans (congrArg some (by kernel_rfl))
  f215 := Tryz.func194.trans (congrArg some (by kernel_rfl))
  f216 := Tryz.func183.trans (congrArg some (by kernel_rfl))
  f257 := Tryz.func162.trans (congrArg some (by kernel_rfl))
  f294 := Tryz.func177.trans (congrArg some (by kernel_rfl))
  f295 := Tryz.func178.trans (congrArg some (by kernel_rfl))
  f296 := Tryz.func179.trans (congrArg some (by kernel_rfl))
  f297 := Tryz.func180.trans (congrArg some (by kernel_rfl))
  f298 := Tryz.func181.trans (congrArg some (by kernel_rfl))
  f299 := Tryz.func182.trans (congrArg some (by kernel_rfl))
  f300 := Tryz.func184.trans (congrArg some (by kernel_rfl))
  f301 := Tryz.func185.trans (congrArg some (by kernel_rfl))
  f328 := Tryz.func191.trans (congrArg some (by kernel_rfl))
  f329 := Tryz.func173.trans (congrArg some (by kernel_rfl))
  f330 := Tryz.func174.trans (congrArg some (by kernel_rfl))
  f331 := Tryz.func192.trans (congrArg some (by kernel_rfl))
  f332 := Tryz.func193.trans (congrArg some (by kernel_rfl))
  f343 := Tryz.func195.trans (congrArg some (by kernel_rfl))
  t0 := Tryz.underlying0
  a0 := Tryz.isAgg0
  z0 := Tryz.sizeOf0
  v0 := Tryz.zeroValue0
  t3 := Tryz.underlying3
  a3 := Tryz.isAgg3
  z3 := Tryz.sizeOf3
  v3 := Tryz.zeroValue3
  t4 := Tryz.underlying4
  a4 := Tryz.isAgg4
  z4 := Tryz.sizeOf4
  v4 := Tryz.zeroValue4
  t5 := Tryz.underlying5
  a5 := Tryz.isAgg5
  z5 := Tryz.sizeOf5
  v5 := Tryz.zeroValue5
  t9 := Tryz.underlying9
  a9 := Tryz.isAgg9
  z9 := Tryz.sizeOf9
  v9 := Tryz.zeroValue9
  t28 := Tryz.underlying71
  a28 := Tryz.isAgg71
  z28 := Tryz.sizeOf71
  v28 := Tryz.zeroValue71
  t46 := Tryz.underlying204
  a46 := Tryz.isAgg204
  z46 := Tryz.sizeOf204
  v46 := Tryz.zeroValue204
  t51 := Tryz.underlying234
  a51 := Tryz.isAgg234
  z51 := Tryz.sizeOf234
  v51 := Tryz.zeroValue234
  t53 := Tryz.underlying195
  a53 := Tryz.isAgg195
  z53 := Tryz.sizeOf195
  v53 := Tryz.zeroValue195
  t131 := Tryz.underlying93
  a131 := Tryz.isAgg93
  z131 := Tryz.sizeOf93
  v131 := Tryz.zeroValue93
  t182 := Tryz.underlying227
  a182 := Tryz.isAgg227
  z182 := Tryz.sizeOf227
  v182 := Tryz.zeroValue227
  t183 := Tryz.underlying228
  a183 := Tryz.isAgg228
  z183 := Tryz.sizeOf228
  v183 := Tryz.zeroValue228
  t218 := Tryz.underlying248
  a218 := Tryz.isAgg248
  z218 := Tryz.sizeOf248
  v218 := Tryz.zeroValue248
  t222 := Tryz.underlying88
  a222 := Tryz.isAgg88
  z222 := Tryz.sizeOf88
  v222 := Tryz.zeroValue88
  t228 := Tryz.underlying266
  a228 := Tryz.isAgg266
  z228 := Tryz.sizeOf266
  v228 := Tryz.zeroValue266
  t229 := Tryz.underlying43
  a229 := Tryz.isAgg43
  z229 := Tryz.sizeOf43
  v229 := Tryz.zeroValue43 }
open Go.Sort Go.RowKit in
theorem Tryz.slices_Sort_int (blk off cap : Nat) (zs : List Int) (w : World) (hH : Holds (Value.int .i64) w blk off zs.toArray) (hblk : blk < w.heap.size) (hsz : zs.length < 4611686018427387904) :
    Calls Tryz.prog 128 #[.slice (some ⟨blk, off, none⟩) zs.length cap] w fun e w' =>
      e = .returned (.tuple #[]) ∧ ∃ n os, w' = grow (putRow (Value.int .i64) (Sort.ahead w n) blk off (zs.mergeSort fun x y => decide (x ≤ y)).toArray) os := Any.slices_Sort_int Tryz.lays189 blk off cap zs w hH hblk hsz
open Go.RowKit Go.Sort in
/-- .. and plain. (LAID: no walk: one application.) -/
theorem Tryz.slices_Sort_int_none (p : Option Addr) (cap : Nat) (w : World) :
    Calls Tryz.prog 128 #[.slice p 0 cap] w fun e w' => e = .returned (.tuple #[]) ∧ w' = w := Any.slices_Sort_int_none Tryz.lays189 p cap w
end Go.Proofs
