/- DERIVED: THE SHELF's CONTRACTS AT THIS DUMP, IN PLAIN WORDS (tools/lay-plain.mjs out of 'YtfgeipapmdhneaaDoorShRaw.lean', which tools/lay-shelf.mjs wrote): THE SAME DECLARATIONS UNDER THE SAME NAMES: 'import', 'namespace', 'open', 'def', 'theorem' AND NOTHING ELSE: no command of the shelf's: FOR A HAND-IN. Each laying: the table of numbers ('.._ren') and one theorem, a field a fact of the dump's own or the kernel's comparison; each contract: ONE APPLICATION. -/
import Derived.Shelf.Small.Bits
import Derived.Shelf.Small.Wraps
import Derived.Shelf.Strconv.Itoa0
import Derived.Shelf.Sort.Plain
import Derived.Ground.Names2Prog
import Derived.Shelf.Slices.SearchI
import Derived.Shelf.Slices.In.SortNone
import Derived.Test.YtfgeipapmdhneaaDoorProg
namespace Go.Proofs
open Go.Shelf
def Tryd.lays189_ren : Go.Shelf.Ren := ⟨fun | 189 => 49 | 125 => 60 | 257 => 59 | 128 => 75 | 129 => 76 | 294 => 66 | 295 => 67 | 296 => 68 | 297 => 69 | 298 => 70 | 299 => 71 | 216 => 72 | 300 => 73 | 301 => 74 | 328 => 81 | 329 => 82 | 330 => 83 | 331 => 84 | 332 => 85 | 215 => 86 | 343 => 90 | n => n, fun | 28 => 24 | 3 => 3 | 46 => 106 | 0 => 0 | 51 => 133 | 53 => 135 | 4 => 4 | 183 => 126 | 182 => 125 | 131 => 130 | 5 => 5 | 9 => 9 | 218 => 141 | 222 => 145 | 228 => 150 | 229 => 151 | n => n, fun | n => n⟩
theorem Tryd.lays189 : Go.Proofs.Lays.n189 Tryd.prog Tryd.lays189_ren := {
  mixed := by kernel_rfl
  f125 := Tryd.func60.trans (congrArg some (by kernel_rfl))
  f128 := Tryd.func75.trans (congrArg some (by kernel_rfl))
  f129 := Tryd.func76.trans (congrArg some (by kernel_rfl))
  f189 := Tryd.func49.trans (congrArg some (by kernel_rfl))
  f215 := Tryd.func86.trans (congrArg some (by kernel_rfl))
  f216 := Tryd.func72.trans (congrArg some (by kernel_rfl))
  f257 := Tryd.func59.trans (congrArg some (by kernel_rfl))
  f294 := Tryd.func66.trans (congrArg some (by kernel_rfl))
  f295 := Tryd.func67.trans (congrArg some (by kernel_rfl))
  f296 := Tryd.func68.trans (congrArg some (by kernel_rfl))
  f297 := Tryd.func69.trans (congrArg some (by kernel_rfl))
  f298 := Tryd.func70.trans (congrArg some (by kernel_rfl))
  f299 := Tryd.func71.trans (congrArg some (by kernel_rfl))
  f300 := Tryd.func73.trans (congrArg some (by kernel_rfl))
  f301 := Tryd.func74.trans (congrArg some (by kernel_rfl))
  f328 := Tryd.func81.trans (congrArg some (by kernel_rfl))
  f329 := Tryd.func82.trans (congrArg some (by kernel_rfl))
  f330 := Tryd.func83.trans (congrArg some (by kernel_rfl))
  f331 := Tryd.func84.trans (congrArg some (by kernel_rfl))
  f332 := Tryd.func85.trans (congrArg some (by kernel_rfl))
  f343 := Tryd.func90.trans (congrArg some (by kernel_rfl))
  t0 := Tryd.underlying0
  a0 := Tryd.isAgg0
  z0 := Tryd.sizeOf0
  v0 := Tryd.zeroValue0
  t3 := Tryd.underlying3
  a3 := Tryd.isAgg3
  z3 := Tryd.sizeOf3
  v3 := Tryd.zeroValue3
  t4 := Tryd.underlying4
  a4 := Tryd.isAgg4
  z4 := Tryd.sizeOf4
  v4 := Tryd.zeroValue4
  t5 := Tryd.underlying5
  a5 := Tryd.isAgg5
  z5 := Tryd.sizeOf5
  v5 := Tryd.zeroValue5
  t9 := Tryd.underlying9
  a9 := Tryd.isAgg9
  z9 := Tryd.sizeOf9
  v9 := Tryd.zeroValue9
  t28 := Tryd.underlying24
  a28 := Tryd.isAgg24
  z28 := Tryd.sizeOf24
  v28 := Tryd.zeroValue24
  t46 := Tryd.underlying106
  a46 := Tryd.isAgg106
  z46 := Tryd.sizeOf106
  v46 := Tryd.zeroValue106
  t51 := Tryd.underlying133
  a51 := Tryd.isAgg133
  z51 := Tryd.sizeOf133
  v51 := Tryd.zeroValue133
  t53 := Tryd.underlying135
  a53 := Tryd.isAgg135
  z53 := Tryd.sizeOf135
  v53 := Tryd.zeroValue135
  t131 := Tryd.underlying130
  a131 := Tryd.isAgg130
  z131 := Tryd.sizeOf130
  v131 := Tryd.zeroValue130
  t182 := Tryd.underlying125
  a182 := Tryd.isAgg125
  z182 := Tryd.sizeOf125
  v182 := Tryd.zeroValue125
  t183 := Tryd.underlying126
  a183 := Tryd.isAgg126
  z183 := Tryd.sizeOf126
  v183 := Tryd.zeroValue126
  t218 := Tryd.underlying141
  a218 := Tryd.isAgg141
  z218 := Tryd.sizeOf141
  v218 := Tryd.zeroValue141
  t222 := Tryd.underlying145
  a222 := Tryd.isAgg145
  z222 := Tryd.sizeOf145
  v222 := Tryd.zeroValue145
  t228 := Tryd.underlying150
  a228 := Tryd.isAgg150
  z228 := Tryd.sizeOf150
  v228 := Tryd.zeroValue150
  t229 := Tryd.underlying151
  a229 := Tryd.isAgg151
  z229 := Tryd.sizeOf151
  v229 := Tryd.zeroValue151 }
open Go.Sort Go.RowKit in
theorem Tryd.slices_Sort_int (blk off cap : Nat) (zs : List Int) (w : World) (hH : Holds (Value.int .i64) w blk off zs.toArray) (hblk : blk < w.heap.size) (hsz : zs.length < 4611686018427387904) :
    Calls Tryd.prog 49 #[.slice (some ⟨blk, off, none⟩) zs.length cap] w fun e w' =>
      e = .returned (.tuple #[]) ∧ ∃ n os, w' = grow (putRow (Value.int .i64) (Sort.ahead w n) blk off (zs.mergeSort fun x y => decide (x ≤ y)).toArray) os := Any.slices_Sort_int Tryd.lays189 blk off cap zs w hH hblk hsz
open Go.RowKit Go.Sort in
/-- .. and plain. (LAID: no walk: one application.) -/
theorem Tryd.slices_Sort_int_none (p : Option Addr) (cap : Nat) (w : World) :
    Calls Tryd.prog 49 #[.slice p 0 cap] w fun e w' => e = .returned (.tuple #[]) ∧ w' = w := Any.slices_Sort_int_none Tryd.lays189 p cap w
end Go.Proofs
