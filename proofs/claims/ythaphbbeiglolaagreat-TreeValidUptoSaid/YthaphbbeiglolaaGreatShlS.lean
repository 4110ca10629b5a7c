/-
  The library's sort, Compact, Equal, Contains at texts: their contracts laid at this program.
-/
import Derived.Test.YthaphbbeiglolaaGreatProg
import Derived.Shelf.Sort.Plain
import Derived.Shelf.Slices.In.SortNone
import Derived.Shelf.Slices.CompactS
import Derived.Shelf.Slices.Equal
import Derived.Shelf.Slices.Empties2
import Derived.Shelf.Slices.Turned
namespace Go.Proofs.YthaphbbeiglolaaGreat
open Go.RowKit Go.Shelf Go.Sort

def lays190_ren : Go.Shelf.Ren := ⟨fun | 190 => 47 | 125 => 80 | 258 => 79 | 128 => 106 | 129 => 107 | 302 => 97 | 303 => 98 | 304 => 99 | 305 => 100 | 306 => 101 | 307 => 102 | 308 => 103 | 309 => 104 | 310 => 105 | 333 => 116 | 329 => 117 | 330 => 118 | 334 => 119 | 335 => 120 | 336 => 121 | 344 => 126 | n => n, fun | 31 => 45 | 9 => 9 | 3 => 3 | 46 => 106 | 0 => 0 | 51 => 124 | 53 => 95 | 4 => 4 | 183 => 116 | 182 => 115 | 131 => 121 | 5 => 5 | 218 => 132 | 222 => 49 | 228 => 138 | 229 => 111 | n => n, fun | n => n⟩
theorem lays190 : Go.Proofs.Lays.n190 Tryz.prog lays190_ren := {
  mixed := by kernel_rfl
  f125 := Tryz.func80.trans (congrArg some (by kernel_rfl))
  f128 := Tryz.func106.trans (congrArg some (by kernel_rfl))
  f129 := Tryz.func107.trans (congrArg some (by kernel_rfl))
  f190 := Tryz.func47.trans (congrArg some (by kernel_rfl))
  f258 := Tryz.func79.trans (congrArg some (by kernel_rfl))
  f302 := Tryz.func97.trans (congrArg some (by kernel_rfl))
  f303 := Tryz.func98.trans (congrArg some (by kernel_rfl))
  f304 := Tryz.func99.trans (congrArg some (by kernel_rfl))
  f305 := Tryz.func100.trans (congrArg some (by kernel_rfl))
  f306 := Tryz.func101.trans (congrArg some (by kernel_rfl))
  f307 := Tryz.func102.trans (congrArg some (by kernel_rfl))
  f308 := Tryz.func103.trans (congrArg some (by kernel_rfl))
  f309 := Tryz.func104.trans (congrArg some (by kernel_rfl))
  f310 := Tryz.func105.trans (congrArg some (by kernel_rfl))
  f329 := Tryz.func117.trans (congrArg some (by kernel_rfl))
  f330 := Tryz.func118.trans (congrArg some (by kernel_rfl))
  f333 := Tryz.func116.trans (congrArg some (by kernel_rfl))
  f334 := Tryz.func119.trans (congrArg some (by kernel_rfl))
  f335 := Tryz.func120.trans (congrArg some (by kernel_rfl))
  f336 := Tryz.func121.trans (congrArg some (by kernel_rfl))
  f344 := Tryz.func126.trans (congrArg some (by kernel_rfl))
  t0 := Tryz.underlying0
  a0 := Tryz.isAgg0
  z0 := Tryz.sizeOf0
  v0 := Tryz.zeroValue0
  t3 := Tryz.underlying3
  a3 := Tryz.isAgg3
  z3 := Tryz.sizeOf3
  v3 := Tryz.zeroValue3
  t4 := Tryz.underlying4
  a4 := Tryz.isAgg4
  z4 := Tryz.sizeOf4
  v4 := Tryz.zeroValue4
  t5 := Tryz.underlying5
  a5 := Tryz.isAgg5
  z5 := Tryz.sizeOf5
  v5 := Tryz.zeroValue5
  t9 := Tryz.underlying9
  a9 := Tryz.isAgg9
  z9 := Tryz.sizeOf9
  v9 := Tryz.zeroValue9
  t31 := Tryz.underlying45
  a31 := Tryz.isAgg45
  z31 := Tryz.sizeOf45
  v31 := Tryz.zeroValue45
  t46 := Tryz.underlying106
  a46 := Tryz.isAgg106
  z46 := Tryz.sizeOf106
  v46 := Tryz.zeroValue106
  t51 := Tryz.underlying124
  a51 := Tryz.isAgg124
  z51 := Tryz.sizeOf124
  v51 := Tryz.zeroValue124
  t53 := Tryz.underlying95
  a53 := Tryz.isAgg95
  z53 := Tryz.sizeOf95
  v53 := Tryz.zeroValue95
  t131 := Tryz.underlying121
  a131 := Tryz.isAgg121
  z131 := Tryz.sizeOf121
  v131 := Tryz.zeroValue121
  t182 := Tryz.underlying115
  a182 := Tryz.isAgg115
  z182 := Tryz.sizeOf115
  v182 := Tryz.zeroValue115
  t183 := Tryz.underlying116
  a183 := Tryz.isAgg116
  z183 := Tryz.sizeOf116
  v183 := Tryz.zeroValue116
  t218 := Tryz.underlying132
  a218 := Tryz.isAgg132
  z218 := Tryz.sizeOf132
  v218 := Tryz.zeroValue132
  t222 := Tryz.underlying49
  a222 := Tryz.isAgg49
  z222 := Tryz.sizeOf49
  v222 := Tryz.zeroValue49
  t228 := Tryz.underlying138
  a228 := Tryz.isAgg138
  z228 := Tryz.sizeOf138
  v228 := Tryz.zeroValue138
  t229 := Tryz.underlying111
  a229 := Tryz.isAgg111
  z229 := Tryz.sizeOf111
  v229 := Tryz.zeroValue111 }
def lays194_ren : Go.Shelf.Ren := ⟨fun | 194 => 48 | n => n, fun | 31 => 45 | 9 => 9 | 3 => 3 | 4 => 4 | 0 => 0 | n => n, fun | n => n⟩
theorem lays194 : Go.Proofs.Lays.n194 Tryz.prog lays194_ren := {
  mixed := by kernel_rfl
  f194 := Tryz.func48.trans (congrArg some (by kernel_rfl))
  t0 := Tryz.underlying0
  a0 := Tryz.isAgg0
  z0 := Tryz.sizeOf0
  v0 := Tryz.zeroValue0
  t3 := Tryz.underlying3
  a3 := Tryz.isAgg3
  z3 := Tryz.sizeOf3
  v3 := Tryz.zeroValue3
  t4 := Tryz.underlying4
  a4 := Tryz.isAgg4
  z4 := Tryz.sizeOf4
  v4 := Tryz.zeroValue4
  t9 := Tryz.underlying9
  a9 := Tryz.isAgg9
  z9 := Tryz.sizeOf9
  v9 := Tryz.zeroValue9
  t31 := Tryz.underlying45
  a31 := Tryz.isAgg45
  z31 := Tryz.sizeOf45
  v31 := Tryz.zeroValue45 }
def lays193_ren : Go.Shelf.Ren := ⟨fun | 193 => 18 | n => n, fun | 31 => 45 | 9 => 9 | 4 => 4 | 3 => 3 | 0 => 0 | n => n, fun | n => n⟩
theorem lays193 : Go.Proofs.Lays.n193 Tryz.prog lays193_ren := {
  mixed := by kernel_rfl
  f193 := Tryz.func18.trans (congrArg some (by kernel_rfl))
  t0 := Tryz.underlying0
  a0 := Tryz.isAgg0
  z0 := Tryz.sizeOf0
  v0 := Tryz.zeroValue0
  t3 := Tryz.underlying3
  a3 := Tryz.isAgg3
  z3 := Tryz.sizeOf3
  v3 := Tryz.zeroValue3
  t4 := Tryz.underlying4
  a4 := Tryz.isAgg4
  z4 := Tryz.sizeOf4
  v4 := Tryz.zeroValue4
  t9 := Tryz.underlying9
  a9 := Tryz.isAgg9
  z9 := Tryz.sizeOf9
  v9 := Tryz.zeroValue9
  t31 := Tryz.underlying45
  a31 := Tryz.isAgg45
  z31 := Tryz.sizeOf45
  v31 := Tryz.zeroValue45 }
end Go.Proofs.YthaphbbeiglolaaGreat
