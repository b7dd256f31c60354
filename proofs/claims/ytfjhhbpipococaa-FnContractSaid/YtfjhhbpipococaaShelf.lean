/- Contracts of functions that the laws of this seat call. -/
import Derived.Shelf.Sort.Plain
import Derived.Shelf.Slices.CompactI
import Derived.Shelf.Slices.SearchI
import Derived.Shelf.Slices.Delete
import Derived.Shelf.Slices.Cells
import Derived.Shelf.Slices.In.SortNone
import Derived.Shelf.Slices.Empties
import Derived.Test.YtfjhhbpipococaaProg
set_option linter.all false
namespace Go.Proofs.Ytfjhhbpipococaa
open Go.Shelf
def Try.lays189_ren : Go.Shelf.Ren := ⟨fun | 189 => 91 | 125 => 100 | 257 => 99 | 128 => 110 | 129 => 111 | 294 => 101 | 295 => 102 | 296 => 103 | 297 => 104 | 298 => 105 | 299 => 106 | 216 => 107 | 300 => 108 | 301 => 109 | 328 => 112 | 329 => 113 | 330 => 114 | 331 => 115 | 332 => 116 | 215 => 117 | 343 => 118 | n => n, fun | 28 => 24 | 3 => 3 | 46 => 98 | 0 => 0 | 51 => 108 | 53 => 110 | 4 => 4 | 183 => 101 | 182 => 100 | 131 => 105 | 5 => 5 | 9 => 9 | 218 => 111 | 222 => 115 | 228 => 117 | 229 => 50 | n => n, fun | n => n⟩
theorem Try.lays189 : Go.Proofs.Lays.n189 Try.prog Try.lays189_ren := {
  mixed := by kernel_rfl
  f125 := Try.func100.trans (congrArg some (by kernel_rfl))
  f128 := Try.func110.trans (congrArg some (by kernel_rfl))
  f129 := Try.func111.trans (congrArg some (by kernel_rfl))
  f189 := Try.func91.trans (congrArg some (by kernel_rfl))
  f215 := Try.func117.trans (congrArg some (by kernel_rfl))
  f216 := Try.func107.trans (congrArg some (by kernel_rfl))
  f257 := Try.func99.trans (congrArg some (by kernel_rfl))
  f294 := Try.func101.trans (congrArg some (by kernel_rfl))
  f295 := Try.func102.trans (congrArg some (by kernel_rfl))
  f296 := Try.func103.trans (congrArg some (by kernel_rfl))
  f297 := Try.func104.trans (congrArg some (by kernel_rfl))
  f298 := Try.func105.trans (congrArg some (by kernel_rfl))
  f299 := Try.func106.trans (congrArg some (by kernel_rfl))
  f300 := Try.func108.trans (congrArg some (by kernel_rfl))
  f301 := Try.func109.trans (congrArg some (by kernel_rfl))
  f328 := Try.func112.trans (congrArg some (by kernel_rfl))
  f329 := Try.func113.trans (congrArg some (by kernel_rfl))
  f330 := Try.func114.trans (congrArg some (by kernel_rfl))
  f331 := Try.func115.trans (congrArg some (by kernel_rfl))
  f332 := Try.func116.trans (congrArg some (by kernel_rfl))
  f343 := Try.func118.trans (congrArg some (by kernel_rfl))
  t0 := Try.underlying0
  a0 := Try.isAgg0
  z0 := Try.sizeOf0
  v0 := Try.zeroValue0
  t3 := Try.underlying3
  a3 := Try.isAgg3
  z3 := Try.sizeOf3
  v3 := Try.zeroValue3
  t4 := Try.underlying4
  a4 := Try.isAgg4
  z4 := Try.sizeOf4
  v4 := Try.zeroValue4
  t5 := Try.underlying5
  a5 := Try.isAgg5
  z5 := Try.sizeOf5
  v5 := Try.zeroValue5
  t9 := Try.underlying9
  a9 := Try.isAgg9
  z9 := Try.sizeOf9
  v9 := Try.zeroValue9
  t28 := Try.underlying24
  a28 := Try.isAgg24
  z28 := Try.sizeOf24
  v28 := Try.zeroValue24
  t46 := Try.underlying98
  a46 := Try.isAgg98
  z46 := Try.sizeOf98
  v46 := Try.zeroValue98
  t51 := Try.underlying108
  a51 := Try.isAgg108
  z51 := Try.sizeOf108
  v51 := Try.zeroValue108
  t53 := Try.underlying110
  a53 := Try.isAgg110
  z53 := Try.sizeOf110
  v53 := Try.zeroValue110
  t131 := Try.underlying105
  a131 := Try.isAgg105
  z131 := Try.sizeOf105
  v131 := Try.zeroValue105
  t182 := Try.underlying100
  a182 := Try.isAgg100
  z182 := Try.sizeOf100
  v182 := Try.zeroValue100
  t183 := Try.underlying101
  a183 := Try.isAgg101
  z183 := Try.sizeOf101
  v183 := Try.zeroValue101
  t218 := Try.underlying111
  a218 := Try.isAgg111
  z218 := Try.sizeOf111
  v218 := Try.zeroValue111
  t222 := Try.underlying115
  a222 := Try.isAgg115
  z222 := Try.sizeOf115
  v222 := Try.zeroValue115
  t228 := Try.underlying117
  a228 := Try.isAgg117
  z228 := Try.sizeOf117
  v228 := Try.zeroValue117
  t229 := Try.underlying50
  a229 := Try.isAgg50
  z229 := Try.sizeOf50
  v229 := Try.zeroValue50 }
open Go.Sort Go.RowKit in
theorem Try.slices_Sort_int (blk off cap : Nat) (zs : List Int) (w : World) (hH : Holds (Value.int .i64) w blk off zs.toArray) (hblk : blk < w.heap.size) (hsz : zs.length < 4611686018427387904) :
    Calls Try.prog 91 #[.slice (some ⟨blk, off, none⟩) zs.length cap] w fun e w' =>
      e = .returned (.tuple #[]) ∧ ∃ n os, w' = grow (putRow (Value.int .i64) (Sort.ahead w n) blk off (zs.mergeSort fun x y => decide (x ≤ y)).toArray) os := Any.slices_Sort_int Try.lays189 blk off cap zs w hH hblk hsz
def Try.laysNm220_ren : Go.Shelf.Ren := ⟨fun | 20 => 92 | n => n, fun | 22 => 24 | 3 => 3 | 4 => 4 | 0 => 0 | n => n, fun | n => n⟩
theorem Try.laysNm220 : Go.Proofs.Lays2.n20 Try.prog Try.laysNm220_ren := {
  mixed := by kernel_rfl
  f20 := Try.func92.trans (congrArg some (by kernel_rfl))
  t0 := Try.underlying0
  a0 := Try.isAgg0
  z0 := Try.sizeOf0
  v0 := Try.zeroValue0
  t3 := Try.underlying3
  a3 := Try.isAgg3
  z3 := Try.sizeOf3
  v3 := Try.zeroValue3
  t4 := Try.underlying4
  a4 := Try.isAgg4
  z4 := Try.sizeOf4
  v4 := Try.zeroValue4
  t22 := Try.underlying24
  a22 := Try.isAgg24
  z22 := Try.sizeOf24
  v22 := Try.zeroValue24
  i3 := by kernel_rfl }
open Go.RowKit Go.Lib Go.Sort in
theorem Try.slices_Compact_int (blk off cap : Nat) (zs : List Int) (w : World) (hH : Holds (Value.int .i64) w blk off zs.toArray) (hsz : zs.length ≤ 9223372036854775807) (hcap : zs.length ≤ cap) :
    Calls Try.prog 92 #[.slice (some ⟨blk, off, none⟩) zs.length cap] w fun e w' => e = .returned (.slice (some ⟨blk, off, none⟩) (Lib.compact zs).length cap) ∧ ∃ q, w' = putRow (Value.int .i64) (Sort.ahead w q) blk off (Lib.compact zs ++ List.replicate (zs.length - (Lib.compact zs).length) 0).toArray := Any.slices_Compact_int Try.laysNm220 blk off cap zs w hH hsz hcap
open Go.RowKit Go.Lib Go.Sort in
theorem Try.slices_Compact_int_empty (a : Option Addr) (cap : Nat) (w : World) :
    Calls Try.prog 92 #[.slice a 0 cap] w fun e w' => e = .returned (.slice a 0 cap) ∧ w' = w := Any.slices_Compact_int_empty Try.laysNm220 a cap w
def Try.laysNm223_ren : Go.Shelf.Ren := ⟨fun | 23 => 67 | n => n, fun | 22 => 24 | 3 => 3 | 4 => 4 | 0 => 0 | n => n, fun | n => n⟩
theorem Try.laysNm223 : Go.Proofs.Lays2.n23 Try.prog Try.laysNm223_ren := {
  mixed := by kernel_rfl
  f23 := Try.func67.trans (congrArg some (by kernel_rfl))
  t0 := Try.underlying0
  a0 := Try.isAgg0
  z0 := Try.sizeOf0
  v0 := Try.zeroValue0
  t3 := Try.underlying3
  a3 := Try.isAgg3
  z3 := Try.sizeOf3
  v3 := Try.zeroValue3
  t4 := Try.underlying4
  a4 := Try.isAgg4
  z4 := Try.sizeOf4
  v4 := Try.zeroValue4
  t22 := Try.underlying24
  a22 := Try.isAgg24
  z22 := Try.sizeOf24
  v22 := Try.zeroValue24
  i3 := by kernel_rfl }
open Go.RowKit Go.Lib Go.Sort in
theorem Try.slices_Delete_int (blk off cap i j : Nat) (zs : List Int) (w : World) (hH : Holds (Value.int .i64) w blk off zs.toArray) (hcap : zs.length ≤ cap) (hm : cap ≤ 9223372036854775807) (hij : i ≤ j) (hj : j ≤ zs.length) :
    Calls Try.prog 67 #[.slice (some ⟨blk, off, none⟩) zs.length cap, .int .i64 i, .int .i64 j] w fun e w' => e = .returned (.slice (some ⟨blk, off, none⟩) (zs.length - (j - i)) cap) ∧ ∃ q, w' = putRow (Value.int .i64) (Sort.ahead w q) blk off (zs.take i ++ zs.drop j ++ List.replicate (j - i) 0).toArray := Any.slices_Delete_int Try.laysNm223 blk off cap i j zs w hH hcap hm hij hj
open Go.RowKit Go.Sort in
theorem Try.slices_Sort_int_none (p : Option Addr) (cap : Nat) (w : World) :
    Calls Try.prog 91 #[.slice p 0 cap] w fun e w' => e = .returned (.tuple #[]) ∧ w' = w := Any.slices_Sort_int_none Try.lays189 p cap w
open Go.RowKit Go.Lib in
theorem Try.slices_Delete_int_empty (a : Option Addr) (c : Nat) (w : World) :
    Calls Try.prog 67 #[.slice a 0 c, .int .i64 0, .int .i64 0] w fun e w' => e = .returned (.slice a 0 c) ∧ w' = w := Any.slices_Delete_int_empty Try.laysNm223 a c w

end Go.Proofs.Ytfjhhbpipococaa
