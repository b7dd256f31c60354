/- Contracts of functions that the laws of this seat call. -/
import Derived.Shelf.Sort.Plain
import Derived.Shelf.Slices.CompactI
import Derived.Shelf.Slices.In.SortNone
import Derived.Test.YtokpibajolhelaaGreatProg
set_option linter.all false
namespace Go.Proofs.YtokpibajolhelaaGreat
open Go.Shelf
def Tryz.lays189_ren : Go.Shelf.Ren := ⟨fun | 189 => 85 | 125 => 119 | 257 => 118 | 128 => 146 | 129 => 147 | 294 => 137 | 295 => 138 | 296 => 139 | 297 => 140 | 298 => 141 | 299 => 142 | 216 => 143 | 300 => 144 | 301 => 145 | 328 => 154 | 329 => 155 | 330 => 156 | 331 => 157 | 332 => 158 | 215 => 159 | 343 => 162 | n => n, fun | 28 => 23 | 3 => 3 | 46 => 108 | 0 => 0 | 51 => 129 | 53 => 131 | 4 => 4 | 183 => 122 | 182 => 121 | 131 => 126 | 5 => 5 | 9 => 9 | 218 => 134 | 222 => 138 | 228 => 140 | 229 => 141 | n => n, fun | n => n⟩
theorem Tryz.lays189 : Go.Proofs.Lays.n189 Tryz.prog Tryz.lays189_ren := {
  mixed := by kernel_rfl
  f125 := Tryz.func119.trans (congrArg some (by kernel_rfl))
  f128 := Tryz.func146.trans (congrArg some (by kernel_rfl))
  f129 := Tryz.func147.trans (congrArg some (by kernel_rfl))
  f189 := Tryz.func85.trans (congrArg some (by kernel_rfl))
  f215 := Tryz.func159.trans (congrArg some (by kernel_rfl))
  f216 := Tryz.func143.trans (congrArg some (by kernel_rfl))
  f257 := Tryz.func118.trans (congrArg some (by kernel_rfl))
  f294 := Tryz.func137.trans (congrArg some (by kernel_rfl))
  f295 := Tryz.func138.trans (congrArg some (by kernel_rfl))
  f296 := Tryz.func139.trans (congrArg some (by kernel_rfl))
  f297 := Tryz.func140.trans (congrArg some (by kernel_rfl))
  f298 := Tryz.func141.trans (congrArg some (by kernel_rfl))
  f299 := Tryz.func142.trans (congrArg some (by kernel_rfl))
  f300 := Tryz.func144.trans (congrArg some (by kernel_rfl))
  f301 := Tryz.func145.trans (congrArg some (by kernel_rfl))
  f328 := Tryz.func154.trans (congrArg some (by kernel_rfl))
  f329 := Tryz.func155.trans (congrArg some (by kernel_rfl))
  f330 := Tryz.func156.trans (congrArg some (by kernel_rfl))
  f331 := Tryz.func157.trans (congrArg some (by kernel_rfl))
  f332 := Tryz.func158.trans (congrArg some (by kernel_rfl))
  f343 := Tryz.func162.trans (congrArg some (by kernel_rfl))
  t0 := Tryz.underlying0
  a0 := Tryz.isAgg0
  z0 := Tryz.sizeOf0
  v0 := Tryz.zeroValue0
  t3 := Tryz.underlying3
  a3 := Tryz.isAgg3
  z3 := Tryz.sizeOf3
  v3 := Tryz.zeroValue3
  t4 := Tryz.underlying4
  a4 := Tryz.isAgg4
  z4 := Tryz.sizeOf4
  v4 := Tryz.zeroValue4
  t5 := Tryz.underlying5
  a5 := Tryz.isAgg5
  z5 := Tryz.sizeOf5
  v5 := Tryz.zeroValue5
  t9 := Tryz.underlying9
  a9 := Tryz.isAgg9
  z9 := Tryz.sizeOf9
  v9 := Tryz.zeroValue9
  t28 := Tryz.underlying23
  a28 := Tryz.isAgg23
  z28 := Tryz.sizeOf23
  v28 := Tryz.zeroValue23
  t46 := Tryz.underlying108
  a46 := Tryz.isAgg108
  z46 := Tryz.sizeOf108
  v46 := Tryz.zeroValue108
  t51 := Tryz.underlying129
  a51 := Tryz.isAgg129
  z51 := Tryz.sizeOf129
  v51 := Tryz.zeroValue129
  t53 := Tryz.underlying131
  a53 := Tryz.isAgg131
  z53 := Tryz.sizeOf131
  v53 := Tryz.zeroValue131
  t131 := Tryz.underlying126
  a131 := Tryz.isAgg126
  z131 := Tryz.sizeOf126
  v131 := Tryz.zeroValue126
  t182 := Tryz.underlying121
  a182 := Tryz.isAgg121
  z182 := Tryz.sizeOf121
  v182 := Tryz.zeroValue121
  t183 := Tryz.underlying122
  a183 := Tryz.isAgg122
  z183 := Tryz.sizeOf122
  v183 := Tryz.zeroValue122
  t218 := Tryz.underlying134
  a218 := Tryz.isAgg134
  z218 := Tryz.sizeOf134
  v218 := Tryz.zeroValue134
  t222 := Tryz.underlying138
  a222 := Tryz.isAgg138
  z222 := Tryz.sizeOf138
  v222 := Tryz.zeroValue138
  t228 := Tryz.underlying140
  a228 := Tryz.isAgg140
  z228 := Tryz.sizeOf140
  v228 := Tryz.zeroValue140
  t229 := Tryz.underlying141
  a229 := Tryz.isAgg141
  z229 := Tryz.sizeOf141
  v229 := Tryz.zeroValue141 }
open Go.Sort Go.RowKit in
theorem Tryz.slices_Sort_int (blk off cap : Nat) (zs : List Int) (w : World) (hH : Holds (Value.int .i64) w blk off zs.toArray) (hblk : blk < w.heap.size) (hsz : zs.length < 4611686018427387904) :
    Calls Tryz.prog 85 #[.slice (some ⟨blk, off, none⟩) zs.length cap] w fun e w' =>
      e = .returned (.tuple #[]) ∧ ∃ n os, w' = grow (putRow (Value.int .i64) (Sort.ahead w n) blk off (zs.mergeSort fun x y => decide (x ≤ y)).toArray) os := Any.slices_Sort_int Tryz.lays189 blk off cap zs w hH hblk hsz
def Tryz.laysNm220_ren : Go.Shelf.Ren := ⟨fun | 20 => 86 | n => n, fun | 22 => 23 | 3 => 3 | 4 => 4 | 0 => 0 | n => n, fun | n => n⟩
theorem Tryz.laysNm220 : Go.Proofs.Lays2.n20 Tryz.prog Tryz.laysNm220_ren := {
  mixed := by kernel_rfl
  f20 := Tryz.func86.trans (congrArg some (by kernel_rfl))
  t0 := Tryz.underlying0
  a0 := Tryz.isAgg0
  z0 := Tryz.sizeOf0
  v0 := Tryz.zeroValue0
  t3 := Tryz.underlying3
  a3 := Tryz.isAgg3
  z3 := Tryz.sizeOf3
  v3 := Tryz.zeroValue3
  t4 := Tryz.underlying4
  a4 := Tryz.isAgg4
  z4 := Tryz.sizeOf4
  v4 := Tryz.zeroValue4
  t22 := Tryz.underlying23
  a22 := Tryz.isAgg23
  z22 := Tryz.sizeOf23
  v22 := Tryz.zeroValue23
  i3 := by kernel_rfl }
open Go.RowKit Go.Lib Go.Sort in
theorem Tryz.slices_Compact_int (blk off cap : Nat) (zs : List Int) (w : World) (hH : Holds (Value.int .i64) w blk off zs.toArray) (hsz : zs.length ≤ 9223372036854775807) (hcap : zs.length ≤ cap) :
    Calls Tryz.prog 86 #[.slice (some ⟨blk, off, none⟩) zs.length cap] w fun e w' => e = .returned (.slice (some ⟨blk, off, none⟩) (Lib.compact zs).length cap) ∧ ∃ q, w' = putRow (Value.int .i64) (Sort.ahead w q) blk off (Lib.compact zs ++ List.replicate (zs.length - (Lib.compact zs).length) 0).toArray := Any.slices_Compact_int Tryz.laysNm220 blk off cap zs w hH hsz hcap
open Go.RowKit Go.Lib Go.Sort in
theorem Tryz.slices_Compact_int_empty (a : Option Addr) (cap : Nat) (w : World) :
    Calls Tryz.prog 86 #[.slice a 0 cap] w fun e w' => e = .returned (.slice a 0 cap) ∧ w' = w := Any.slices_Compact_int_empty Tryz.laysNm220 a cap w
open Go.RowKit Go.Sort in
theorem Tryz.slices_Sort_int_none (p : Option Addr) (cap : Nat) (w : World) :
    Calls Tryz.prog 85 #[.slice p 0 cap] w fun e w' => e = .returned (.tuple #[]) ∧ w' = w := Any.slices_Sort_int_none Tryz.lays189 p cap w

end Go.Proofs.YtokpibajolhelaaGreat
