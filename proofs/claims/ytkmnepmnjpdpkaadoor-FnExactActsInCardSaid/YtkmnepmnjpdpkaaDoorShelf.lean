/- Contracts of functions that the laws of this seat call. -/
import Derived.Shelf.Strconv.Atoi
import Derived.Shelf.Strconv.Itoa1
import Derived.Shelf.LaysM
import Derived.Shelf.Strconv.Itoa2
import Derived.Shelf.Strconv.Itoa3
import Derived.Shelf.Strconv.AtoiErrFast
import Derived.Shelf.Strconv.ParseIntEmpty
import Derived.Shelf.Strconv.AtoiFail
import Derived.Shelf.Strconv.Clone
import Derived.Shelf.Strconv.SyntaxError
import Derived.Shelf.LaysC
import Derived.Shelf.Strconv.ToError
import Derived.Shelf.Strconv.Lower
import Derived.Shelf.Strconv.ParseUint10
import Derived.Shelf.Strconv.ParseUint10Empty
import Derived.Shelf.Strconv.ParseUint10Any
import Derived.Shelf.Strconv.ParseInt10
import Derived.Shelf.Strconv.AtoiLong
import Derived.Shelf.Strconv.AtoiInnerAll
import Derived.Shelf.Strconv.RangeError
import Derived.Shelf.Strconv.ToErrorRange
import Derived.Shelf.Strconv.AtoiAll
import Derived.Shelf.Strings.Search1
import Derived.Shelf.Strings.Search2
import Derived.Shelf.Strings.Search3
import Derived.Shelf.Strings.Cut
import Derived.Shelf.Strings.Count
import Derived.Shelf.Strings.Shaped
import Derived.Shelf.Strings.Split
import Derived.Shelf.Unicode.DecodeSlow
import Derived.Test.YtkmnepmnjpdpkaaDoorProg
set_option linter.all false
namespace Go.Proofs.YtkmnepmnjpdpkaaDoor
open Go.Shelf
def Tryd.laysM171_ren : Go.Shelf.Ren := ⟨fun | 171 => 29 | 243 => 39 | 246 => 51 | 283 => 60 | 284 => 61 | 285 => 62 | 286 => 63 | 129 => 72 | 317 => 71 | 318 => 73 | 319 => 74 | 320 => 75 | 337 => 78 | 338 => 79 | n => n, fun | 3 => 3 | 9 => 9 | 2 => 2 | 4 => 4 | 171 => 83 | 0 => 0 | 53 => 75 | 37 => 63 | 5 => 5 | 173 => 86 | 212 => 94 | 51 => 95 | 20 => 20 | 213 => 96 | 46 => 78 | 232 => 105 | 233 => 106 | n => n, fun | 17 => 5 | 18 => 8 | 19 => 9 | n => n⟩
theorem Tryd.laysM171 : Go.Proofs.LaysM.n171 Tryd.prog Tryd.laysM171_ren := {
  mixed := by kernel_rfl
  f129 := Tryd.func72.trans (congrArg some (by kernel_rfl))
  f171 := Tryd.func29.trans (congrArg some (by kernel_rfl))
  f243 := Tryd.func39.trans (congrArg some (by kernel_rfl))
  f246 := Tryd.func51.trans (congrArg some (by kernel_rfl))
  f283 := Tryd.func60.trans (congrArg some (by kernel_rfl))
  f284 := Tryd.func61.trans (congrArg some (by kernel_rfl))
  f285 := Tryd.func62.trans (congrArg some (by kernel_rfl))
  f286 := Tryd.func63.trans (congrArg some (by kernel_rfl))
  f317 := Tryd.func71.trans (congrArg some (by kernel_rfl))
  f318 := Tryd.func73.trans (congrArg some (by kernel_rfl))
  f319 := Tryd.func74.trans (congrArg some (by kernel_rfl))
  f320 := Tryd.func75.trans (congrArg some (by kernel_rfl))
  f337 := Tryd.func78.trans (congrArg some (by kernel_rfl))
  f338 := Tryd.func79.trans (congrArg some (by kernel_rfl))
  t0 := Tryd.underlying0
  a0 := Tryd.isAgg0
  z0 := Tryd.sizeOf0
  v0 := Tryd.zeroValue0
  t2 := Tryd.underlying2
  a2 := Tryd.isAgg2
  z2 := Tryd.sizeOf2
  v2 := Tryd.zeroValue2
  t3 := Tryd.underlying3
  a3 := Tryd.isAgg3
  z3 := Tryd.sizeOf3
  v3 := Tryd.zeroValue3
  t4 := Tryd.underlying4
  a4 := Tryd.isAgg4
  z4 := Tryd.sizeOf4
  v4 := Tryd.zeroValue4
  t5 := Tryd.underlying5
  a5 := Tryd.isAgg5
  z5 := Tryd.sizeOf5
  v5 := Tryd.zeroValue5
  t9 := Tryd.underlying9
  a9 := Tryd.isAgg9
  z9 := Tryd.sizeOf9
  v9 := Tryd.zeroValue9
  t20 := Tryd.underlying20
  a20 := Tryd.isAgg20
  z20 := Tryd.sizeOf20
  v20 := Tryd.zeroValue20
  t37 := Tryd.underlying63
  a37 := Tryd.isAgg63
  z37 := Tryd.sizeOf63
  v37 := Tryd.zeroValue63
  t46 := Tryd.underlying78
  a46 := Tryd.isAgg78
  z46 := Tryd.sizeOf78
  v46 := Tryd.zeroValue78
  t51 := Tryd.underlying95
  a51 := Tryd.isAgg95
  z51 := Tryd.sizeOf95
  v51 := Tryd.zeroValue95
  t53 := Tryd.underlying75
  a53 := Tryd.isAgg75
  z53 := Tryd.sizeOf75
  v53 := Tryd.zeroValue75
  t171 := Tryd.underlying83
  a171 := Tryd.isAgg83
  z171 := Tryd.sizeOf83
  v171 := Tryd.zeroValue83
  t173 := Tryd.underlying86
  a173 := Tryd.isAgg86
  z173 := Tryd.sizeOf86
  v173 := Tryd.zeroValue86
  t212 := Tryd.underlying94
  a212 := Tryd.isAgg94
  z212 := Tryd.sizeOf94
  v212 := Tryd.zeroValue94
  t213 := Tryd.underlying96
  a213 := Tryd.isAgg96
  z213 := Tryd.sizeOf96
  t232 := Tryd.underlying105
  a232 := Tryd.isAgg105
  z232 := Tryd.sizeOf105
  v232 := Tryd.zeroValue105
  t233 := Tryd.underlying106
  a233 := Tryd.isAgg106
  z233 := Tryd.sizeOf106
  v233 := Tryd.zeroValue106
  g17 := by kernel_rfl
  g18 := by kernel_rfl
  g19 := by kernel_rfl
  i0 := by kernel_rfl
  i2 := by kernel_rfl
  i3 := by kernel_rfl
  i4 := by kernel_rfl
  i5 := by kernel_rfl
  i9 := by kernel_rfl
  i20 := by kernel_rfl
  i37 := by kernel_rfl
  i46 := by kernel_rfl
  i51 := by kernel_rfl
  i53 := by kernel_rfl
  i171 := by kernel_rfl
  i173 := by kernel_rfl
  i212 := by kernel_rfl
  i232 := by kernel_rfl
  i233 := by kernel_rfl
  m17 := by kernel_rfl
  m18 := by kernel_rfl
  m19 := by kernel_rfl }
open Go.RowKit Go.Sort Go.Lib in
theorem Tryd.strconv_Itoa (n : Int) (h0 : -9223372036854775808 ≤ n) (h1 : n ≤ 9223372036854775807) (w : World) (htab : Lib.TabIs Tryd.prog w "internal/strconv.uint64pow10" .u64 Lib.pow10Tab) :
    Calls Tryd.prog 29 #[.int .i64 n] w fun e w' => e = .returned (.string ⟨(Lib.itoa n).toArray⟩) ∧ ∃ k os, w' = grow (w.drewN k) os := Any.strconv_Itoa Tryd.laysM171 n h0 h1 w htab
def Tryd.laysC172_ren : Go.Shelf.Ren := ⟨fun | 172 => 28 | 244 => 37 | 245 => 38 | 247 => 46 | 279 => 47 | 280 => 48 | 281 => 49 | 282 => 50 | 287 => 57 | 316 => 58 | 171 => 29 | 205 => 59 | 321 => 69 | 322 => 70 | 243 => 39 | 246 => 51 | 283 => 60 | 284 => 61 | 285 => 62 | 286 => 63 | 129 => 72 | 317 => 71 | 318 => 73 | 319 => 74 | 320 => 75 | 337 => 78 | 338 => 79 | n => n, fun | 9 => 9 | 3 => 3 | 75 => 46 | 76 => 47 | 4 => 4 | 5 => 5 | 167 => 62 | 37 => 63 | 0 => 0 | 85 => 64 | 2 => 2 | 168 => 66 | 53 => 75 | 175 => 76 | 46 => 78 | 210 => 81 | 127 => 89 | 145 => 92 | 143 => 90 | 21 => 21 | 171 => 83 | 173 => 86 | 212 => 94 | 51 => 95 | 20 => 20 | 213 => 96 | 232 => 105 | 233 => 106 | 80 => 107 | n => n, fun | 15 => 2 | 16 => 3 | 17 => 5 | 18 => 8 | 19 => 9 | n => n⟩
theorem Tryd.laysC172 : Go.Proofs.LaysC.n172 Tryd.prog Tryd.laysC172_ren := {
  mixed := by kernel_rfl
  f129 := Tryd.func72.trans (congrArg some (by kernel_rfl))
  f171 := Tryd.func29.trans (congrArg some (by kernel_rfl))
  f172 := Tryd.func28.trans (congrArg some (by kernel_rfl))
  f205 := Tryd.func59.trans (congrArg some (by kernel_rfl))
  f243 := Tryd.func39.trans (congrArg some (by kernel_rfl))
  f244 := Tryd.func37.trans (congrArg some (by kernel_rfl))
  f245 := Tryd.func38.trans (congrArg some (by kernel_rfl))
  f246 := Tryd.func51.trans (congrArg some (by kernel_rfl))
  f247 := Tryd.func46.trans (congrArg some (by kernel_rfl))
  f279 := Tryd.func47.trans (congrArg some (by kernel_rfl))
  f280 := Tryd.func48.trans (congrArg some (by kernel_rfl))
  f281 := Tryd.func49.trans (congrArg some (by kernel_rfl))
  f282 := Tryd.func50.trans (congrArg some (by kernel_rfl))
  f283 := Tryd.func60.trans (congrArg some (by kernel_rfl))
  f284 := Tryd.func61.trans (congrArg some (by kernel_rfl))
  f285 := Tryd.func62.trans (congrArg some (by kernel_rfl))
  f286 := Tryd.func63.trans (congrArg some (by kernel_rfl))
  f287 := Tryd.func57.trans (congrArg some (by kernel_rfl))
  f316 := Tryd.func58.trans (congrArg some (by kernel_rfl))
  f317 := Tryd.func71.trans (congrArg some (by kernel_rfl))
  f318 := Tryd.func73.trans (congrArg some (by kernel_rfl))
  f319 := Tryd.func74.trans (congrArg some (by kernel_rfl))
  f320 := Tryd.func75.trans (congrArg some (by kernel_rfl))
  f321 := Tryd.func69.trans (congrArg some (by kernel_rfl))
  f322 := Tryd.func70.trans (congrArg some (by kernel_rfl))
  f337 := Tryd.func78.trans (congrArg some (by kernel_rfl))
  f338 := Tryd.func79.trans (congrArg some (by kernel_rfl))
  t0 := Tryd.underlying0
  a0 := Tryd.isAgg0
  z0 := Tryd.sizeOf0
  v0 := Tryd.zeroValue0
  t2 := Tryd.underlying2
  a2 := Tryd.isAgg2
  z2 := Tryd.sizeOf2
  v2 := Tryd.zeroValue2
  t3 := Tryd.underlying3
  a3 := Tryd.isAgg3
  z3 := Tryd.sizeOf3
  v3 := Tryd.zeroValue3
  t4 := Tryd.underlying4
  a4 := Tryd.isAgg4
  z4 := Tryd.sizeOf4
  v4 := Tryd.zeroValue4
  t5 := Tryd.underlying5
  a5 := Tryd.isAgg5
  z5 := Tryd.sizeOf5
  v5 := Tryd.zeroValue5
  t9 := Tryd.underlying9
  a9 := Tryd.isAgg9
  z9 := Tryd.sizeOf9
  v9 := Tryd.zeroValue9
  t20 := Tryd.underlying20
  a20 := Tryd.isAgg20
  z20 := Tryd.sizeOf20
  v20 := Tryd.zeroValue20
  t21 := Tryd.underlying21
  a21 := Tryd.isAgg21
  z21 := Tryd.sizeOf21
  v21 := Tryd.zeroValue21
  t37 := Tryd.underlying63
  a37 := Tryd.isAgg63
  z37 := Tryd.sizeOf63
  v37 := Tryd.zeroValue63
  t46 := Tryd.underlying78
  a46 := Tryd.isAgg78
  z46 := Tryd.sizeOf78
  v46 := Tryd.zeroValue78
  t51 := Tryd.underlying95
  a51 := Tryd.isAgg95
  z51 := Tryd.sizeOf95
  v51 := Tryd.zeroValue95
  t53 := Tryd.underlying75
  a53 := Tryd.isAgg75
  z53 := Tryd.sizeOf75
  v53 := Tryd.zeroValue75
  t75 := Tryd.underlying46
  a75 := Tryd.isAgg46
  z75 := Tryd.sizeOf46
  v75 := Tryd.zeroValue46
  t76 := Tryd.underlying47
  a76 := Tryd.isAgg47
  z76 := Tryd.sizeOf47
  v76 := Tryd.zeroValue47
  t85 := Tryd.underlying64
  a85 := Tryd.isAgg64
  z85 := Tryd.sizeOf64
  v85 := Tryd.zeroValue64
  t127 := Tryd.underlying89
  a127 := Tryd.isAgg89
  z127 := Tryd.sizeOf89
  v127 := Tryd.zeroValue89
  t143 := Tryd.underlying90
  a143 := Tryd.isAgg90
  z143 := Tryd.sizeOf90
  v143 := Tryd.zeroValue90
  t145 := Tryd.underlying92
  a145 := Tryd.isAgg92
  z145 := Tryd.sizeOf92
  v145 := Tryd.zeroValue92
  t167 := Tryd.underlying62
  a167 := Tryd.isAgg62
  z167 := Tryd.sizeOf62
  v167 := Tryd.zeroValue62
  t168 := Tryd.underlying66
  a168 := Tryd.isAgg66
  z168 := Tryd.sizeOf66
  v168 := Tryd.zeroValue66
  t171 := Tryd.underlying83
  a171 := Tryd.isAgg83
  z171 := Tryd.sizeOf83
  v171 := Tryd.zeroValue83
  t173 := Tryd.underlying86
  a173 := Tryd.isAgg86
  z173 := Tryd.sizeOf86
  v173 := Tryd.zeroValue86
  t175 := Tryd.underlying76
  a175 := Tryd.isAgg76
  z175 := Tryd.sizeOf76
  v175 := Tryd.zeroValue76
  t210 := Tryd.underlying81
  a210 := Tryd.isAgg81
  z210 := Tryd.sizeOf81
  v210 := Tryd.zeroValue81
  t212 := Tryd.underlying94
  a212 := Tryd.isAgg94
  z212 := Tryd.sizeOf94
  v212 := Tryd.zeroValue94
  t213 := Tryd.underlying96
  a213 := Tryd.isAgg96
  z213 := Tryd.sizeOf96
  t232 := Tryd.underlying105
  a232 := Tryd.isAgg105
  z232 := Tryd.sizeOf105
  v232 := Tryd.zeroValue105
  t233 := Tryd.underlying106
  a233 := Tryd.isAgg106
  z233 := Tryd.sizeOf106
  v233 := Tryd.zeroValue106
  g15 := by kernel_rfl
  g16 := by kernel_rfl
  g17 := by kernel_rfl
  g18 := by kernel_rfl
  g19 := by kernel_rfl
  t80 := Tryd.underlying107
  a80 := Tryd.isAgg107
  z80 := Tryd.sizeOf107
  v80 := Tryd.zeroValue107
  i0 := by kernel_rfl
  i2 := by kernel_rfl
  i3 := by kernel_rfl
  i4 := by kernel_rfl
  i5 := by kernel_rfl
  i9 := by kernel_rfl
  i20 := by kernel_rfl
  i21 := by kernel_rfl
  i37 := by kernel_rfl
  i46 := by kernel_rfl
  i51 := by kernel_rfl
  i53 := by kernel_rfl
  i75 := by kernel_rfl
  i76 := by kernel_rfl
  i80 := by kernel_rfl
  i85 := by kernel_rfl
  i127 := by kernel_rfl
  i143 := by kernel_rfl
  i145 := by kernel_rfl
  i167 := by kernel_rfl
  i168 := by kernel_rfl
  i171 := by kernel_rfl
  i173 := by kernel_rfl
  i175 := by kernel_rfl
  i210 := by kernel_rfl
  i212 := by kernel_rfl
  i232 := by kernel_rfl
  i233 := by kernel_rfl
  m15 := by kernel_rfl
  m16 := by kernel_rfl
  m17 := by kernel_rfl
  m18 := by kernel_rfl
  m19 := by kernel_rfl
  c0 := by kernel_rfl
  c2 := by kernel_rfl
  c3 := by kernel_rfl
  c4 := by kernel_rfl
  c5 := by kernel_rfl
  c9 := by kernel_rfl
  c20 := by kernel_rfl
  c21 := by kernel_rfl
  c37 := by kernel_rfl
  c46 := by kernel_rfl
  c51 := by kernel_rfl
  c53 := by kernel_rfl
  c75 := by kernel_rfl
  c76 := by kernel_rfl
  c80 := by kernel_rfl
  c85 := by kernel_rfl
  c127 := by kernel_rfl
  c143 := by kernel_rfl
  c145 := by kernel_rfl
  c167 := by kernel_rfl
  c168 := by kernel_rfl
  c171 := by kernel_rfl
  c173 := by kernel_rfl
  c175 := by kernel_rfl
  c210 := by kernel_rfl
  c212 := by kernel_rfl
  c213 := by kernel_rfl
  c232 := by kernel_rfl
  c233 := by kernel_rfl }
open Go.RowKit in
theorem Tryd.strconv_Atoi_ok (s : ByteArray) (hmax : s.size ≤ 9223372036854775806) (v : Int) (h : Lib.atoiAll s.data.toList = .ok v) (w : World) :
    Calls Tryd.prog 28 #[.string s] w fun e w' => e = .returned (.tuple #[.int .i64 v, .nilIface]) ∧ (w' = w ∨ ∃ t, w' = Lib.bytesWorld w 5 t) := Any.strconv_Atoi_ok Tryd.laysC172 s hmax v h w
open Go.RowKit in
theorem Tryd.strconv_Atoi_syntax (s : ByteArray) (hlim : s.size ≤ 281474976710656) (h : Lib.atoiAll s.data.toList = Lib.atoiAll []) (ev : Value) (w : World) (hv : w.cell? ⟨2, 0, none⟩ = some ev) (hev : ev = .nilIface ∨ ∃ te pe, ev = .iface te pe) :
    Calls Tryd.prog 28 #[.string s] w fun e w' => ∃ N, e = .returned (.tuple #[.int .i64 (0), .iface 66 (.pointer (some ⟨N, 0, none⟩))]) ∧ w.heap.size ≤ N ∧ w'.heap[N]? = some (.cells #[.string ⟨#[65, 116, 111, 105]⟩, .string s, ev] 81 (0, 0)) ∧ Below w.heap.size w w' := Any.strconv_Atoi_syntax Tryd.laysC172 s hlim h ev w hv hev
open Go.RowKit in
theorem Tryd.strconv_Atoi_range (s : ByteArray) (hlim : s.size ≤ 281474976710656) (h : Lib.atoiAll s.data.toList = .range) (ev : Value) (w : World) (hv : w.cell? ⟨3, 0, none⟩ = some ev) (hev : ev = .nilIface ∨ ∃ te pe, ev = .iface te pe) :
    Calls Tryd.prog 28 #[.string s] w fun e w' => ∃ N, e = .returned (.tuple #[.int .i64 (Lib.atoiSat s.data.toList), .iface 66 (.pointer (some ⟨N, 0, none⟩))]) ∧ w.heap.size ≤ N ∧ w'.heap[N]? = some (.cells #[.string ⟨#[65, 116, 111, 105]⟩, .string s, ev] 81 (0, 0)) ∧ Below w.heap.size w w' := Any.strconv_Atoi_range Tryd.laysC172 s hlim h ev w hv hev
def Tryd.lays145_ren : Go.Shelf.Ren := ⟨fun | 145 => 31 | 220 => 42 | 219 => 53 | 217 => 64 | 225 => 65 | 224 => 66 | 267 => 67 | 266 => 76 | 314 => 77 | n => n, fun | 9 => 9 | 4 => 4 | 59 => 50 | 3 => 3 | 5 => 5 | 46 => 78 | 146 => 98 | 51 => 95 | n => n, fun | 1 => 4 | n => n⟩
theorem Tryd.lays145 : Go.Proofs.Lays.n145 Tryd.prog Tryd.lays145_ren := {
  mixed := by kernel_rfl
  f145 := Tryd.func31.trans (congrArg some (by kernel_rfl))
  f217 := Tryd.func64.trans (congrArg some (by kernel_rfl))
  f219 := Tryd.func53.trans (congrArg some (by kernel_rfl))
  f220 := Tryd.func42.trans (congrArg some (by kernel_rfl))
  f224 := Tryd.func66.trans (congrArg some (by kernel_rfl))
  f225 := Tryd.func65.trans (congrArg some (by kernel_rfl))
  f266 := Tryd.func76.trans (congrArg some (by kernel_rfl))
  f267 := Tryd.func67.trans (congrArg some (by kernel_rfl))
  f314 := Tryd.func77.trans (congrArg some (by kernel_rfl))
  t3 := Tryd.underlying3
  a3 := Tryd.isAgg3
  z3 := Tryd.sizeOf3
  v3 := Tryd.zeroValue3
  t4 := Tryd.underlying4
  a4 := Tryd.isAgg4
  z4 := Tryd.sizeOf4
  v4 := Tryd.zeroValue4
  t5 := Tryd.underlying5
  a5 := Tryd.isAgg5
  z5 := Tryd.sizeOf5
  v5 := Tryd.zeroValue5
  t9 := Tryd.underlying9
  a9 := Tryd.isAgg9
  z9 := Tryd.sizeOf9
  v9 := Tryd.zeroValue9
  t46 := Tryd.underlying78
  a46 := Tryd.isAgg78
  z46 := Tryd.sizeOf78
  v46 := Tryd.zeroValue78
  t51 := Tryd.underlying95
  a51 := Tryd.isAgg95
  z51 := Tryd.sizeOf95
  v51 := Tryd.zeroValue95
  t59 := Tryd.underlying50
  a59 := Tryd.isAgg50
  z59 := Tryd.sizeOf50
  v59 := Tryd.zeroValue50
  t146 := Tryd.underlying98
  a146 := Tryd.isAgg98
  z146 := Tryd.sizeOf98
  v146 := Tryd.zeroValue98
  g1 := by kernel_rfl }
open Go.RowKit Go.Lib in
theorem Tryd.strings_Cut (s sep : ByteArray) (m : Int) (w : World) (hs : s.size < 4294967281) (hm : w.cell? ⟨4, 0, none⟩ = some (.int .i64 m)) :
    Calls Tryd.prog 31 #[.string s, .string sep] w fun e w' => e = .returned (.tuple #[.string ⟨(Lib.cut s.data.toList sep.data.toList).1.toArray⟩, .string ⟨(Lib.cut s.data.toList sep.data.toList).2.1.toArray⟩, .bool (Lib.cut s.data.toList sep.data.toList).2.2]) ∧ ∃ n, w' = w.drewN n := Any.strings_Cut Tryd.lays145 s sep m w hs hm
def Tryd.lays146_ren : Go.Shelf.Ren := ⟨fun | 146 => 26 | 221 => 36 | 268 => 43 | 138 => 44 | 143 => 45 | 195 => 54 | 197 => 55 | 218 => 56 | 219 => 53 | 260 => 68 | 217 => 64 | 225 => 65 | 224 => 66 | 267 => 67 | 266 => 76 | 314 => 77 | n => n, fun | 9 => 9 | 31 => 36 | 3 => 3 | 4 => 4 | 0 => 0 | 105 => 72 | 21 => 21 | 5 => 5 | 46 => 78 | 119 => 100 | 139 => 103 | 138 => 102 | 146 => 98 | 51 => 95 | n => n, fun | 1 => 4 | 3 => 6 | 4 => 7 | n => n⟩
theorem Tryd.lays146 : Go.Proofs.Lays.n146 Tryd.prog Tryd.lays146_ren := {
  mixed := by kernel_rfl
  f138 := Tryd.func44.trans (congrArg some (by kernel_rfl))
  f143 := Tryd.func45.trans (congrArg some (by kernel_rfl))
  f146 := Tryd.func26.trans (congrArg some (by kernel_rfl))
  f195 := Tryd.func54.trans (congrArg some (by kernel_rfl))
  f197 := Tryd.func55.trans (congrArg some (by kernel_rfl))
  f217 := Tryd.func64.trans (congrArg some (by kernel_rfl))
  f218 := Tryd.func56.trans (congrArg some (by kernel_rfl))
  f219 := Tryd.func53.trans (congrArg some (by kernel_rfl))
  f221 := Tryd.func36.trans (congrArg some (by kernel_rfl))
  f224 := Tryd.func66.trans (congrArg some (by kernel_rfl))
  f225 := Tryd.func65.trans (congrArg some (by kernel_rfl))
  f260 := Tryd.func68.trans (congrArg some (by kernel_rfl))
  f266 := Tryd.func76.trans (congrArg some (by kernel_rfl))
  f267 := Tryd.func67.trans (congrArg some (by kernel_rfl))
  f268 := Tryd.func43.trans (congrArg some (by kernel_rfl))
  f314 := Tryd.func77.trans (congrArg some (by kernel_rfl))
  t0 := Tryd.underlying0
  a0 := Tryd.isAgg0
  z0 := Tryd.sizeOf0
  v0 := Tryd.zeroValue0
  t3 := Tryd.underlying3
  a3 := Tryd.isAgg3
  z3 := Tryd.sizeOf3
  v3 := Tryd.zeroValue3
  t4 := Tryd.underlying4
  a4 := Tryd.isAgg4
  z4 := Tryd.sizeOf4
  v4 := Tryd.zeroValue4
  t5 := Tryd.underlying5
  a5 := Tryd.isAgg5
  z5 := Tryd.sizeOf5
  v5 := Tryd.zeroValue5
  t9 := Tryd.underlying9
  a9 := Tryd.isAgg9
  z9 := Tryd.sizeOf9
  v9 := Tryd.zeroValue9
  t21 := Tryd.underlying21
  a21 := Tryd.isAgg21
  z21 := Tryd.sizeOf21
  v21 := Tryd.zeroValue21
  t31 := Tryd.underlying36
  a31 := Tryd.isAgg36
  z31 := Tryd.sizeOf36
  v31 := Tryd.zeroValue36
  t46 := Tryd.underlying78
  a46 := Tryd.isAgg78
  z46 := Tryd.sizeOf78
  v46 := Tryd.zeroValue78
  t51 := Tryd.underlying95
  a51 := Tryd.isAgg95
  z51 := Tryd.sizeOf95
  v51 := Tryd.zeroValue95
  t105 := Tryd.underlying72
  a105 := Tryd.isAgg72
  z105 := Tryd.sizeOf72
  v105 := Tryd.zeroValue72
  t119 := Tryd.underlying100
  a119 := Tryd.isAgg100
  z119 := Tryd.sizeOf100
  t138 := Tryd.underlying102
  a138 := Tryd.isAgg102
  z138 := Tryd.sizeOf102
  v138 := Tryd.zeroValue102
  t139 := Tryd.underlying103
  a139 := Tryd.isAgg103
  z139 := Tryd.sizeOf103
  v139 := Tryd.zeroValue103
  t146 := Tryd.underlying98
  a146 := Tryd.isAgg98
  z146 := Tryd.sizeOf98
  v146 := Tryd.zeroValue98
  g1 := by kernel_rfl
  g3 := by kernel_rfl
  g4 := by kernel_rfl }
open Go.RowKit Go.Lib in
theorem Tryd.strings_Split (s sep : ByteArray) (m : Int) (w : World) (hs : s.size < 4294967281) (hm : w.cell? ⟨4, 0, none⟩ = some (.int .i64 m)) (h1 : 1 ≤ sep.size) :
    Calls Tryd.prog 26 #[.string s, .string sep] w fun e w' =>
      e = .returned (.slice (some ⟨w.heap.size, 0, none⟩) (Lib.countB s sep + 1) (Lib.countB s sep + 1)) ∧ w' = w.alloc (.cells ((Lib.splitB sep 0 (Lib.countB s sep) s).map Value.string).toArray 9) := Any.strings_Split Tryd.lays146 (by kernel_rfl) s sep m w hs hm h1
end Go.Proofs.YtkmnepmnjpdpkaaDoor
