/- Contracts of functions that the laws of this seat call. -/
import Derived.Shelf.Strconv.Atoi
import Derived.Shelf.Strconv.Itoa1
import Derived.Shelf.LaysM
import Derived.Shelf.Strconv.Itoa2
import Derived.Shelf.Strconv.Itoa3
import Derived.Shelf.Strconv.AtoiErrFast
import Derived.Shelf.Strconv.ParseIntEmpty
import Derived.Shelf.Strconv.AtoiFail
import Derived.Shelf.Strconv.Clone
import Derived.Shelf.Strconv.SyntaxError
import Derived.Shelf.LaysC
import Derived.Shelf.Strconv.ToError
import Derived.Shelf.Strconv.Lower
import Derived.Shelf.Strconv.ParseUint10
import Derived.Shelf.Strconv.ParseUint10Empty
import Derived.Shelf.Strconv.ParseUint10Any
import Derived.Shelf.Strconv.ParseInt10
import Derived.Shelf.Strconv.AtoiLong
import Derived.Shelf.Strconv.AtoiInnerAll
import Derived.Shelf.Strconv.RangeError
import Derived.Shelf.Strconv.ToErrorRange
import Derived.Shelf.Strconv.AtoiAll
import Derived.Shelf.Strings.Search1
import Derived.Shelf.Strings.Search2
import Derived.Shelf.Strings.Search3
import Derived.Shelf.Strings.Cut
import Derived.Shelf.Strings.Count
import Derived.Shelf.Strings.Shaped
import Derived.Shelf.Strings.Split
import Derived.Shelf.Unicode.DecodeSlow
import Derived.Test.YtkmnepmnjpdpkaaGreatDoorProg
set_option linter.all false
namespace Go.Proofs.YtkmnepmnjpdpkaaGreatDoor
open Go.Shelf
def Tryz.laysM171_ren : Go.Shelf.Ren := ⟨fun | 171 => 63 | 243 => 110 | 246 => 147 | 283 => 175 | 284 => 176 | 285 => 177 | 286 => 178 | 129 => 203 | 317 => 202 | 318 => 204 | 319 => 205 | 320 => 206 | 337 => 222 | 338 => 223 | n => n, fun | 3 => 3 | 9 => 9 | 2 => 2 | 4 => 4 | 171 => 152 | 0 => 0 | 53 => 153 | 37 => 22 | 5 => 5 | 173 => 156 | 212 => 170 | 51 => 171 | 20 => 20 | 213 => 172 | 46 => 166 | 232 => 194 | 233 => 195 | n => n, fun | 17 => 3 | 18 => 6 | 19 => 7 | n => n⟩
theorem Tryz.laysM171 : Go.Proofs.LaysM.n171 Tryz.prog Tryz.laysM171_ren := {
  mixed := by kernel_rfl
  f129 := Tryz.func203.trans (congrArg some (by kernel_rfl))
  f171 := Tryz.func63.trans (congrArg some (by kernel_rfl))
  f243 := Tryz.func110.trans (congrArg some (by kernel_rfl))
  f246 := Tryz.func147.trans (congrArg some (by kernel_rfl))
  f283 := Tryz.func175.trans (congrArg some (by kernel_rfl))
  f284 := Tryz.func176.trans (congrArg some (by kernel_rfl))
  f285 := Tryz.func177.trans (congrArg some (by kernel_rfl))
  f286 := Tryz.func178.trans (congrArg some (by kernel_rfl))
  f317 := Tryz.func202.trans (congrArg some (by kernel_rfl))
  f318 := Tryz.func204.trans (congrArg some (by kernel_rfl))
  f319 := Tryz.func205.trans (congrArg some (by kernel_rfl))
  f320 := Tryz.func206.trans (congrArg some (by kernel_rfl))
  f337 := Tryz.func222.trans (congrArg some (by kernel_rfl))
  f338 := Tryz.func223.trans (congrArg some (by kernel_rfl))
  t0 := Tryz.underlying0
  a0 := Tryz.isAgg0
  z0 := Tryz.sizeOf0
  v0 := Tryz.zeroValue0
  t2 := Tryz.underlying2
  a2 := Tryz.isAgg2
  z2 := Tryz.sizeOf2
  v2 := Tryz.zeroValue2
  t3 := Tryz.underlying3
  a3 := Tryz.isAgg3
  z3 := Tryz.sizeOf3
  v3 := Tryz.zeroValue3
  t4 := Tryz.underlying4
  a4 := Tryz.isAgg4
  z4 := Tryz.sizeOf4
  v4 := Tryz.zeroValue4
  t5 := Tryz.underlying5
  a5 := Tryz.isAgg5
  z5 := Tryz.sizeOf5
  v5 := Tryz.zeroValue5
  t9 := Tryz.underlying9
  a9 := Tryz.isAgg9
  z9 := Tryz.sizeOf9
  v9 := Tryz.zeroValue9
  t20 := Tryz.underlying20
  a20 := Tryz.isAgg20
  z20 := Tryz.sizeOf20
  v20 := Tryz.zeroValue20
  t37 := Tryz.underlying22
  a37 := Tryz.isAgg22
  z37 := Tryz.sizeOf22
  v37 := Tryz.zeroValue22
  t46 := Tryz.underlying166
  a46 := Tryz.isAgg166
  z46 := Tryz.sizeOf166
  v46 := Tryz.zeroValue166
  t51 := Tryz.underlying171
  a51 := Tryz.isAgg171
  z51 := Tryz.sizeOf171
  v51 := Tryz.zeroValue171
  t53 := Tryz.underlying153
  a53 := Tryz.isAgg153
  z53 := Tryz.sizeOf153
  v53 := Tryz.zeroValue153
  t171 := Tryz.underlying152
  a171 := Tryz.isAgg152
  z171 := Tryz.sizeOf152
  v171 := Tryz.zeroValue152
  t173 := Tryz.underlying156
  a173 := Tryz.isAgg156
  z173 := Tryz.sizeOf156
  v173 := Tryz.zeroValue156
  t212 := Tryz.underlying170
  a212 := Tryz.isAgg170
  z212 := Tryz.sizeOf170
  v212 := Tryz.zeroValue170
  t213 := Tryz.underlying172
  a213 := Tryz.isAgg172
  z213 := Tryz.sizeOf172
  t232 := Tryz.underlying194
  a232 := Tryz.isAgg194
  z232 := Tryz.sizeOf194
  v232 := Tryz.zeroValue194
  t233 := Tryz.underlying195
  a233 := Tryz.isAgg195
  z233 := Tryz.sizeOf195
  v233 := Tryz.zeroValue195
  g17 := by kernel_rfl
  g18 := by kernel_rfl
  g19 := by kernel_rfl
  i0 := by kernel_rfl
  i2 := by kernel_rfl
  i3 := by kernel_rfl
  i4 := by kernel_rfl
  i5 := by kernel_rfl
  i9 := by kernel_rfl
  i20 := by kernel_rfl
  i37 := by kernel_rfl
  i46 := by kernel_rfl
  i51 := by kernel_rfl
  i53 := by kernel_rfl
  i171 := by kernel_rfl
  i173 := by kernel_rfl
  i212 := by kernel_rfl
  i232 := by kernel_rfl
  i233 := by kernel_rfl
  m17 := by kernel_rfl
  m18 := by kernel_rfl
  m19 := by kernel_rfl }
open Go.RowKit Go.Sort Go.Lib in
theorem Tryz.strconv_Itoa (n : Int) (h0 : -9223372036854775808 ≤ n) (h1 : n ≤ 9223372036854775807) (w : World) (htab : Lib.TabIs Tryz.prog w "internal/strconv.uint64pow10" .u64 Lib.pow10Tab) :
    Calls Tryz.prog 63 #[.int .i64 n] w fun e w' => e = .returned (.string ⟨(Lib.itoa n).toArray⟩) ∧ ∃ k os, w' = grow (w.drewN k) os := Any.strconv_Itoa Tryz.laysM171 n h0 h1 w htab
def Tryz.laysC172_ren : Go.Shelf.Ren := ⟨fun | 172 => 121 | 244 => 154 | 245 => 155 | 247 => 183 | 279 => 184 | 280 => 185 | 281 => 186 | 282 => 187 | 287 => 210 | 316 => 211 | 171 => 63 | 205 => 212 | 321 => 225 | 322 => 226 | 243 => 110 | 246 => 147 | 283 => 175 | 284 => 176 | 285 => 177 | 286 => 178 | 129 => 203 | 317 => 202 | 318 => 204 | 319 => 205 | 320 => 206 | 337 => 222 | 338 => 223 | n => n, fun | 9 => 9 | 3 => 3 | 75 => 118 | 76 => 119 | 4 => 4 | 5 => 5 | 167 => 159 | 37 => 22 | 0 => 0 | 85 => 160 | 2 => 2 | 168 => 162 | 53 => 153 | 175 => 176 | 46 => 166 | 210 => 179 | 127 => 190 | 145 => 193 | 143 => 191 | 21 => 21 | 171 => 152 | 173 => 156 | 212 => 170 | 51 => 171 | 20 => 20 | 213 => 172 | 232 => 194 | 233 => 195 | 80 => 200 | n => n, fun | 15 => 4 | 16 => 5 | 17 => 3 | 18 => 6 | 19 => 7 | n => n⟩
theorem Tryz.laysC172 : Go.Proofs.LaysC.n172 Tryz.prog Tryz.laysC172_ren := {
  mixed := by kernel_rfl
  f129 := Tryz.func203.trans (congrArg some (by kernel_rfl))
  f171 := Tryz.func63.trans (congrArg some (by kernel_rfl))
  f172 := Tryz.func121.trans (congrArg some (by kernel_rfl))
  f205 := Tryz.func212.trans (congrArg some (by kernel_rfl))
  f243 := Tryz.func110.trans (congrArg some (by kernel_rfl))
  f244 := Tryz.func154.trans (congrArg some (by kernel_rfl))
  f245 := Tryz.func155.trans (congrArg some (by kernel_rfl))
  f246 := Tryz.func147.trans (congrArg some (by kernel_rfl))
  f247 := Tryz.func183.trans (congrArg some (by kernel_rfl))
  f279 := Tryz.func184.trans (congrArg some (by kernel_rfl))
  f280 := Tryz.func185.trans (congrArg some (by kernel_rfl))
  f281 := Tryz.func186.trans (congrArg some (by kernel_rfl))
  f282 := Tryz.func187.trans (congrArg some (by kernel_rfl))
  f283 := Tryz.func175.trans (congrArg some (by kernel_rfl))
  f284 := Tryz.func176.trans (congrArg some (by kernel_rfl))
  f285 := Tryz.func177.trans (congrArg some (by kernel_rfl))
  f286 := Tryz.func178.trans (congrArg some (by kernel_rfl))
  f287 := Tryz.func210.trans (congrArg some (by kernel_rfl))
  f316 := Tryz.func211.trans (congrArg some (by kernel_rfl))
  f317 := Tryz.func202.trans (congrArg some (by kernel_rfl))
  f318 := Tryz.func204.trans (congrArg some (by kernel_rfl))
  f319 := Tryz.func205.trans (congrArg some (by kernel_rfl))
  f320 := Tryz.func206.trans (congrArg some (by kernel_rfl))
  f321 := Tryz.func225.trans (congrArg some (by kernel_rfl))
  f322 := Tryz.func226.trans (congrArg some (by kernel_rfl))
  f337 := Tryz.func222.trans (congrArg some (by kernel_rfl))
  f338 := Tryz.func223.trans (congrArg some (by kernel_rfl))
  t0 := Tryz.underlying0
  a0 := Tryz.isAgg0
  z0 := Tryz.sizeOf0
  v0 := Tryz.zeroValue0
  t2 := Tryz.underlying2
  a2 := Tryz.isAgg2
  z2 := Tryz.sizeOf2
  v2 := Tryz.zeroValue2
  t3 := Tryz.underlying3
  a3 := Tryz.isAgg3
  z3 := Tryz.sizeOf3
  v3 := Tryz.zeroValue3
  t4 := Tryz.underlying4
  a4 := Tryz.isAgg4
  z4 := Tryz.sizeOf4
  v4 := Tryz.zeroValue4
  t5 := Tryz.underlying5
  a5 := Tryz.isAgg5
  z5 := Tryz.sizeOf5
  v5 := Tryz.zeroValue5
  t9 := Tryz.underlying9
  a9 := Tryz.isAgg9
  z9 := Tryz.sizeOf9
  v9 := Tryz.zeroValue9
  t20 := Tryz.underlying20
  a20 := Tryz.isAgg20
  z20 := Tryz.sizeOf20
  v20 := Tryz.zeroValue20
  t21 := Tryz.underlying21
  a21 := Tryz.isAgg21
  z21 := Tryz.sizeOf21
  v21 := Tryz.zeroValue21
  t37 := Tryz.underlying22
  a37 := Tryz.isAgg22
  z37 := Tryz.sizeOf22
  v37 := Tryz.zeroValue22
  t46 := Tryz.underlying166
  a46 := Tryz.isAgg166
  z46 := Tryz.sizeOf166
  v46 := Tryz.zeroValue166
  t51 := Tryz.underlying171
  a51 := Tryz.isAgg171
  z51 := Tryz.sizeOf171
  v51 := Tryz.zeroValue171
  t53 := Tryz.underlying153
  a53 := Tryz.isAgg153
  z53 := Tryz.sizeOf153
  v53 := Tryz.zeroValue153
  t75 := Tryz.underlying118
  a75 := Tryz.isAgg118
  z75 := Tryz.sizeOf118
  v75 := Tryz.zeroValue118
  t76 := Tryz.underlying119
  a76 := Tryz.isAgg119
  z76 := Tryz.sizeOf119
  v76 := Tryz.zeroValue119
  t85 := Tryz.underlying160
  a85 := Tryz.isAgg160
  z85 := Tryz.sizeOf160
  v85 := Tryz.zeroValue160
  t127 := Tryz.underlying190
  a127 := Tryz.isAgg190
  z127 := Tryz.sizeOf190
  v127 := Tryz.zeroValue190
  t143 := Tryz.underlying191
  a143 := Tryz.isAgg191
  z143 := Tryz.sizeOf191
  v143 := Tryz.zeroValue191
  t145 := Tryz.underlying193
  a145 := Tryz.isAgg193
  z145 := Tryz.sizeOf193
  v145 := Tryz.zeroValue193
  t167 := Tryz.underlying159
  a167 := Tryz.isAgg159
  z167 := Tryz.sizeOf159
  v167 := Tryz.zeroValue159
  t168 := Tryz.underlying162
  a168 := Tryz.isAgg162
  z168 := Tryz.sizeOf162
  v168 := Tryz.zeroValue162
  t171 := Tryz.underlying152
  a171 := Tryz.isAgg152
  z171 := Tryz.sizeOf152
  v171 := Tryz.zeroValue152
  t173 := Tryz.underlying156
  a173 := Tryz.isAgg156
  z173 := Tryz.sizeOf156
  v173 := Tryz.zeroValue156
  t175 := Tryz.underlying176
  a175 := Tryz.isAgg176
  z175 := Tryz.sizeOf176
  v175 := Tryz.zeroValue176
  t210 := Tryz.underlying179
  a210 := Tryz.isAgg179
  z210 := Tryz.sizeOf179
  v210 := Tryz.zeroValue179
  t212 := Tryz.underlying170
  a212 := Tryz.isAgg170
  z212 := Tryz.sizeOf170
  v212 := Tryz.zeroValue170
  t213 := Tryz.underlying172
  a213 := Tryz.isAgg172
  z213 := Tryz.sizeOf172
  t232 := Tryz.underlying194
  a232 := Tryz.isAgg194
  z232 := Tryz.sizeOf194
  v232 := Tryz.zeroValue194
  t233 := Tryz.underlying195
  a233 := Tryz.isAgg195
  z233 := Tryz.sizeOf195
  v233 := Tryz.zeroValue195
  g15 := by kernel_rfl
  g16 := by kernel_rfl
  g17 := by kernel_rfl
  g18 := by kernel_rfl
  g19 := by kernel_rfl
  t80 := Tryz.underlying200
  a80 := Tryz.isAgg200
  z80 := Tryz.sizeOf200
  v80 := Tryz.zeroValue200
  i0 := by kernel_rfl
  i2 := by kernel_rfl
  i3 := by kernel_rfl
  i4 := by kernel_rfl
  i5 := by kernel_rfl
  i9 := by kernel_rfl
  i20 := by kernel_rfl
  i21 := by kernel_rfl
  i37 := by kernel_rfl
  i46 := by kernel_rfl
  i51 := by kernel_rfl
  i53 := by kernel_rfl
  i75 := by kernel_rfl
  i76 := by kernel_rfl
  i80 := by kernel_rfl
  i85 := by kernel_rfl
  i127 := by kernel_rfl
  i143 := by kernel_rfl
  i145 := by kernel_rfl
  i167 := by kernel_rfl
  i168 := by kernel_rfl
  i171 := by kernel_rfl
  i173 := by kernel_rfl
  i175 := by kernel_rfl
  i210 := by kernel_rfl
  i212 := by kernel_rfl
  i232 := by kernel_rfl
  i233 := by kernel_rfl
  m15 := by kernel_rfl
  m16 := by kernel_rfl
  m17 := by kernel_rfl
  m18 := by kernel_rfl
  m19 := by kernel_rfl
  c0 := by kernel_rfl
  c2 := by kernel_rfl
  c3 := by kernel_rfl
  c4 := by kernel_rfl
  c5 := by kernel_rfl
  c9 := by kernel_rfl
  c20 := by kernel_rfl
  c21 := by kernel_rfl
  c37 := by kernel_rfl
  c46 := by kernel_rfl
  c51 := by kernel_rfl
  c53 := by kernel_rfl
  c75 := by kernel_rfl
  c76 := by kernel_rfl
  c80 := by kernel_rfl
  c85 := by kernel_rfl
  c127 := by kernel_rfl
  c143 := by kernel_rfl
  c145 := by kernel_rfl
  c167 := by kernel_rfl
  c168 := by kernel_rfl
  c171 := by kernel_rfl
  c173 := by kernel_rfl
  c175 := by kernel_rfl
  c210 := by kernel_rfl
  c212 := by kernel_rfl
  c213 := by kernel_rfl
  c232 := by kernel_rfl
  c233 := by kernel_rfl }
open Go.RowKit in
theorem Tryz.strconv_Atoi_ok (s : ByteArray) (hmax : s.size ≤ 9223372036854775806) (v : Int) (h : Lib.atoiAll s.data.toList = .ok v) (w : World) :
    Calls Tryz.prog 121 #[.string s] w fun e w' => e = .returned (.tuple #[.int .i64 v, .nilIface]) ∧ (w' = w ∨ ∃ t, w' = Lib.bytesWorld w 5 t) := Any.strconv_Atoi_ok Tryz.laysC172 s hmax v h w
open Go.RowKit in
theorem Tryz.strconv_Atoi_syntax (s : ByteArray) (hlim : s.size ≤ 281474976710656) (h : Lib.atoiAll s.data.toList = Lib.atoiAll []) (ev : Value) (w : World) (hv : w.cell? ⟨4, 0, none⟩ = some ev) (hev : ev = .nilIface ∨ ∃ te pe, ev = .iface te pe) :
    Calls Tryz.prog 121 #[.string s] w fun e w' => ∃ N, e = .returned (.tuple #[.int .i64 (0), .iface 162 (.pointer (some ⟨N, 0, none⟩))]) ∧ w.heap.size ≤ N ∧ w'.heap[N]? = some (.cells #[.string ⟨#[65, 116, 111, 105]⟩, .string s, ev] 179 (0, 0)) ∧ Below w.heap.size w w' := Any.strconv_Atoi_syntax Tryz.laysC172 s hlim h ev w hv hev
open Go.RowKit in
theorem Tryz.strconv_Atoi_range (s : ByteArray) (hlim : s.size ≤ 281474976710656) (h : Lib.atoiAll s.data.toList = .range) (ev : Value) (w : World) (hv : w.cell? ⟨5, 0, none⟩ = some ev) (hev : ev = .nilIface ∨ ∃ te pe, ev = .iface te pe) :
    Calls Tryz.prog 121 #[.string s] w fun e w' => ∃ N, e = .returned (.tuple #[.int .i64 (Lib.atoiSat s.data.toList), .iface 162 (.pointer (some ⟨N, 0, none⟩))]) ∧ w.heap.size ≤ N ∧ w'.heap[N]? = some (.cells #[.string ⟨#[65, 116, 111, 105]⟩, .string s, ev] 179 (0, 0)) ∧ Below w.heap.size w w' := Any.strconv_Atoi_range Tryz.laysC172 s hlim h ev w hv hev
def Tryz.lays145_ren : Go.Shelf.Ren := ⟨fun | 145 => 90 | 220 => 128 | 219 => 159 | 217 => 188 | 225 => 189 | 224 => 190 | 267 => 191 | 266 => 213 | 314 => 214 | n => n, fun | 9 => 9 | 4 => 4 | 59 => 94 | 3 => 3 | 5 => 5 | 46 => 166 | 146 => 181 | 51 => 171 | n => n, fun | 1 => 2 | n => n⟩
theorem Tryz.lays145 : Go.Proofs.Lays.n145 Tryz.prog Tryz.lays145_ren := {
  mixed := by kernel_rfl
  f145 := Tryz.func90.trans (congrArg some (by kernel_rfl))
  f217 := Tryz.func188.trans (congrArg some (by kernel_rfl))
  f219 := Tryz.func159.trans (congrArg some (by kernel_rfl))
  f220 := Tryz.func128.trans (congrArg some (by kernel_rfl))
  f224 := Tryz.func190.trans (congrArg some (by kernel_rfl))
  f225 := Tryz.func189.trans (congrArg some (by kernel_rfl))
  f266 := Tryz.func213.trans (congrArg some (by kernel_rfl))
  f267 := Tryz.func191.trans (congrArg some (by kernel_rfl))
  f314 := Tryz.func214.trans (congrArg some (by kernel_rfl))
  t3 := Tryz.underlying3
  a3 := Tryz.isAgg3
  z3 := Tryz.sizeOf3
  v3 := Tryz.zeroValue3
  t4 := Tryz.underlying4
  a4 := Tryz.isAgg4
  z4 := Tryz.sizeOf4
  v4 := Tryz.zeroValue4
  t5 := Tryz.underlying5
  a5 := Tryz.isAgg5
  z5 := Tryz.sizeOf5
  v5 := Tryz.zeroValue5
  t9 := Tryz.underlying9
  a9 := Tryz.isAgg9
  z9 := Tryz.sizeOf9
  v9 := Tryz.zeroValue9
  t46 := Tryz.underlying166
  a46 := Tryz.isAgg166
  z46 := Tryz.sizeOf166
  v46 := Tryz.zeroValue166
  t51 := Tryz.underlying171
  a51 := Tryz.isAgg171
  z51 := Tryz.sizeOf171
  v51 := Tryz.zeroValue171
  t59 := Tryz.underlying94
  a59 := Tryz.isAgg94
  z59 := Tryz.sizeOf94
  v59 := Tryz.zeroValue94
  t146 := Tryz.underlying181
  a146 := Tryz.isAgg181
  z146 := Tryz.sizeOf181
  v146 := Tryz.zeroValue181
  g1 := by kernel_rfl }
open Go.RowKit Go.Lib in
theorem Tryz.strings_Cut (s sep : ByteArray) (m : Int) (w : World) (hs : s.size < 4294967281) (hm : w.cell? ⟨2, 0, none⟩ = some (.int .i64 m)) :
    Calls Tryz.prog 90 #[.string s, .string sep] w fun e w' => e = .returned (.tuple #[.string ⟨(Lib.cut s.data.toList sep.data.toList).1.toArray⟩, .string ⟨(Lib.cut s.data.toList sep.data.toList).2.1.toArray⟩, .bool (Lib.cut s.data.toList sep.data.toList).2.2]) ∧ ∃ n, w' = w.drewN n := Any.strings_Cut Tryz.lays145 s sep m w hs hm
def Tryz.lays146_ren : Go.Shelf.Ren := ⟨fun | 146 => 119 | 221 => 153 | 268 => 180 | 138 => 181 | 143 => 182 | 195 => 207 | 197 => 208 | 218 => 209 | 219 => 159 | 260 => 224 | 217 => 188 | 225 => 189 | 224 => 190 | 267 => 191 | 266 => 213 | 314 => 214 | n => n, fun | 9 => 9 | 31 => 80 | 3 => 3 | 4 => 4 | 0 => 0 | 105 => 174 | 21 => 21 | 5 => 5 | 46 => 166 | 119 => 196 | 139 => 199 | 138 => 198 | 146 => 181 | 51 => 171 | n => n, fun | 1 => 2 | 3 => 8 | 4 => 9 | n => n⟩
theorem Tryz.lays146 : Go.Proofs.Lays.n146 Tryz.prog Tryz.lays146_ren := {
  mixed := by kernel_rfl
  f138 := Tryz.func181.trans (congrArg some (by kernel_rfl))
  f143 := Tryz.func182.trans (congrArg some (by kernel_rfl))
  f146 := Tryz.func119.trans (congrArg some (by kernel_rfl))
  f195 := Tryz.func207.trans (congrArg some (by kernel_rfl))
  f197 := Tryz.func208.trans (congrArg some (by kernel_rfl))
  f217 := Tryz.func188.trans (congrArg some (by kernel_rfl))
  f218 := Tryz.func209.trans (congrArg some (by kernel_rfl))
  f219 := Tryz.func159.trans (congrArg some (by kernel_rfl))
  f221 := Tryz.func153.trans (congrArg some (by kernel_rfl))
  f224 := Tryz.func190.trans (congrArg some (by kernel_rfl))
  f225 := Tryz.func189.trans (congrArg some (by kernel_rfl))
  f260 := Tryz.func224.trans (congrArg some (by kernel_rfl))
  f266 := Tryz.func213.trans (congrArg some (by kernel_rfl))
  f267 := Tryz.func191.trans (congrArg some (by kernel_rfl))
  f268 := Tryz.func180.trans (congrArg some (by kernel_rfl))
  f314 := Tryz.func214.trans (congrArg some (by kernel_rfl))
  t0 := Tryz.underlying0
  a0 := Tryz.isAgg0
  z0 := Tryz.sizeOf0
  v0 := Tryz.zeroValue0
  t3 := Tryz.underlying3
  a3 := Tryz.isAgg3
  z3 := Tryz.sizeOf3
  v3 := Tryz.zeroValue3
  t4 := Tryz.underlying4
  a4 := Tryz.isAgg4
  z4 := Tryz.sizeOf4
  v4 := Tryz.zeroValue4
  t5 := Tryz.underlying5
  a5 := Tryz.isAgg5
  z5 := Tryz.sizeOf5
  v5 := Tryz.zeroValue5
  t9 := Tryz.underlying9
  a9 := Tryz.isAgg9
  z9 := Tryz.sizeOf9
  v9 := Tryz.zeroValue9
  t21 := Tryz.underlying21
  a21 := Tryz.isAgg21
  z21 := Tryz.sizeOf21
  v21 := Tryz.zeroValue21
  t31 := Tryz.underlying80
  a31 := Tryz.isAgg80
  z31 := Tryz.sizeOf80
  v31 := Tryz.zeroValue80
  t46 := Tryz.underlying166
  a46 := Tryz.isAgg166
  z46 := Tryz.sizeOf166
  v46 := Tryz.zeroValue166
  t51 := Tryz.underlying171
  a51 := Tryz.isAgg171
  z51 := Tryz.sizeOf171
  v51 := Tryz.zeroValue171
  t105 := Tryz.underlying174
  a105 := Tryz.isAgg174
  z105 := Tryz.sizeOf174
  v105 := Tryz.zeroValue174
  t119 := Tryz.underlying196
  a119 := Tryz.isAgg196
  z119 := Tryz.sizeOf196
  t138 := Tryz.underlying198
  a138 := Tryz.isAgg198
  z138 := Tryz.sizeOf198
  v138 := Tryz.zeroValue198
  t139 := Tryz.underlying199
  a139 := Tryz.isAgg199
  z139 := Tryz.sizeOf199
  v139 := Tryz.zeroValue199
  t146 := Tryz.underlying181
  a146 := Tryz.isAgg181
  z146 := Tryz.sizeOf181
  v146 := Tryz.zeroValue181
  g1 := by kernel_rfl
  g3 := by kernel_rfl
  g4 := by kernel_rfl }
open Go.RowKit Go.Lib in
theorem Tryz.strings_Split (s sep : ByteArray) (m : Int) (w : World) (hs : s.size < 4294967281) (hm : w.cell? ⟨2, 0, none⟩ = some (.int .i64 m)) (h1 : 1 ≤ sep.size) :
    Calls Tryz.prog 119 #[.string s, .string sep] w fun e w' =>
      e = .returned (.slice (some ⟨w.heap.size, 0, none⟩) (Lib.countB s sep + 1) (Lib.countB s sep + 1)) ∧ w' = w.alloc (.cells ((Lib.splitB sep 0 (Lib.countB s sep) s).map Value.string).toArray 9) := Any.strings_Split Tryz.lays146 (by kernel_rfl) s sep m w hs hm h1
end Go.Proofs.YtkmnepmnjpdpkaaGreatDoor
