/- The kit's library contracts that our texts use, laid at this seat's translation by the kit's own commands (plain mode). -/
import Derived.Shelf.Strings.Builder1
import Derived.Shelf.Strings.Trim
import Derived.Shelf.Small.Utf8
import Derived.Shelf.Small.Strs
import Derived.Shelf.Strings.BuilderF
import Derived.Shelf.Strings.BuilderK
import Derived.Shelf.Strconv.Atoi
import Derived.Shelf.Strconv.Itoa0
import Derived.Shelf.Strconv.Itoa1
import Derived.Shelf.LaysM
import Derived.Shelf.Strconv.Itoa2
import Derived.Shelf.Strconv.Itoa3
import Derived.Shelf.Strings.Search1
import Derived.Shelf.Strings.Search2
import Derived.Shelf.Strings.Cut
import Derived.Shelf.Strings.Shaped
import Derived.Shelf.Strings.Prefix
import Derived.Shelf.Strings.Runes
import Derived.Shelf.Strings.AsciiSet
import Derived.Shelf.Unicode.DecodeSlow
import Derived.Test.YtgkiaonakiflbaaGreatDoorProg
import Derived.Shelf.Strings.SlTrimAscii
namespace Go.Proofs
open Go.Shelf
def Tryz.lays169_ren : Go.Shelf.Ren := ⟨fun | 169 => 155 | n => n, fun | 70 => 163 | 9 => 9 | 0 => 0 | 72 => 165 | 37 => 131 | 127 => 175 | 3 => 3 | 5 => 5 | n => n, fun | n => n⟩
theorem Tryz.lays169 : Go.Proofs.Lays.n169 Tryz.prog Tryz.lays169_ren := {
  mixed := by kernel_rfl
  f169 := Tryz.func155.trans (congrArg some (by kernel_rfl))
  t0 := Tryz.underlying0
  a0 := Tryz.isAgg0
  z0 := Tryz.sizeOf0
  v0 := Tryz.zeroValue0
  t3 := Tryz.underlying3
  a3 := Tryz.isAgg3
  z3 := Tryz.sizeOf3
  v3 := Tryz.zeroValue3
  t9 := Tryz.underlying9
  a9 := Tryz.isAgg9
  z9 := Tryz.sizeOf9
  v9 := Tryz.zeroValue9
  t37 := Tryz.underlying131
  a37 := Tryz.isAgg131
  z37 := Tryz.sizeOf131
  v37 := Tryz.zeroValue131
  t70 := Tryz.underlying163
  a70 := Tryz.isAgg163
  z70 := Tryz.sizeOf163
  v70 := Tryz.zeroValue163
  t72 := Tryz.underlying165
  a72 := Tryz.isAgg165
  z72 := Tryz.sizeOf165
  v72 := Tryz.zeroValue165
  t127 := Tryz.underlying175
  a127 := Tryz.isAgg175
  z127 := Tryz.sizeOf175
  v127 := Tryz.zeroValue175 }
theorem Tryz.Builder_Extra_169 : Builder.Extra Tryz.prog Tryz.lays169_ren := {
  sizeBuilder := by kernel_rfl
  liesBuilder := by kernel_rfl
  t5 := Tryz.underlying5
  a5 := Tryz.isAgg5
  z5 := Tryz.sizeOf5
  v5 := Tryz.zeroValue5
  infoByte := by kernel_rfl
  cellsByte := by kernel_rfl
  sizeByte := by kernel_rfl
  neB5 := by decide }
open Go.RowKit in
/-- (*strings.Builder).String: "String returns the accumulated string.": WHATEVER THE BUILDER HOLDS. (LAID: no walk: one application.) -/
theorem Tryz.Builder_String_any (B b : Nat) (l : List UInt8) (w : World) (h : Lib.IsBuilder 165 5 B b (Lib.byteCells l) w) (hBw : B ≤ w.heap.size) :
    Calls Tryz.prog 155 #[.pointer (some ⟨b, 0, none⟩)] w fun e w' => e = .returned (.string ⟨l.toArray⟩) ∧ Below B w w' := Any.Builder_String_any Tryz.lays169 Tryz.Builder_Extra_169 B b l w h hBw
def Tryz.lays106_ren : Go.Shelf.Ren := ⟨fun | 106 => 139 | 213 => 160 | 265 => 180 | n => n, fun | 9 => 9 | 3 => 3 | n => n, fun | n => n⟩
theorem Tryz.lays106 : Go.Proofs.Lays.n106 Tryz.prog Tryz.lays106_ren := {
  mixed := by kernel_rfl
  f106 := Tryz.func139.trans (congrArg some (by kernel_rfl))
  f213 := Tryz.func160.trans (congrArg some (by kernel_rfl))
  f265 := Tryz.func180.trans (congrArg some (by kernel_rfl))
  t3 := Tryz.underlying3
  a3 := Tryz.isAgg3
  z3 := Tryz.sizeOf3
  v3 := Tryz.zeroValue3
  t9 := Tryz.underlying9
  a9 := Tryz.isAgg9
  z9 := Tryz.sizeOf9
  v9 := Tryz.zeroValue9 }
open Go.RowKit in
/-- strings.Compare: "Compare returns an integer comparing two strings lexicographically. The result will be 0 if a == b, -1 if a < b, and +1 if a > b.": IT RETURNS 'Lib.compareBytes a b'; the world is as it was. (LAID: no walk: one application.) -/
theorem Tryz.strings_Compare (a b : ByteArray) (w : World) :
    Calls Tryz.prog 139 #[.string a, .string b] w fun e w' => e = .returned (.int .i64 (Lib.compareBytes a.data.toList b.data.toList)) ∧ w' = w := Any.strings_Compare Tryz.lays106 a b w
def Tryz.lays172_ren : Go.Shelf.Ren := ⟨fun | 172 => 129 | 244 => 157 | 245 => 158 | 247 => 171 | 279 => 172 | 280 => 173 | 281 => 174 | 282 => 175 | 287 => 190 | 316 => 191 | 171 => 101 | 205 => 192 | 321 => 199 | 322 => 200 | 243 => 128 | 246 => 156 | 283 => 167 | 284 => 168 | 285 => 169 | 286 => 170 | 129 => 186 | 317 => 185 | 318 => 187 | 319 => 188 | 320 => 189 | 337 => 197 | 338 => 198 | n => n, fun | 9 => 9 | 3 => 3 | 75 => 141 | 76 => 142 | 4 => 4 | 5 => 5 | 167 => 182 | 37 => 131 | 0 => 0 | 85 => 183 | 2 => 2 | 168 => 185 | 53 => 177 | 175 => 200 | 46 => 190 | 210 => 203 | 127 => 175 | 145 => 217 | 143 => 215 | 21 => 21 | 171 => 176 | 173 => 180 | 212 => 195 | 51 => 196 | 20 => 20 | 213 => 197 | 232 => 218 | 233 => 219 | 80 => 167 | n => n, fun | 15 => 2 | 16 => 3 | 17 => 1 | 18 => 6 | 19 => 7 | n => n⟩
theorem Tryz.lays172 : Go.Proofs.Lays.n172 Tryz.prog Tryz.lays172_ren := {
  mixed := by kernel_rfl
  f129 := Tryz.func186.trans (congrArg some (by kernel_rfl))
  f171 := Tryz.func101.trans (congrArg some (by kernel_rfl))
  f172 := Tryz.func129.trans (congrArg some (by kernel_rfl))
  f205 := Tryz.func192.trans (congrArg some (by kernel_rfl))
  f243 := Tryz.func128.trans (congrArg some (by kernel_rfl))
  f244 := Tryz.func157.trans (congrArg some (by kernel_rfl))
  f245 := Tryz.func158.trans (congrArg some (by kernel_rfl))
  f246 := Tryz.func156.trans (congrArg some (by kernel_rfl))
  f247 := Tryz.func171.trans (congrArg some (by kernel_rfl))
  f279 := Tryz.func172.trans (congrArg some (by kernel_rfl))
  f280 := Tryz.func173.trans (congrArg some (by kernel_rfl))
  f281 := Tryz.func174.trans (congrArg some (by kernel_rfl))
  f282 := Tryz.func175.trans (congrArg some (by kernel_rfl))
  f283 := Tryz.func167.trans (congrArg some (by kernel_rfl))
  f284 := Tryz.func168.trans (congrArg some (by kernel_rfl))
  f285 := Tryz.func169.trans (congrArg some (by kernel_rfl))
  f286 := Tryz.func170.trans (congrArg some (by kernel_rfl))
  f287 := Tryz.func190.trans (congrArg some (by kernel_rfl))
  f316 := Tryz.func191.trans (congrArg some (by kernel_rfl))
  f317 := Tryz.func185.trans (congrArg some (by kernel_rfl))
  f318 := Tryz.func187.trans (congrArg some (by kernel_rfl))
  f319 := Tryz.func188.trans (congrArg some (by kernel_rfl))
  f320 := Tryz.func189.trans (congrArg some (by kernel_rfl))
  f321 := Tryz.func199.trans (congrArg some (by kernel_rfl))
  f322 := Tryz.func200.trans (congrArg some (by kernel_rfl))
  f337 := Tryz.func197.trans (congrArg some (by kernel_rfl))
  f338 := Tryz.func198.trans (congrArg some (by kernel_rfl))
  t0 := Tryz.underlying0
  a0 := Tryz.isAgg0
  z0 := Tryz.sizeOf0
  v0 := Tryz.zeroValue0
  t2 := Tryz.underlying2
  a2 := Tryz.isAgg2
  z2 := Tryz.sizeOf2
  v2 := Tryz.zeroValue2
  t3 := Tryz.underlying3
  a3 := Tryz.isAgg3
  z3 := Tryz.sizeOf3
  v3 := Tryz.zeroValue3
  t4 := Tryz.underlying4
  a4 := Tryz.isAgg4
  z4 := Tryz.sizeOf4
  v4 := Tryz.zeroValue4
  t5 := Tryz.underlying5
  a5 := Tryz.isAgg5
  z5 := Tryz.sizeOf5
  v5 := Tryz.zeroValue5
  t9 := Tryz.underlying9
  a9 := Tryz.isAgg9
  z9 := Tryz.sizeOf9
  v9 := Tryz.zeroValue9
  t20 := Tryz.underlying20
  a20 := Tryz.isAgg20
  z20 := Tryz.sizeOf20
  v20 := Tryz.zeroValue20
  t21 := Tryz.underlying21
  a21 := Tryz.isAgg21
  z21 := Tryz.sizeOf21
  v21 := Tryz.zeroValue21
  t37 := Tryz.underlying131
  a37 := Tryz.isAgg131
  z37 := Tryz.sizeOf131
  v37 := Tryz.zeroValue131
  t46 := Tryz.underlying190
  a46 := Tryz.isAgg190
  z46 := Tryz.sizeOf190
  v46 := Tryz.zeroValue190
  t51 := Tryz.underlying196
  a51 := Tryz.isAgg196
  z51 := Tryz.sizeOf196
  v51 := Tryz.zeroValue196
  t53 := Tryz.underlying177
  a53 := Tryz.isAgg177
  z53 := Tryz.sizeOf177
  v53 := Tryz.zeroValue177
  t75 := Tryz.underlying141
  a75 := Tryz.isAgg141
  z75 := Tryz.sizeOf141
  v75 := Tryz.zeroValue141
  t76 := Tryz.underlying142
  a76 := Tryz.isAgg142
  z76 := Tryz.sizeOf142
  v76 := Tryz.zeroValue142
  t85 := Tryz.underlying183
  a85 := Tryz.isAgg183
  z85 := Tryz.sizeOf183
  v85 := Tryz.zeroValue183
  t127 := Tryz.underlying175
  a127 := Tryz.isAgg175
  z127 := Tryz.sizeOf175
  v127 := Tryz.zeroValue175
  t143 := Tryz.underlying215
  a143 := Tryz.isAgg215
  z143 := Tryz.sizeOf215
  v143 := Tryz.zeroValue215
  t145 := Tryz.underlying217
  a145 := Tryz.isAgg217
  z145 := Tryz.sizeOf217
  v145 := Tryz.zeroValue217
  t167 := Tryz.underlying182
  a167 := Tryz.isAgg182
  z167 := Tryz.sizeOf182
  v167 := Tryz.zeroValue182
  t168 := Tryz.underlying185
  a168 := Tryz.isAgg185
  z168 := Tryz.sizeOf185
  v168 := Tryz.zeroValue185
  t171 := Tryz.underlying176
  a171 := Tryz.isAgg176
  z171 := Tryz.sizeOf176
  v171 := Tryz.zeroValue176
  t173 := Tryz.underlying180
  a173 := Tryz.isAgg180
  z173 := Tryz.sizeOf180
  v173 := Tryz.zeroValue180
  t175 := Tryz.underlying200
  a175 := Tryz.isAgg200
  z175 := Tryz.sizeOf200
  v175 := Tryz.zeroValue200
  t210 := Tryz.underlying203
  a210 := Tryz.isAgg203
  z210 := Tryz.sizeOf203
  v210 := Tryz.zeroValue203
  t212 := Tryz.underlying195
  a212 := Tryz.isAgg195
  z212 := Tryz.sizeOf195
  v212 := Tryz.zeroValue195
  t213 := Tryz.underlying197
  a213 := Tryz.isAgg197
  z213 := Tryz.sizeOf197
  t232 := Tryz.underlying218
  a232 := Tryz.isAgg218
  z232 := Tryz.sizeOf218
  v232 := Tryz.zeroValue218
  t233 := Tryz.underlying219
  a233 := Tryz.isAgg219
  z233 := Tryz.sizeOf219
  v233 := Tryz.zeroValue219
  g15 := by kernel_rfl
  g16 := by kernel_rfl
  g17 := by kernel_rfl
  g18 := by kernel_rfl
  g19 := by kernel_rfl }
open Go.RowKit in
/-- strconv.Atoi: "Atoi is equivalent to ParseInt(s, 10, 0), converted to type int.": AT A DECIMAL NUMERAL OF AT MOST 18 BYTES: its value, and a nil error. The world behind the call: the one new row that the library's '[]byte(s)' lays. (LAID: no walk: one application.) -/
theorem Tryz.strconv_Atoi (s : ByteArray) (n : Int) (hl : s.size ≤ 18) (h : Lib.atoi s.data.toList = some n) (w : World) :
    Calls Tryz.prog 129 #[.string s] w fun e w' => e = .returned (.tuple #[.int .i64 n, .nilIface]) ∧ ∃ t, w' = Lib.bytesWorld w 5 t := Any.strconv_Atoi Tryz.lays172 s n hl h w
def Tryz.laysM171_ren : Go.Shelf.Ren := ⟨fun | 171 => 101 | 243 => 128 | 246 => 156 | 283 => 167 | 284 => 168 | 285 => 169 | 286 => 170 | 129 => 186 | 317 => 185 | 318 => 187 | 319 => 188 | 320 => 189 | 337 => 197 | 338 => 198 | n => n, fun | 3 => 3 | 9 => 9 | 2 => 2 | 4 => 4 | 171 => 176 | 0 => 0 | 53 => 177 | 37 => 131 | 5 => 5 | 173 => 180 | 212 => 195 | 51 => 196 | 20 => 20 | 213 => 197 | 46 => 190 | 232 => 218 | 233 => 219 | n => n, fun | 17 => 1 | 18 => 6 | 19 => 7 | n => n⟩
theorem Tryz.laysM171 : Go.Proofs.LaysM.n171 Tryz.prog Tryz.laysM171_ren := {
  mixed := by kernel_rfl
  f129 := Tryz.func186.trans (congrArg some (by kernel_rfl))
  f171 := Tryz.func101.trans (congrArg some (by kernel_rfl))
  f243 := Tryz.func128.trans (congrArg some (by kernel_rfl))
  f246 := Tryz.func156.trans (congrArg some (by kernel_rfl))
  f283 := Tryz.func167.trans (congrArg some (by kernel_rfl))
  f284 := Tryz.func168.trans (congrArg some (by kernel_rfl))
  f285 := Tryz.func169.trans (congrArg some (by kernel_rfl))
  f286 := Tryz.func170.trans (congrArg some (by kernel_rfl))
  f317 := Tryz.func185.trans (congrArg some (by kernel_rfl))
  f318 := Tryz.func187.trans (congrArg some (by kernel_rfl))
  f319 := Tryz.func188.trans (congrArg some (by kernel_rfl))
  f320 := Tryz.func189.trans (congrArg some (by kernel_rfl))
  f337 := Tryz.func197.trans (congrArg some (by kernel_rfl))
  f338 := Tryz.func198.trans (congrArg some (by kernel_rfl))
  t0 := Tryz.underlying0
  a0 := Tryz.isAgg0
  z0 := Tryz.sizeOf0
  v0 := Tryz.zeroValue0
  t2 := Tryz.underlying2
  a2 := Tryz.isAgg2
  z2 := Tryz.sizeOf2
  v2 := Tryz.zeroValue2
  t3 := Tryz.underlying3
  a3 := Tryz.isAgg3
  z3 := Tryz.sizeOf3
  v3 := Tryz.zeroValue3
  t4 := Tryz.underlying4
  a4 := Tryz.isAgg4
  z4 := Tryz.sizeOf4
  v4 := Tryz.zeroValue4
  t5 := Tryz.underlying5
  a5 := Tryz.isAgg5
  z5 := Tryz.sizeOf5
  v5 := Tryz.zeroValue5
  t9 := Tryz.underlying9
  a9 := Tryz.isAgg9
  z9 := Tryz.sizeOf9
  v9 := Tryz.zeroValue9
  t20 := Tryz.underlying20
  a20 := Tryz.isAgg20
  z20 := Tryz.sizeOf20
  v20 := Tryz.zeroValue20
  t37 := Tryz.underlying131
  a37 := Tryz.isAgg131
  z37 := Tryz.sizeOf131
  v37 := Tryz.zeroValue131
  t46 := Tryz.underlying190
  a46 := Tryz.isAgg190
  z46 := Tryz.sizeOf190
  v46 := Tryz.zeroValue190
  t51 := Tryz.underlying196
  a51 := Tryz.isAgg196
  z51 := Tryz.sizeOf196
  v51 := Tryz.zeroValue196
  t53 := Tryz.underlying177
  a53 := Tryz.isAgg177
  z53 := Tryz.sizeOf177
  v53 := Tryz.zeroValue177
  t171 := Tryz.underlying176
  a171 := Tryz.isAgg176
  z171 := Tryz.sizeOf176
  v171 := Tryz.zeroValue176
  t173 := Tryz.underlying180
  a173 := Tryz.isAgg180
  z173 := Tryz.sizeOf180
  v173 := Tryz.zeroValue180
  t212 := Tryz.underlying195
  a212 := Tryz.isAgg195
  z212 := Tryz.sizeOf195
  v212 := Tryz.zeroValue195
  t213 := Tryz.underlying197
  a213 := Tryz.isAgg197
  z213 := Tryz.sizeOf197
  t232 := Tryz.underlying218
  a232 := Tryz.isAgg218
  z232 := Tryz.sizeOf218
  v232 := Tryz.zeroValue218
  t233 := Tryz.underlying219
  a233 := Tryz.isAgg219
  z233 := Tryz.sizeOf219
  v233 := Tryz.zeroValue219
  g17 := by kernel_rfl
  g18 := by kernel_rfl
  g19 := by kernel_rfl
  i0 := by kernel_rfl
  i2 := by kernel_rfl
  i3 := by kernel_rfl
  i4 := by kernel_rfl
  i5 := by kernel_rfl
  i9 := by kernel_rfl
  i20 := by kernel_rfl
  i37 := by kernel_rfl
  i46 := by kernel_rfl
  i51 := by kernel_rfl
  i53 := by kernel_rfl
  i171 := by kernel_rfl
  i173 := by kernel_rfl
  i212 := by kernel_rfl
  i232 := by kernel_rfl
  i233 := by kernel_rfl
  m17 := by kernel_rfl
  m18 := by kernel_rfl
  m19 := by kernel_rfl }
open Go.RowKit Go.Sort Go.Lib in
/-- strconv.Itoa: "Itoa is equivalent to FormatInt(int64(i), 10).": i's DECIMAL NUMERAL ('Lib.itoa': a '-' where i is negative, then the digits), FOR EVERY int. The world behind the call: the world before it, new blocks behind the heap (the library's 'var a [24]byte'), draws. (LAID: no walk: one application.) -/
theorem Tryz.strconv_Itoa (n : Int) (h0 : -9223372036854775808 ≤ n) (h1 : n ≤ 9223372036854775807) (w : World) (htab : Lib.TabIs Tryz.prog w "internal/strconv.uint64pow10" .u64 Lib.pow10Tab) :
    Calls Tryz.prog 101 #[.int .i64 n] w fun e w' => e = .returned (.string ⟨(Lib.itoa n).toArray⟩) ∧ ∃ k os, w' = grow (w.drewN k) os := Any.strconv_Itoa Tryz.laysM171 n h0 h1 w htab
def Tryz.lays145_ren : Go.Shelf.Ren := ⟨fun | 145 => 108 | 220 => 132 | 219 => 159 | 217 => 176 | 225 => 177 | 224 => 178 | 267 => 179 | 266 => 193 | 314 => 194 | n => n, fun | 9 => 9 | 4 => 4 | 59 => 120 | 3 => 3 | 5 => 5 | 46 => 190 | 146 => 205 | 51 => 196 | n => n, fun | 1 => 0 | n => n⟩
theorem Tryz.lays145 : Go.Proofs.Lays.n145 Tryz.prog Tryz.lays145_ren := {
  mixed := by kernel_rfl
  f145 := Tryz.func108.trans (congrArg some (by kernel_rfl))
  f217 := Tryz.func176.trans (congrArg some (by kernel_rfl))
  f219 := Tryz.func159.trans (congrArg some (by kernel_rfl))
  f220 := Tryz.func132.trans (congrArg some (by kernel_rfl))
  f224 := Tryz.func178.trans (congrArg some (by kernel_rfl))
  f225 := Tryz.func177.trans (congrArg some (by kernel_rfl))
  f266 := Tryz.func193.trans (congrArg some (by kernel_rfl))
  f267 := Tryz.func179.trans (congrArg some (by kernel_rfl))
  f314 := Tryz.func194.trans (congrArg some (by kernel_rfl))
  t3 := Tryz.underlying3
  a3 := Tryz.isAgg3
  z3 := Tryz.sizeOf3
  v3 := Tryz.zeroValue3
  t4 := Tryz.underlying4
  a4 := Tryz.isAgg4
  z4 := Tryz.sizeOf4
  v4 := Tryz.zeroValue4
  t5 := Tryz.underlying5
  a5 := Tryz.isAgg5
  z5 := Tryz.sizeOf5
  v5 := Tryz.zeroValue5
  t9 := Tryz.underlying9
  a9 := Tryz.isAgg9
  z9 := Tryz.sizeOf9
  v9 := Tryz.zeroValue9
  t46 := Tryz.underlying190
  a46 := Tryz.isAgg190
  z46 := Tryz.sizeOf190
  v46 := Tryz.zeroValue190
  t51 := Tryz.underlying196
  a51 := Tryz.isAgg196
  z51 := Tryz.sizeOf196
  v51 := Tryz.zeroValue196
  t59 := Tryz.underlying120
  a59 := Tryz.isAgg120
  z59 := Tryz.sizeOf120
  v59 := Tryz.zeroValue120
  t146 := Tryz.underlying205
  a146 := Tryz.isAgg205
  z146 := Tryz.sizeOf205
  v146 := Tryz.zeroValue205
  g1 := by kernel_rfl }
open Go.RowKit Go.Lib in
/-- strings.Cut: "Cut slices s around the first instance of sep, returning the text before and after sep. The found result reports whether sep appears in s. If sep does not appear in s, cut returns s, "", false.": IT RETURNS 'Lib.cut s sep'; the world is as it was but for the count of draws. (LAID: no walk: one application.) -/
theorem Tryz.strings_Cut (s sep : ByteArray) (m : Int) (w : World) (hs : s.size < 4294967281) (hm : w.cell? ⟨0, 0, none⟩ = some (.int .i64 m)) :
    Calls Tryz.prog 108 #[.string s, .string sep] w fun e w' => e = .returned (.tuple #[.string ⟨(Lib.cut s.data.toList sep.data.toList).1.toArray⟩, .string ⟨(Lib.cut s.data.toList sep.data.toList).2.1.toArray⟩, .bool (Lib.cut s.data.toList sep.data.toList).2.2]) ∧ ∃ n, w' = w.drewN n := Any.strings_Cut Tryz.lays145 s sep m w hs hm
def Tryz.lays99_ren : Go.Shelf.Ren := ⟨fun | 99 => 122 | 206 => 148 | n => n, fun | 9 => 9 | 4 => 4 | 3 => 3 | n => n, fun | n => n⟩
theorem Tryz.lays99 : Go.Proofs.Lays.n99 Tryz.prog Tryz.lays99_ren := {
  mixed := by kernel_rfl
  f99 := Tryz.func122.trans (congrArg some (by kernel_rfl))
  f206 := Tryz.func148.trans (congrArg some (by kernel_rfl))
  t3 := Tryz.underlying3
  a3 := Tryz.isAgg3
  z3 := Tryz.sizeOf3
  v3 := Tryz.zeroValue3
  t4 := Tryz.underlying4
  a4 := Tryz.isAgg4
  z4 := Tryz.sizeOf4
  v4 := Tryz.zeroValue4
  t9 := Tryz.underlying9
  a9 := Tryz.isAgg9
  z9 := Tryz.sizeOf9
  v9 := Tryz.zeroValue9 }
open Go.RowKit Go.Lib in
/-- strings.HasPrefix: "HasPrefix reports whether the string s begins with prefix.": IT RETURNS 'Lib.hasPrefix s prefix'; the world is as it was. (LAID: no walk: one application.) -/
theorem Tryz.strings_HasPrefix (s p : ByteArray) (w : World) :
    Calls Tryz.prog 122 #[.string s, .string p] w fun e w' => e = .returned (.bool (Lib.hasPrefix s.data.toList p.data.toList)) ∧ w' = w := Any.strings_HasPrefix Tryz.lays99 s p w
def Tryz.lays101_ren : Go.Shelf.Ren := ⟨fun | 101 => 120 | 208 => 140 | 206 => 148 | n => n, fun | 9 => 9 | 4 => 4 | 3 => 3 | n => n, fun | n => n⟩
theorem Tryz.lays101 : Go.Proofs.Lays.n101 Tryz.prog Tryz.lays101_ren := {
  mixed := by kernel_rfl
  f101 := Tryz.func120.trans (congrArg some (by kernel_rfl))
  f206 := Tryz.func148.trans (congrArg some (by kernel_rfl))
  f208 := Tryz.func140.trans (congrArg some (by kernel_rfl))
  t3 := Tryz.underlying3
  a3 := Tryz.isAgg3
  z3 := Tryz.sizeOf3
  v3 := Tryz.zeroValue3
  t4 := Tryz.underlying4
  a4 := Tryz.isAgg4
  z4 := Tryz.sizeOf4
  v4 := Tryz.zeroValue4
  t9 := Tryz.underlying9
  a9 := Tryz.isAgg9
  z9 := Tryz.sizeOf9
  v9 := Tryz.zeroValue9 }
open Go.RowKit Go.Lib in
/-- strings.TrimPrefix: "TrimPrefix returns s without the provided leading prefix string. If s doesn't start with prefix, s is returned unchanged.": IT RETURNS 'Lib.trimPrefix s prefix'; the world is as it was. (LAID: no walk: one application.) -/
theorem Tryz.strings_TrimPrefix (s p : ByteArray) (w : World) :
    Calls Tryz.prog 120 #[.string s, .string p] w fun e w' => e = .returned (.string ⟨(Lib.trimPrefix s.data.toList p.data.toList).toArray⟩) ∧ w' = w := Any.strings_TrimPrefix Tryz.lays101 s p w
def Tryz.lays160_ren : Go.Shelf.Ren := ⟨fun | 160 => 121 | 232 => 142 | 231 => 141 | 227 => 143 | 234 => 145 | 233 => 144 | 236 => 147 | 235 => 146 | 228 => 161 | 271 => 164 | 151 => 163 | 197 => 162 | 120 => 183 | 152 => 182 | 260 => 181 | 137 => 195 | 119 => 196 | 224 => 178 | 225 => 177 | 217 => 176 | 266 => 193 | n => n, fun | 9 => 9 | 4 => 4 | 3 => 3 | 5 => 5 | 117 => 153 | 116 => 152 | 0 => 0 | 124 => 156 | 21 => 21 | 105 => 171 | 46 => 190 | 119 => 207 | 139 => 210 | 138 => 209 | n => n, fun | 3 => 4 | 4 => 5 | n => n⟩
theorem Tryz.lays160 : Go.Proofs.Lays.n160 Tryz.prog Tryz.lays160_ren := {
  mixed := by kernel_rfl
  f119 := Tryz.func196.trans (congrArg some (by kernel_rfl))
  f120 := Tryz.func183.trans (congrArg some (by kernel_rfl))
  f137 := Tryz.func195.trans (congrArg some (by kernel_rfl))
  f151 := Tryz.func163.trans (congrArg some (by kernel_rfl))
  f152 := Tryz.func182.trans (congrArg some (by kernel_rfl))
  f160 := Tryz.func121.trans (congrArg some (by kernel_rfl))
  f197 := Tryz.func162.trans (congrArg some (by kernel_rfl))
  f217 := Tryz.func176.trans (congrArg some (by kernel_rfl))
  f224 := Tryz.func178.trans (congrArg some (by kernel_rfl))
  f225 := Tryz.func177.trans (congrArg some (by kernel_rfl))
  f227 := Tryz.func143.trans (congrArg some (by kernel_rfl))
  f228 := Tryz.func161.trans (congrArg some (by kernel_rfl))
  f231 := Tryz.func141.trans (congrArg some (by kernel_rfl))
  f232 := Tryz.func142.trans (congrArg some (by kernel_rfl))
  f233 := Tryz.func144.trans (congrArg some (by kernel_rfl))
  f234 := Tryz.func145.trans (congrArg some (by kernel_rfl))
  f235 := Tryz.func146.trans (congrArg some (by kernel_rfl))
  f236 := Tryz.func147.trans (congrArg some (by kernel_rfl))
  f260 := Tryz.func181.trans (congrArg some (by kernel_rfl))
  f266 := Tryz.func193.trans (congrArg some (by kernel_rfl))
  f271 := Tryz.func164.trans (congrArg some (by kernel_rfl))
  t0 := Tryz.underlying0
  a0 := Tryz.isAgg0
  z0 := Tryz.sizeOf0
  v0 := Tryz.zeroValue0
  t3 := Tryz.underlying3
  a3 := Tryz.isAgg3
  z3 := Tryz.sizeOf3
  v3 := Tryz.zeroValue3
  t4 := Tryz.underlying4
  a4 := Tryz.isAgg4
  z4 := Tryz.sizeOf4
  v4 := Tryz.zeroValue4
  t5 := Tryz.underlying5
  a5 := Tryz.isAgg5
  z5 := Tryz.sizeOf5
  v5 := Tryz.zeroValue5
  t9 := Tryz.underlying9
  a9 := Tryz.isAgg9
  z9 := Tryz.sizeOf9
  v9 := Tryz.zeroValue9
  t21 := Tryz.underlying21
  a21 := Tryz.isAgg21
  z21 := Tryz.sizeOf21
  v21 := Tryz.zeroValue21
  t46 := Tryz.underlying190
  a46 := Tryz.isAgg190
  z46 := Tryz.sizeOf190
  v46 := Tryz.zeroValue190
  t105 := Tryz.underlying171
  a105 := Tryz.isAgg171
  z105 := Tryz.sizeOf171
  v105 := Tryz.zeroValue171
  t116 := Tryz.underlying152
  a116 := Tryz.isAgg152
  z116 := Tryz.sizeOf152
  t117 := Tryz.underlying153
  a117 := Tryz.isAgg153
  z117 := Tryz.sizeOf153
  v117 := Tryz.zeroValue153
  t119 := Tryz.underlying207
  a119 := Tryz.isAgg207
  z119 := Tryz.sizeOf207
  t124 := Tryz.underlying156
  a124 := Tryz.isAgg156
  z124 := Tryz.sizeOf156
  v124 := Tryz.zeroValue156
  t138 := Tryz.underlying209
  a138 := Tryz.isAgg209
  z138 := Tryz.sizeOf209
  v138 := Tryz.zeroValue209
  t139 := Tryz.underlying210
  a139 := Tryz.isAgg210
  z139 := Tryz.sizeOf210
  v139 := Tryz.zeroValue210
  g3 := by kernel_rfl
  g4 := by kernel_rfl }
end Go.Proofs
