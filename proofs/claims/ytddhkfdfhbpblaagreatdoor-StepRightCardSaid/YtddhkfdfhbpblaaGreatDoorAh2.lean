/- A part of the proof: its steps, joined out of smaller texts. -/
import Derived.Test.YtddhkfdfhbpblaaGreatDoorAh1
import Derived.Shelf.Strings.Builder1
import Derived.Shelf.Strings.Builder2
import Derived.Shelf.Small.Utf8
import Derived.Shelf.Small.Strs
import Derived.Shelf.Small.Wraps
import Derived.Shelf.Strings.BuilderF
import Derived.Shelf.Strings.BuilderK
import Derived.Shelf.Strings.Builder2Cap
import Derived.Shelf.Strconv.Itoa0
import Derived.Shelf.Strconv.Itoa1
import Derived.Shelf.LaysM
import Derived.Shelf.Strconv.Itoa2
import Derived.Shelf.Strconv.Itoa3
import Derived.Shelf.Strconv.ParseIntEmpty
import Derived.Shelf.Strconv.Clone
import Derived.Shelf.Strconv.SyntaxError
import Derived.Shelf.LaysC
import Derived.Shelf.Strconv.ToError
import Derived.Shelf.Strconv.Lower
import Derived.Shelf.Strconv.ParseUint10
import Derived.Shelf.Strconv.ParseUint10Empty
import Derived.Shelf.Strconv.ParseUint10Any
import Derived.Shelf.Strconv.ParseInt10
import Derived.Shelf.Strconv.RangeError
import Derived.Shelf.Strconv.ToErrorRange
import Derived.Shelf.Strconv.ParseUintEmpty
import Derived.Shelf.Strconv.ParseUint10b64
import Derived.Shelf.Strconv.ParseUint10b32
import Derived.Shelf.Strconv.ParseUint10b16
import Derived.Shelf.Strconv.ParseUint10b8
import Derived.Shelf.Strconv.ParseUint10At
import Derived.Shelf.Strconv.ParseInt10At64
import Derived.Shelf.Strconv.ParseInt10At32
import Derived.Shelf.Strconv.ParseInt10At16
import Derived.Shelf.Strconv.ParseInt10At8
import Derived.Shelf.Strconv.ParseInt10All
import Derived.Shelf.Strconv.ParseIntPublic10
import Derived.Shelf.Strconv.ErrVarParseInt
import Derived.Ground.MpProg
import Derived.Shelf.Pu.ParseUintPublic10
import Derived.Shelf.Pu.ErrVarParseUint
import Derived.Shelf.Strings.Search1
import Derived.Shelf.Strings.Search2
import Derived.Shelf.Strings.Cut
import Derived.Shelf.Strings.Shaped
import Derived.Shelf.Strings.Prefix
import Derived.Shelf.Unicode.Decode
import Derived.Shelf.Strings.Runes
import Derived.Shelf.Strings.IndexAny
import Derived.Shelf.Strings.AsciiSet
import Derived.Shelf.Strings.IndexAnyAll
import Derived.Shelf.Bits.Mul64
import Derived.Shelf.Strings.Repeat
import Derived.Shelf.Unicode.DecodeSlow
import Derived.Shelf.Unicode.DecodeAny
import Derived.Shelf.Strings.BuilderCap
import Derived.Shelf.Bytes.SlIndexAt
import Derived.Shelf.Bytes.SlSearch0
import Derived.Shelf.Bytes.IndexByte
import Derived.Lib.AppendIntMem
import Derived.Lib.OthersKept
import Derived.Lib.RuneCountTail
import Derived.Lib.TrimUEq
import Derived.Lib.TrimU
import Derived.Laws.RangeAny
import Derived.Lib.MapLaws
set_option linter.unusedVariables false
set_option linter.unusedSimpArgs false
namespace Go.Proofs
open Go.Shelf
def Tryz.lays119_ren : Go.Shelf.Ren := ⟨fun | 119 => 208 | n => n, fun | 21 => 21 | 4 => 4 | n => n, fun | n => n⟩
theorem Tryz.lays119 : Go.Proofs.Lays.n119 Tryz.prog Tryz.lays119_ren := {
 mixed := by kernel_rfl
 f119 := Tryz.func208.trans (congrArg some (by kernel_rfl))
 t4 := Tryz.underlying4
 a4 := Tryz.isAgg4
 z4 := Tryz.sizeOf4
 v4 := Tryz.zeroValue4
 t21 := Tryz.underlying21
 a21 := Tryz.isAgg21
 z21 := Tryz.sizeOf21
 v21 := Tryz.zeroValue21 }
theorem Tryz.utf8_ValidRune (r : Int) (w : World) :
  Calls Tryz.prog 208 #[.int .i32 r] w fun e w' => e = .returned (.bool (Lib.validRune r)) ∧ w' = w := Any.utf8_ValidRune Tryz.lays119 r w
def Tryz.lays106_ren : Go.Shelf.Ren := ⟨fun | 106 => 152 | 213 => 167 | 265 => 188 | n => n, fun | 9 => 9 | 3 => 3 | n => n, fun | n => n⟩
theorem Tryz.lays106 : Go.Proofs.Lays.n106 Tryz.prog Tryz.lays106_ren := {
 mixed := by kernel_rfl
 f106 := Tryz.func152.trans (congrArg some (by kernel_rfl))
 f213 := Tryz.func167.trans (congrArg some (by kernel_rfl))
 f265 := Tryz.func188.trans (congrArg some (by kernel_rfl))
 t3 := Tryz.underlying3
 a3 := Tryz.isAgg3
 z3 := Tryz.sizeOf3
 v3 := Tryz.zeroValue3
 t9 := Tryz.underlying9
 a9 := Tryz.isAgg9
 z9 := Tryz.sizeOf9
 v9 := Tryz.zeroValue9 }
open Go.RowKit in
theorem Tryz.strings_Compare (a b : ByteArray) (w : World) :
  Calls Tryz.prog 152 #[.string a, .string b] w fun e w' => e = .returned (.int .i64 (Lib.compareBytes a.data.toList b.data.toList)) ∧ w' = w := Any.strings_Compare Tryz.lays106 a b w
def Tryz.lays137_ren : Go.Shelf.Ren := ⟨fun | 137 => 123 | 217 => 144 | 266 => 162 | n => n, fun | 9 => 9 | 5 => 5 | 3 => 3 | n => n, fun | n => n⟩
theorem Tryz.lays137 : Go.Proofs.Lays.n137 Tryz.prog Tryz.lays137_ren := {
 mixed := by kernel_rfl
 f137 := Tryz.func123.trans (congrArg some (by kernel_rfl))
 f217 := Tryz.func144.trans (congrArg some (by kernel_rfl))
 f266 := Tryz.func162.trans (congrArg some (by kernel_rfl))
 t3 := Tryz.underlying3
 a3 := Tryz.isAgg3
 z3 := Tryz.sizeOf3
 v3 := Tryz.zeroValue3
 t5 := Tryz.underlying5
 a5 := Tryz.isAgg5
 z5 := Tryz.sizeOf5
 v5 := Tryz.zeroValue5
 t9 := Tryz.underlying9
 a9 := Tryz.isAgg9
 z9 := Tryz.sizeOf9
 v9 := Tryz.zeroValue9 }
open Go.RowKit in
theorem Tryz.strings_IndexByte (s : ByteArray) (c : Int) (w : World) :
  Calls Tryz.prog 123 #[.string s, .int .u8 c] w fun e w' => e = .returned (.int .i64 (Lib.indexByte s.data.toList c.toNat.toUInt8)) ∧ w' = w := Any.strings_IndexByte Tryz.lays137 s c w
def Tryz.laysC174_ren : Go.Shelf.Ren := ⟨fun | 174 => 177 | 247 => 198 | 245 => 199 | 287 => 212 | 279 => 214 | 280 => 215 | 281 => 216 | 282 => 217 | 321 => 224 | 322 => 225 | 316 => 138 | 171 => 227 | 205 => 226 | 243 => 230 | 246 => 231 | 283 => 232 | 284 => 233 | 285 => 234 | 286 => 235 | 129 => 237 | 317 => 236 | 318 => 238 | 319 => 239 | 320 => 240 | 337 => 241 | 338 => 242 | n => n, fun | 9 => 9 | 3 => 3 | 2 => 2 | 75 => 230 | 85 => 231 | 4 => 4 | 167 => 265 | 5 => 5 | 53 => 213 | 175 => 246 | 46 => 214 | 168 => 266 | 37 => 22 | 0 => 0 | 210 => 278 | 21 => 21 | 127 => 218 | 145 => 286 | 143 => 284 | 171 => 288 | 173 => 291 | 212 => 294 | 51 => 262 | 20 => 20 | 213 => 295 | 232 => 298 | 233 => 299 | 80 => 257 | n => n, fun | 15 => 3 | 16 => 4 | 17 => 5 | 18 => 6 | 19 => 7 | n => n⟩
theorem Tryz.laysC174 : Go.Proofs.LaysC.n174 Tryz.prog Tryz.laysC174_ren := {
 mixed := by kernel_rfl
 f129 := Tryz.func237.trans (congrArg some (by kernel_rfl))
 f171 := Tryz.func227.trans (congrArg some (by kernel_rfl))
 f174 := Tryz.func177.trans (congrArg some (by kernel_rfl))
 f205 := Tryz.func226.trans (congrArg some (by kernel_rfl))
 f243 := Tryz.func230.trans (congrArg some (by kernel_rfl))
 f245 := Tryz.func199.trans (congrArg some (by kernel_rfl))
 f246 := Tryz.func231.trans (congrArg some (by kernel_rfl))
 f247 := Tryz.func198.trans (congrArg some (by kernel_rfl))
 f279 := Tryz.func214.trans (congrArg some (by kernel_rfl))
 f280 := Tryz.func215.trans (congrArg some (by kernel_rfl))
 f281 := Tryz.func216.trans (congrArg some (by kernel_rfl))
 f282 := Tryz.func217.trans (congrArg some (by kernel_rfl))
 f283 := Tryz.func232.trans (congrArg some (by kernel_rfl))
 f284 := Tryz.func233.trans (congrArg some (by kernel_rfl))
 f285 := Tryz.func234.trans (congrArg some (by kernel_rfl))
 f286 := Tryz.func235.trans (congrArg some (by kernel_rfl))
 f287 := Tryz.func212.trans (congrArg some (by kernel_rfl))
 f316 := Tryz.func138.trans (congrArg some (by kernel_rfl))
 f317 := Tryz.func236.trans (congrArg some (by kernel_rfl))
 f318 := Tryz.func238.trans (congrArg some (by kernel_rfl))
 f319 := Tryz.func239.trans (congrArg some (by kernel_rfl))
 f320 := Tryz.func240.trans (congrArg some (by kernel_rfl))
 f321 := Tryz.func224.trans (congrArg some (by kernel_rfl))
 f322 := Tryz.func225.trans (congrArg some (by kernel_rfl))
 f337 := Tryz.func241.trans (congrArg some (by kernel_rfl))
 f338 := Tryz.func242.trans (congrArg some (by kernel_rfl))
 t0 := Tryz.underlying0
 a0 := Tryz.isAgg0
 z0 := Tryz.sizeOf0
 v0 := Tryz.zeroValue0
 t2 := Tryz.underlying2
 a2 := Tryz.isAgg2
 z2 := Tryz.sizeOf2
 v2 := Tryz.zeroValue2
 t3 := Tryz.underlying3
 a3 := Tryz.isAgg3
 z3 := Tryz.sizeOf3
 v3 := Tryz.zeroValue3
 t4 := Tryz.underlying4
 a4 := Tryz.isAgg4
 z4 := Tryz.sizeOf4
 v4 := Tryz.zeroValue4
 t5 := Tryz.underlying5
 a5 := Tryz.isAgg5
 z5 := Tryz.sizeOf5
 v5 := Tryz.zeroValue5
 t9 := Tryz.underlying9
 a9 := Tryz.isAgg9
 z9 := Tryz.sizeOf9
 v9 := Tryz.zeroValue9
 t20 := Tryz.underlying20
 a20 := Tryz.isAgg20
 z20 := Tryz.sizeOf20
 v20 := Tryz.zeroValue20
 t21 := Tryz.underlying21
 a21 := Tryz.isAgg21
 z21 := Tryz.sizeOf21
 v21 := Tryz.zeroValue21
 t37 := Tryz.underlying22
 a37 := Tryz.isAgg22
 z37 := Tryz.sizeOf22
 v37 := Tryz.zeroValue22
 t46 := Tryz.underlying214
 a46 := Tryz.isAgg214
 z46 := Tryz.sizeOf214
 v46 := Tryz.zeroValue214
 t51 := Tryz.underlying262
 a51 := Tryz.isAgg262
 z51 := Tryz.sizeOf262
 v51 := Tryz.zeroValue262
 t53 := Tryz.underlying213
 a53 := Tryz.isAgg213
 z53 := Tryz.sizeOf213
 v53 := Tryz.zeroValue213
 t75 := Tryz.underlying230
 a75 := Tryz.isAgg230
 z75 := Tryz.sizeOf230
 v75 := Tryz.zeroValue230
 t85 := Tryz.underlying231
 a85 := Tryz.isAgg231
 z85 := Tryz.sizeOf231
 v85 := Tryz.zeroValue231
 t127 := Tryz.underlying218
 a127 := Tryz.isAgg218
 z127 := Tryz.sizeOf218
 v127 := Tryz.zeroValue218
 t143 := Tryz.underlying284
 a143 := Tryz.isAgg284
 z143 := Tryz.sizeOf284
 v143 := Tryz.zeroValue284
 t145 := Tryz.underlying286
 a145 := Tryz.isAgg286
 z145 := Tryz.sizeOf286
 v145 := Tryz.zeroValue286
 t167 := Tryz.underlying265
 a167 := Tryz.isAgg265
 z167 := Tryz.sizeOf265
 v167 := Tryz.zeroValue265
 t168 := Tryz.underlying266
 a168 := Tryz.isAgg266
 z168 := Tryz.sizeOf266
 v168 := Tryz.zeroValue266
 t171 := Tryz.underlying288
 a171 := Tryz.isAgg288
 z171 := Tryz.sizeOf288
 v171 := Tryz.zeroValue288
 t173 := Tryz.underlying291
 a173 := Tryz.isAgg291
 z173 := Tryz.sizeOf291
 v173 := Tryz.zeroValue291
 t175 := Tryz.underlying246
 a175 := Tryz.isAgg246
 z175 := Tryz.sizeOf246
 v175 := Tryz.zeroValue246
 t210 := Tryz.underlying278
 a210 := Tryz.isAgg278
 z210 := Tryz.sizeOf278
 v210 := Tryz.zeroValue278
 t212 := Tryz.underlying294
 a212 := Tryz.isAgg294
 z212 := Tryz.sizeOf294
 v212 := Tryz.zeroValue294
 t213 := Tryz.underlying295
 a213 := Tryz.isAgg295
 z213 := Tryz.sizeOf295
 t232 := Tryz.underlying298
 a232 := Tryz.isAgg298
 z232 := Tryz.sizeOf298
 v232 := Tryz.zeroValue298
 t233 := Tryz.underlying299
 a233 := Tryz.isAgg299
 z233 := Tryz.sizeOf299
 v233 := Tryz.zeroValue299
 g15 := by kernel_rfl
 g16 := by kernel_rfl
 g17 := by kernel_rfl
 g18 := by kernel_rfl
 g19 := by kernel_rfl
 t80 := Tryz.underlying257
 a80 := Tryz.isAgg257
 z80 := Tryz.sizeOf257
 v80 := Tryz.zeroValue257
 i0 := by kernel_rfl
 i2 := by kernel_rfl
 i3 := by kernel_rfl
 i4 := by kernel_rfl
 i5 := by kernel_rfl
 i9 := by kernel_rfl
 i20 := by kernel_rfl
 i21 := by kernel_rfl
 i37 := by kernel_rfl
 i46 := by kernel_rfl
 i51 := by kernel_rfl
 i53 := by kernel_rfl
 i75 := by kernel_rfl
 i80 := by kernel_rfl
 i85 := by kernel_rfl
 i127 := by kernel_rfl
 i143 := by kernel_rfl
 i145 := by kernel_rfl
 i167 := by kernel_rfl
 i168 := by kernel_rfl
 i171 := by kernel_rfl
 i173 := by kernel_rfl
 i175 := by kernel_rfl
 i210 := by kernel_rfl
 i212 := by kernel_rfl
 i232 := by kernel_rfl
 i233 := by kernel_rfl
 m15 := by kernel_rfl
 m16 := by kernel_rfl
 m17 := by kernel_rfl
 m18 := by kernel_rfl
 m19 := by kernel_rfl
 c0 := by kernel_rfl
 c2 := by kernel_rfl
 c3 := by kernel_rfl
 c4 := by kernel_rfl
 c5 := by kernel_rfl
 c9 := by kernel_rfl
 c20 := by kernel_rfl
 c21 := by kernel_rfl
 c37 := by kernel_rfl
 c46 := by kernel_rfl
 c51 := by kernel_rfl
 c53 := by kernel_rfl
 c75 := by kernel_rfl
 c80 := by kernel_rfl
 c85 := by kernel_rfl
 c127 := by kernel_rfl
 c143 := by kernel_rfl
 c145 := by kernel_rfl
 c167 := by kernel_rfl
 c168 := by kernel_rfl
 c171 := by kernel_rfl
 c173 := by kernel_rfl
 c175 := by kernel_rfl
 c210 := by kernel_rfl
 c212 := by kernel_rfl
 c213 := by kernel_rfl
 c232 := by kernel_rfl
 c233 := by kernel_rfl }
open Go.RowKit in
theorem Tryz.strconv_ParseInt_10_at64_ok (s : ByteArray) (hmax : s.size ≤ 9223372036854775806) (v : Int) (h : Lib.parseIntB 64 s.data.toList = .ok v) (w : World) :
  Calls Tryz.prog 177 #[.string s, .int .i64 10, .int .i64 64] w fun e w' => e = .returned (.tuple #[.int .i64 v, .nilIface]) ∧ (w' = w ∨ ∃ t, w' = Lib.bytesWorld w 5 t) := Any.strconv_ParseInt_10_at64_ok Tryz.laysC174 s hmax v h w
def Tryz.laysPu14_ren : Go.Shelf.Ren := ⟨fun | 14 => 196 | 16 => 212 | 17 => 199 | 19 => 224 | 20 => 225 | 21 => 214 | 22 => 215 | 23 => 216 | 24 => 217 | 25 => 138 | 27 => 227 | 26 => 226 | 28 => 230 | 29 => 231 | 30 => 232 | 31 => 233 | 32 => 234 | 33 => 235 | 35 => 237 | 34 => 236 | 36 => 238 | 37 => 239 | 38 => 240 | 39 => 241 | 40 => 242 | n => n, fun | 9 => 9 | 3 => 3 | 22 => 213 | 24 => 230 | 25 => 246 | 4 => 4 | 34 => 265 | 5 => 5 | 36 => 214 | 37 => 22 | 0 => 0 | 39 => 266 | 21 => 21 | 44 => 278 | 47 => 218 | 50 => 286 | 48 => 284 | 2 => 2 | 52 => 288 | 55 => 291 | 59 => 294 | 60 => 262 | 20 => 20 | 61 => 295 | 65 => 298 | 66 => 299 | 67 => 257 | n => n, fun | 0 => 3 | 1 => 4 | 2 => 5 | 3 => 6 | 4 => 7 | n => n⟩
theorem Tryz.laysPu14 : Go.Proofs.LaysPu.n14 Tryz.prog Tryz.laysPu14_ren := {
 mixed := by kernel_rfl
 f14 := Tryz.func196.trans (congrArg some (by kernel_rfl))
 f16 := Tryz.func212.trans (congrArg some (by kernel_rfl))
 f17 := Tryz.func199.trans (congrArg some (by kernel_rfl))
 f19 := Tryz.func224.trans (congrArg some (by kernel_rfl))
 f20 := Tryz.func225.trans (congrArg some (by kernel_rfl))
 f21 := Tryz.func214.trans (congrArg some (by kernel_rfl))
 f22 := Tryz.func215.trans (congrArg some (by kernel_rfl))
 f23 := Tryz.func216.trans (congrArg some (by kernel_rfl))
 f24 := Tryz.func217.trans (congrArg some (by kernel_rfl))
 f25 := Tryz.func138.trans (congrArg some (by kernel_rfl))
 f26 := Tryz.func226.trans (congrArg some (by kernel_rfl))
 f27 := Tryz.func227.trans (congrArg some (by kernel_rfl))
 f28 := Tryz.func230.trans (congrArg some (by kernel_rfl))
 f29 := Tryz.func231.trans (congrArg some (by kernel_rfl))
 f30 := Tryz.func232.trans (congrArg some (by kernel_rfl))
 f31 := Tryz.func233.trans (congrArg some (by kernel_rfl))
 f32 := Tryz.func234.trans (congrArg some (by kernel_rfl))
 f33 := Tryz.func235.trans (congrArg some (by kernel_rfl))
 f34 := Tryz.func236.trans (congrArg some (by kernel_rfl))
 f35 := Tryz.func237.trans (congrArg some (by kernel_rfl))
 f36 := Tryz.func238.trans (congrArg some (by kernel_rfl))
 f37 := Tryz.func239.trans (congrArg some (by kernel_rfl))
 f38 := Tryz.func240.trans (congrArg some (by kernel_rfl))
 f39 := Tryz.func241.trans (congrArg some (by kernel_rfl))
 f40 := Tryz.func242.trans (congrArg some (by kernel_rfl))
 t0 := Tryz.underlying0
 a0 := Tryz.isAgg0
 z0 := Tryz.sizeOf0
 v0 := Tryz.zeroValue0
 i0 := by kernel_rfl
 t2 := Tryz.underlying2
 a2 := Tryz.isAgg2
 z2 := Tryz.sizeOf2
 v2 := Tryz.zeroValue2
 i2 := by kernel_rfl
 t3 := Tryz.underlying3
 a3 := Tryz.isAgg3
 z3 := Tryz.sizeOf3
 v3 := Tryz.zeroValue3
 i3 := by kernel_rfl
 t4 := Tryz.underlying4
 a4 := Tryz.isAgg4
 z4 := Tryz.sizeOf4
 v4 := Tryz.zeroValue4
 i4 := by kernel_rfl
 t5 := Tryz.underlying5
 a5 := Tryz.isAgg5
 z5 := Tryz.sizeOf5
 v5 := Tryz.zeroValue5
 i5 := by kernel_rfl
 t9 := Tryz.underlying9
 a9 := Tryz.isAgg9
 z9 := Tryz.sizeOf9
 v9 := Tryz.zeroValue9
 i9 := by kernel_rfl
 t20 := Tryz.underlying20
 a20 := Tryz.isAgg20
 z20 := Tryz.sizeOf20
 v20 := Tryz.zeroValue20
 i20 := by kernel_rfl
 t21 := Tryz.underlying21
 a21 := Tryz.isAgg21
 z21 := Tryz.sizeOf21
 v21 := Tryz.zeroValue21
 i21 := by kernel_rfl
 t22 := Tryz.underlying213
 a22 := Tryz.isAgg213
 z22 := Tryz.sizeOf213
 v22 := Tryz.zeroValue213
 i22 := by kernel_rfl
 t24 := Tryz.underlying230
 a24 := Tryz.isAgg230
 z24 := Tryz.sizeOf230
 v24 := Tryz.zeroValue230
 i24 := by kernel_rfl
 t25 := Tryz.underlying246
 a25 := Tryz.isAgg246
 z25 := Tryz.sizeOf246
 v25 := Tryz.zeroValue246
 i25 := by kernel_rfl
 t34 := Tryz.underlying265
 a34 := Tryz.isAgg265
 z34 := Tryz.sizeOf265
 v34 := Tryz.zeroValue265
 i34 := by kernel_rfl
 c34 := by kernel_rfl
 t36 := Tryz.underlying214
 a36 := Tryz.isAgg214
 z36 := Tryz.sizeOf214
 v36 := Tryz.zeroValue214
 i36 := by kernel_rfl
 t37 := Tryz.underlying22
 a37 := Tryz.isAgg22
 z37 := Tryz.sizeOf22
 v37 := Tryz.zeroValue22
 i37 := by kernel_rfl
 t39 := Tryz.underlying266
 a39 := Tryz.isAgg266
 z39 := Tryz.sizeOf266
 v39 := Tryz.zeroValue266
 i39 := by kernel_rfl
 t44 := Tryz.underlying278
 a44 := Tryz.isAgg278
 z44 := Tryz.sizeOf278
 v44 := Tryz.zeroValue278
 i44 := by kernel_rfl
 t47 := Tryz.underlying218
 a47 := Tryz.isAgg218
 z47 := Tryz.sizeOf218
 v47 := Tryz.zeroValue218
 i47 := by kernel_rfl
 t48 := Tryz.underlying284
 a48 := Tryz.isAgg284
 z48 := Tryz.sizeOf284
 v48 := Tryz.zeroValue284
 i48 := by kernel_rfl
 t50 := Tryz.underlying286
 a50 := Tryz.isAgg286
 z50 := Tryz.sizeOf286
 v50 := Tryz.zeroValue286
 i50 := by kernel_rfl
 t52 := Tryz.underlying288
 a52 := Tryz.isAgg288
 z52 := Tryz.sizeOf288
 v52 := Tryz.zeroValue288
 i52 := by kernel_rfl
 t55 := Tryz.underlying291
 a55 := Tryz.isAgg291
 z55 := Tryz.sizeOf291
 v55 := Tryz.zeroValue291
 i55 := by kernel_rfl
 t59 := Tryz.underlying294
 a59 := Tryz.isAgg294
 z59 := Tryz.sizeOf294
 v59 := Tryz.zeroValue294
 i59 := by kernel_rfl
 t60 := Tryz.underlying262
 a60 := Tryz.isAgg262
 z60 := Tryz.sizeOf262
 v60 := Tryz.zeroValue262
 i60 := by kernel_rfl
 t61 := Tryz.underlying295
 a61 := Tryz.isAgg295
 z61 := Tryz.sizeOf295
 t65 := Tryz.underlying298
 a65 := Tryz.isAgg298
 z65 := Tryz.sizeOf298
 v65 := Tryz.zeroValue298
 i65 := by kernel_rfl
 t66 := Tryz.underlying299
 a66 := Tryz.isAgg299
 z66 := Tryz.sizeOf299
 v66 := Tryz.zeroValue299
 i66 := by kernel_rfl
 t67 := Tryz.underlying257
 a67 := Tryz.isAgg257
 z67 := Tryz.sizeOf257
 v67 := Tryz.zeroValue257
 i67 := by kernel_rfl
 g0 := by kernel_rfl
 m0 := by kernel_rfl
 g1 := by kernel_rfl
 m1 := by kernel_rfl
 g2 := by kernel_rfl
 m2 := by kernel_rfl
 g3 := by kernel_rfl
 m3 := by kernel_rfl
 g4 := by kernel_rfl
 m4 := by kernel_rfl }
open Go.RowKit in
theorem Tryz.strconv_ParseUint_10_at64_ok (s : ByteArray) (hmax : s.size ≤ 9223372036854775806) (u : Nat) (h : Lib.parseUintB 64 s.data.toList = .ok u) (w : World) :
  Calls Tryz.prog 196 #[.string s, .int .i64 10, .int .i64 64] w fun e w' => e = .returned (.tuple #[.int .u64 u, .nilIface]) ∧ (w' = w ∨ w' = Lib.bytesWorld w 5 s) := Any.strconv_ParseUint_10_at64_ok Tryz.laysPu14 s hmax u h w
open Go.RowKit in
theorem Tryz.strconv_ParseUint_10_at64_syntax (s : ByteArray) (hlim : s.size ≤ 281474976710656) (h : Lib.parseUintB 64 s.data.toList = Lib.parseUintB 64 []) (ev : Value) (w : World) (hv : w.cell? ⟨3, 0, none⟩ = some ev) (hev : ev = .nilIface ∨ ∃ te pe, ev = .iface te pe) :
  Calls Tryz.prog 196 #[.string s, .int .i64 10, .int .i64 64] w fun e w' => ∃ N, e = .returned (.tuple #[.int .u64 0, .iface 266 (.pointer (some ⟨N, 0, none⟩))]) ∧ w.heap.size ≤ N ∧ w'.heap[N]? = some (.cells #[.string ⟨#[80, 97, 114, 115, 101, 85, 105, 110, 116]⟩, .string s, ev] 278 (0, 0)) ∧ Below w.heap.size w w' := Any.strconv_ParseUint_10_at64_syntax Tryz.laysPu14 s hlim (h.trans (show Lib.parseUintB 64 [] = _ from if_pos rfl)) ev w hv hev
open Go.RowKit in
theorem Tryz.strconv_ParseUint_10_at64_range (s : ByteArray) (hlim : s.size ≤ 281474976710656) (h : Lib.parseUintB 64 s.data.toList = .range) (ev : Value) (w : World) (hv : w.cell? ⟨4, 0, none⟩ = some ev) (hev : ev = .nilIface ∨ ∃ te pe, ev = .iface te pe) :
  Calls Tryz.prog 196 #[.string s, .int .i64 10, .int .i64 64] w fun e w' => ∃ N, e = .returned (.tuple #[.int .u64 18446744073709551615, .iface 266 (.pointer (some ⟨N, 0, none⟩))]) ∧ w.heap.size ≤ N ∧ w'.heap[N]? = some (.cells #[.string ⟨#[80, 97, 114, 115, 101, 85, 105, 110, 116]⟩, .string s, ev] 278 (0, 0)) ∧ Below w.heap.size w w' := Any.strconv_ParseUint_10_at64_range Tryz.laysPu14 s hlim h ev w hv hev
def Tryz.lays217_ren : Go.Shelf.Ren := ⟨fun | 217 => 144 | 266 => 162 | n => n, fun | 9 => 9 | 5 => 5 | 3 => 3 | n => n, fun | n => n⟩
theorem Tryz.lays217 : Go.Proofs.Lays.n217 Tryz.prog Tryz.lays217_ren := {
 mixed := by kernel_rfl
 f217 := Tryz.func144.trans (congrArg some (by kernel_rfl))
 f266 := Tryz.func162.trans (congrArg some (by kernel_rfl))
 t3 := Tryz.underlying3
 a3 := Tryz.isAgg3
 z3 := Tryz.sizeOf3
 v3 := Tryz.zeroValue3
 t5 := Tryz.underlying5
 a5 := Tryz.isAgg5
 z5 := Tryz.sizeOf5
 v5 := Tryz.zeroValue5
 t9 := Tryz.underlying9
 a9 := Tryz.isAgg9
 z9 := Tryz.sizeOf9
 v9 := Tryz.zeroValue9 }
open Go.RowKit Go.Lib in
theorem Tryz.stringslite_IndexByte (s : ByteArray) (c : Int) (w : World) :
  Calls Tryz.prog 144 #[.string s, .int .u8 c] w fun e w' => e = .returned (.int .i64 (Lib.indexByte s.data.toList c.toNat.toUInt8)) ∧ w' = w := Any.stringslite_IndexByte Tryz.lays217 s c w
def Tryz.lays145_ren : Go.Shelf.Ren := ⟨fun | 145 => 129 | 220 => 149 | 219 => 166 | 217 => 144 | 225 => 185 | 224 => 186 | 267 => 187 | 266 => 162 | 314 => 209 | n => n, fun | 9 => 9 | 4 => 4 | 59 => 193 | 3 => 3 | 5 => 5 | 46 => 214 | 146 => 263 | 51 => 262 | n => n, fun | 1 => 0 | n => n⟩
theorem Tryz.lays145 : Go.Proofs.Lays.n145 Tryz.prog Tryz.lays145_ren := {
 mixed := by kernel_rfl
 f145 := Tryz.func129.trans (congrArg some (by kernel_rfl))
 f217 := Tryz.func144.trans (congrArg some (by kernel_rfl))
 f219 := Tryz.func166.trans (congrArg some (by kernel_rfl))
 f220 := Tryz.func149.trans (congrArg some (by kernel_rfl))
 f224 := Tryz.func186.trans (congrArg some (by kernel_rfl))
 f225 := Tryz.func185.trans (congrArg some (by kernel_rfl))
 f266 := Tryz.func162.trans (congrArg some (by kernel_rfl))
 f267 := Tryz.func187.trans (congrArg some (by kernel_rfl))
 f314 := Tryz.func209.trans (congrArg some (by kernel_rfl))
 t3 := Tryz.underlying3
 a3 := Tryz.isAgg3
 z3 := Tryz.sizeOf3
 v3 := Tryz.zeroValue3
 t4 := Tryz.underlying4
 a4 := Tryz.isAgg4
 z4 := Tryz.sizeOf4
 v4 := Tryz.zeroValue4
 t5 := Tryz.underlying5
 a5 := Tryz.isAgg5
 z5 := Tryz.sizeOf5
 v5 := Tryz.zeroValue5
 t9 := Tryz.underlying9
 a9 := Tryz.isAgg9
 z9 := Tryz.sizeOf9
 v9 := Tryz.zeroValue9
 t46 := Tryz.underlying214
 a46 := Tryz.isAgg214
 z46 := Tryz.sizeOf214
 v46 := Tryz.zeroValue214
 t51 := Tryz.underlying262
 a51 := Tryz.isAgg262
 z51 := Tryz.sizeOf262
 v51 := Tryz.zeroValue262
 t59 := Tryz.underlying193
 a59 := Tryz.isAgg193
 z59 := Tryz.sizeOf193
 v59 := Tryz.zeroValue193
 t146 := Tryz.underlying263
 a146 := Tryz.isAgg263
 z146 := Tryz.sizeOf263
 v146 := Tryz.zeroValue263
 g1 := by kernel_rfl }
open Go.RowKit Go.Lib in
theorem Tryz.strings_Cut (s sep : ByteArray) (m : Int) (w : World) (hs : s.size < 4294967281) (hm : w.cell? ⟨0, 0, none⟩ = some (.int .i64 m)) :
  Calls Tryz.prog 129 #[.string s, .string sep] w fun e w' => e = .returned (.tuple #[.string ⟨(Lib.cut s.data.toList sep.data.toList).1.toArray⟩, .string ⟨(Lib.cut s.data.toList sep.data.toList).2.1.toArray⟩, .bool (Lib.cut s.data.toList sep.data.toList).2.2]) ∧ ∃ n, w' = w.drewN n := Any.strings_Cut Tryz.lays145 s sep m w hs hm
def Tryz.lays197_ren : Go.Shelf.Ren := ⟨fun | 197 => 207 | 260 => 222 | n => n, fun | 9 => 9 | 21 => 21 | 3 => 3 | 4 => 4 | 5 => 5 | 105 => 243 | 119 => 272 | 0 => 0 | 46 => 214 | 139 => 275 | 138 => 274 | n => n, fun | 3 => 1 | 4 => 2 | n => n⟩
theorem Tryz.lays197 : Go.Proofs.Lays.n197 Tryz.prog Tryz.lays197_ren := {
 mixed := by kernel_rfl
 f197 := Tryz.func207.trans (congrArg some (by kernel_rfl))
 f260 := Tryz.func222.trans (congrArg some (by kernel_rfl))
 t0 := Tryz.underlying0
 a0 := Tryz.isAgg0
 z0 := Tryz.sizeOf0
 v0 := Tryz.zeroValue0
 t3 := Tryz.underlying3
 a3 := Tryz.isAgg3
 z3 := Tryz.sizeOf3
 v3 := Tryz.zeroValue3
 t4 := Tryz.underlying4
 a4 := Tryz.isAgg4
 z4 := Tryz.sizeOf4
 v4 := Tryz.zeroValue4
 t5 := Tryz.underlying5
 a5 := Tryz.isAgg5
 z5 := Tryz.sizeOf5
 v5 := Tryz.zeroValue5
 t9 := Tryz.underlying9
 a9 := Tryz.isAgg9
 z9 := Tryz.sizeOf9
 v9 := Tryz.zeroValue9
 t21 := Tryz.underlying21
 a21 := Tryz.isAgg21
 z21 := Tryz.sizeOf21
 v21 := Tryz.zeroValue21
 t46 := Tryz.underlying214
 a46 := Tryz.isAgg214
 z46 := Tryz.sizeOf214
 v46 := Tryz.zeroValue214
 t105 := Tryz.underlying243
 a105 := Tryz.isAgg243
 z105 := Tryz.sizeOf243
 v105 := Tryz.zeroValue243
 t119 := Tryz.underlying272
 a119 := Tryz.isAgg272
 z119 := Tryz.sizeOf272
 t138 := Tryz.underlying274
 a138 := Tryz.isAgg274
 z138 := Tryz.sizeOf274
 v138 := Tryz.zeroValue274
 t139 := Tryz.underlying275
 a139 := Tryz.isAgg275
 z139 := Tryz.sizeOf275
 v139 := Tryz.zeroValue275
 g3 := by kernel_rfl
 g4 := by kernel_rfl }
def Tryz.lays152_ren : Go.Shelf.Ren := ⟨fun | 152 => 181 | 137 => 123 | 119 => 208 | 224 => 186 | 225 => 185 | 217 => 144 | 266 => 162 | n => n, fun | 9 => 9 | 21 => 21 | 3 => 3 | 4 => 4 | 5 => 5 | 0 => 0 | 46 => 214 | n => n, fun | n => n⟩
theorem Tryz.lays152 : Go.Proofs.Lays.n152 Tryz.prog Tryz.lays152_ren := {
 mixed := by kernel_rfl
 f119 := Tryz.func208.trans (congrArg some (by kernel_rfl))
 f137 := Tryz.func123.trans (congrArg some (by kernel_rfl))
 f152 := Tryz.func181.trans (congrArg some (by kernel_rfl))
 f217 := Tryz.func144.trans (congrArg some (by kernel_rfl))
 f224 := Tryz.func186.trans (congrArg some (by kernel_rfl))
 f225 := Tryz.func185.trans (congrArg some (by kernel_rfl))
 f266 := Tryz.func162.trans (congrArg some (by kernel_rfl))
 t0 := Tryz.underlying0
 a0 := Tryz.isAgg0
 z0 := Tryz.sizeOf0
 v0 := Tryz.zeroValue0
 t3 := Tryz.underlying3
 a3 := Tryz.isAgg3
 z3 := Tryz.sizeOf3
 v3 := Tryz.zeroValue3
 t4 := Tryz.underlying4
 a4 := Tryz.isAgg4
 z4 := Tryz.sizeOf4
 v4 := Tryz.zeroValue4
 t5 := Tryz.underlying5
 a5 := Tryz.isAgg5
 z5 := Tryz.sizeOf5
 v5 := Tryz.zeroValue5
 t9 := Tryz.underlying9
 a9 := Tryz.isAgg9
 z9 := Tryz.sizeOf9
 v9 := Tryz.zeroValue9
 t21 := Tryz.underlying21
 a21 := Tryz.isAgg21
 z21 := Tryz.sizeOf21
 v21 := Tryz.zeroValue21
 t46 := Tryz.underlying214
 a46 := Tryz.isAgg214
 z46 := Tryz.sizeOf214
 v46 := Tryz.zeroValue214 }
open Go.RowKit Go.Lib in
theorem Tryz.strings_IndexRune_ascii (s : ByteArray) (r : Int) (w : World) (h0 : 0 ≤ r) (h1 : r < 128) :
  Calls Tryz.prog 181 #[.string s, .int .i32 r] w fun e w' => e = .returned (.int .i64 (Lib.indexByte s.data.toList r.toNat.toUInt8)) ∧ w' = w := Any.strings_IndexRune_ascii Tryz.lays152 s r w h0 h1
def Tryz.lays226_ren : Go.Shelf.Ren := ⟨fun | 226 => 182 | n => n, fun | 3 => 3 | 4 => 4 | n => n, fun | n => n⟩
theorem Tryz.lays226 : Go.Proofs.Lays.n226 Tryz.prog Tryz.lays226_ren := {
 mixed := by kernel_rfl
 f226 := Tryz.func182.trans (congrArg some (by kernel_rfl))
 t3 := Tryz.underlying3
 a3 := Tryz.isAgg3
 z3 := Tryz.sizeOf3
 v3 := Tryz.zeroValue3
 t4 := Tryz.underlying4
 a4 := Tryz.isAgg4
 z4 := Tryz.sizeOf4
 v4 := Tryz.zeroValue4 }
open Go.RowKit Go.Lib in
theorem Tryz.strings_shouldUseASCIISet (n : Int) (w : World) :
  Calls Tryz.prog 182 #[.int .i64 n] w fun e w' => e = .returned (.bool (decide (8 < n))) ∧ w' = w := Any.strings_shouldUseASCIISet Tryz.lays226 n w
def Tryz.lays153_ren : Go.Shelf.Ren := ⟨fun | 153 => 164 | 152 => 181 | 226 => 182 | 227 => 183 | 228 => 184 | 137 => 123 | 119 => 208 | 224 => 186 | 225 => 185 | 217 => 144 | 266 => 162 | n => n, fun | 9 => 9 | 3 => 3 | 4 => 4 | 5 => 5 | 21 => 21 | 117 => 239 | 116 => 238 | 0 => 0 | 46 => 214 | 124 => 261 | n => n, fun | n => n⟩
theorem Tryz.lays153 : Go.Proofs.Lays.n153 Tryz.prog Tryz.lays153_ren := {
 mixed := by kernel_rfl
 f119 := Tryz.func208.trans (congrArg some (by kernel_rfl))
 f137 := Tryz.func123.trans (congrArg some (by kernel_rfl))
 f152 := Tryz.func181.trans (congrArg some (by kernel_rfl))
 f153 := Tryz.func164.trans (congrArg some (by kernel_rfl))
 f217 := Tryz.func144.trans (congrArg some (by kernel_rfl))
 f224 := Tryz.func186.trans (congrArg some (by kernel_rfl))
 f225 := Tryz.func185.trans (congrArg some (by kernel_rfl))
 f226 := Tryz.func182.trans (congrArg some (by kernel_rfl))
 f227 := Tryz.func183.trans (congrArg some (by kernel_rfl))
 f228 := Tryz.func184.trans (congrArg some (by kernel_rfl))
 f266 := Tryz.func162.trans (congrArg some (by kernel_rfl))
 t0 := Tryz.underlying0
 a0 := Tryz.isAgg0
 z0 := Tryz.sizeOf0
 v0 := Tryz.zeroValue0
 t3 := Tryz.underlying3
 a3 := Tryz.isAgg3
 z3 := Tryz.sizeOf3
 v3 := Tryz.zeroValue3
 t4 := Tryz.underlying4
 a4 := Tryz.isAgg4
 z4 := Tryz.sizeOf4
 v4 := Tryz.zeroValue4
 t5 := Tryz.underlying5
 a5 := Tryz.isAgg5
 z5 := Tryz.sizeOf5
 v5 := Tryz.zeroValue5
 t9 := Tryz.underlying9
 a9 := Tryz.isAgg9
 z9 := Tryz.sizeOf9
 v9 := Tryz.zeroValue9
 t21 := Tryz.underlying21
 a21 := Tryz.isAgg21
 z21 := Tryz.sizeOf21
 v21 := Tryz.zeroValue21
 t46 := Tryz.underlying214
 a46 := Tryz.isAgg214
 z46 := Tryz.sizeOf214
 v46 := Tryz.zeroValue214
 t116 := Tryz.underlying238
 a116 := Tryz.isAgg238
 z116 := Tryz.sizeOf238
 t117 := Tryz.underlying239
 a117 := Tryz.isAgg239
 z117 := Tryz.sizeOf239
 v117 := Tryz.zeroValue239
 t124 := Tryz.underlying261
 a124 := Tryz.isAgg261
 z124 := Tryz.sizeOf261
 v124 := Tryz.zeroValue261 }
open Go.RowKit Go.Lib in
theorem Tryz.strings_IndexAny_long (hv116 : ∀ w, (zeroValue 238).run Tryz.prog w = .ok (.agg (Array.replicate 256 (.bool false))) w) (s chars : ByteArray) (w : World) (h2 : 2 ≤ chars.size) (h8 : 8 < s.size) (hs : s.size < 4294967281) (hcs : chars.size < 4294967281) (hascii : ∀ (j : Nat) b, chars.data.toList[j]? = some b → b.toNat < 128) :
  Calls Tryz.prog 164 #[.string s, .string chars] w fun e w' => e = .returned (.int .i64 (Lib.indexAny s.data.toList chars.data.toList)) ∧ w' = ((w.alloc (.cells (Lib.setCells chars.data.toList) 238)).alloc (.cells (Lib.setCells chars.data.toList) 238)) := Any.strings_IndexAny_long Tryz.lays153 hv116 (by kernel_rfl) s chars w h2 h8 hs hcs hascii
def Tryz.lays105_ren : Go.Shelf.Ren := ⟨fun | 105 => 178 | 212 => 200 | 99 => 201 | 165 => 202 | 166 => 203 | 170 => 204 | 169 => 205 | 263 => 218 | 264 => 219 | 206 => 213 | 240 => 220 | 241 => 221 | 276 => 228 | 277 => 229 | n => n, fun | 9 => 9 | 3 => 3 | 4 => 4 | 20 => 20 | 0 => 0 | 46 => 214 | 109 => 249 | 5 => 5 | 72 => 253 | 76 => 255 | 51 => 262 | 146 => 263 | 53 => 213 | 148 => 270 | 70 => 251 | 37 => 22 | 75 => 230 | 127 => 218 | 164 => 281 | 80 => 257 | n => n, fun | n => n⟩
theorem Tryz.lays105 : Go.Proofs.Lays.n105 Tryz.prog Tryz.lays105_ren := {
 mixed := by kernel_rfl
 f99 := Tryz.func201.trans (congrArg some (by kernel_rfl))
 f105 := Tryz.func178.trans (congrArg some (by kernel_rfl))
 f165 := Tryz.func202.trans (congrArg some (by kernel_rfl))
 f166 := Tryz.func203.trans (congrArg some (by kernel_rfl))
 f169 := Tryz.func205.trans (congrArg some (by kernel_rfl))
 f170 := Tryz.func204.trans (congrArg some (by kernel_rfl))
 f206 := Tryz.func213.trans (congrArg some (by kernel_rfl))
 f212 := Tryz.func200.trans (congrArg some (by kernel_rfl))
 f240 := Tryz.func220.trans (congrArg some (by kernel_rfl))
 f241 := Tryz.func221.trans (congrArg some (by kernel_rfl))
 f263 := Tryz.func218.trans (congrArg some (by kernel_rfl))
 f264 := Tryz.func219.trans (congrArg some (by kernel_rfl))
 f276 := Tryz.func228.trans (congrArg some (by kernel_rfl))
 f277 := Tryz.func229.trans (congrArg some (by kernel_rfl))
 t0 := Tryz.underlying0
 a0 := Tryz.isAgg0
 z0 := Tryz.sizeOf0
 v0 := Tryz.zeroValue0
 t3 := Tryz.underlying3
 a3 := Tryz.isAgg3
 z3 := Tryz.sizeOf3
 v3 := Tryz.zeroValue3
 t4 := Tryz.underlying4
 a4 := Tryz.isAgg4
 z4 := Tryz.sizeOf4
 v4 := Tryz.zeroValue4
 t5 := Tryz.underlying5
 a5 := Tryz.isAgg5
 z5 := Tryz.sizeOf5
 v5 := Tryz.zeroValue5
 t9 := Tryz.underlying9
 a9 := Tryz.isAgg9
 z9 := Tryz.sizeOf9
 v9 := Tryz.zeroValue9
 t20 := Tryz.underlying20
 a20 := Tryz.isAgg20
 z20 := Tryz.sizeOf20
 v20 := Tryz.zeroValue20
 t37 := Tryz.underlying22
 a37 := Tryz.isAgg22
 z37 := Tryz.sizeOf22
 v37 := Tryz.zeroValue22
 t46 := Tryz.underlying214
 a46 := Tryz.isAgg214
 z46 := Tryz.sizeOf214
 v46 := Tryz.zeroValue214
 t51 := Tryz.underlying262
 a51 := Tryz.isAgg262
 z51 := Tryz.sizeOf262
 v51 := Tryz.zeroValue262
 t53 := Tryz.underlying213
 a53 := Tryz.isAgg213
 z53 := Tryz.sizeOf213
 v53 := Tryz.zeroValue213
 t70 := Tryz.underlying251
 a70 := Tryz.isAgg251
 z70 := Tryz.sizeOf251
 v70 := Tryz.zeroValue251
 t72 := Tryz.underlying253
 a72 := Tryz.isAgg253
 z72 := Tryz.sizeOf253
 v72 := Tryz.zeroValue253
 t75 := Tryz.underlying230
 a75 := Tryz.isAgg230
 z75 := Tryz.sizeOf230
 v75 := Tryz.zeroValue230
 t76 := Tryz.underlying255
 a76 := Tryz.isAgg255
 z76 := Tryz.sizeOf255
 v76 := Tryz.zeroValue255
 t109 := Tryz.underlying249
 a109 := Tryz.isAgg249
 z109 := Tryz.sizeOf249
 v109 := Tryz.zeroValue249
 t127 := Tryz.underlying218
 a127 := Tryz.isAgg218
 z127 := Tryz.sizeOf218
 v127 := Tryz.zeroValue218
 t146 := Tryz.underlying263
 a146 := Tryz.isAgg263
 z146 := Tryz.sizeOf263
 v146 := Tryz.zeroValue263
 t148 := Tryz.underlying270
 a148 := Tryz.isAgg270
 z148 := Tryz.sizeOf270
 v148 := Tryz.zeroValue270
 t164 := Tryz.underlying281
 a164 := Tryz.isAgg281
 z164 := Tryz.sizeOf281
 v164 := Tryz.zeroValue281 }
theorem Tryz.Builder_Extra_105 : Builder.Extra Tryz.prog Tryz.lays105_ren := {
 sizeBuilder := by kernel_rfl
 liesBuilder := by kernel_rfl
 t5 := Tryz.underlying5
 a5 := Tryz.isAgg5
 z5 := Tryz.sizeOf5
 v5 := Tryz.zeroValue5
 infoByte := by kernel_rfl
 cellsByte := by kernel_rfl
 sizeByte := by kernel_rfl
 neB5 := by decide }
open Go.RowKit Go.Lib in
theorem Tryz.strings_Repeat (s : ByteArray) (c : Nat) (w : World) (hc : c ≤ 9223372036854775807) (hlen : s.size * c ≤ 140737488355328) :
  Calls Tryz.prog 178 #[.string s, .int .i64 c] w fun e w' => e = .returned (.string ⟨(Lib.repeatL s.data.toList c).toArray⟩) ∧ Below w.heap.size w w' := Any.strings_Repeat Tryz.lays105 Tryz.Builder_Extra_105 s c w hc hlen
open Go.RowKit Go.Lib in
theorem Tryz.utf8_DecodeRuneInString (s : ByteArray) (w : World) (hT : Lib.Utf8Tabs 1 2 w) :
  Calls Tryz.prog 207 #[.string s] w fun e w' => e = .returned (.tuple #[.int .i32 (Lib.decodeGo s).1, .int .i64 (Lib.decodeGo s).2]) ∧ Below w.heap.size w w' := Any.utf8_DecodeRuneInString Tryz.lays197 s w hT
def Tryz.lays187_ren : Go.Shelf.Ren := ⟨fun | 187 => 96 | 255 => 127 | n => n, fun | 37 => 22 | 5 => 5 | 3 => 3 | n => n, fun | n => n⟩
theorem Tryz.lays187 : Go.Proofs.Lays.n187 Tryz.prog Tryz.lays187_ren := {
 mixed := by kernel_rfl
 f187 := Tryz.func96.trans (congrArg some (by kernel_rfl))
 f255 := Tryz.func127.trans (congrArg some (by kernel_rfl))
 t3 := Tryz.underlying3
 a3 := Tryz.isAgg3
 z3 := Tryz.sizeOf3
 v3 := Tryz.zeroValue3
 t5 := Tryz.underlying5
 a5 := Tryz.isAgg5
 z5 := Tryz.sizeOf5
 v5 := Tryz.zeroValue5
 t37 := Tryz.underlying22
 a37 := Tryz.isAgg22
 z37 := Tryz.sizeOf22
 v37 := Tryz.zeroValue22 }
open Go.RowKit Go.Lib in
theorem Tryz.bytes_IndexByte_at (a : Addr) (n c : Nat) (xs : List Int) (cv : Int) (w : World) (hx : xs.length = n) (hc : ∀ i, i < n → w.cell? (a.add i) = some (.int .u8 (xs.getD i 0))) :
  Calls Tryz.prog 96 #[.slice (some a) n c, .int .u8 cv] w fun e w' => e = .returned (.int .i64 (Lib.indexByte (Lib.bytesOf xs) cv.toNat.toUInt8)) ∧ w' = w := Any.bytes_IndexByte_at Tryz.lays187 a n c xs cv w hx hc
end Go.Proofs
namespace Go.Proofs.YtddhkfdfhbpblaaGreatDoor.P
open Go.RowKit Go.Proofs.YtddhkfdfhbpblaaGreatDoorW.PrintWords Go.Proofs.YtddhkfdfhbpblaaGreatDoorW.PrintLast Go.Proofs.YtddhkfdfhbpblaaGreatDoorW.PrintMore
set_option linter.unusedVariables false
attribute [local go_sem] Oper.semAt_some
def cmpB (a b : ByteArray) : Int := Lib.compareBytes a.data.toList b.data.toList
set_option maxRecDepth 100000 in
set_option maxHeartbeats 1600000 in
theorem key1_calls (p : S127) (q : ByteArray) (w : World) :
  Calls Tryz.prog 151 #[.agg #[.string p.f0, .string p.f1], .string q] w fun e w' => e = .returned (.int .i64 (cmpB p.f0 q)) ∧ Below w.heap.size w w' := by
 have HB := Lib.hid (below_alloc (Below.refl w.heap.size w) (.cells #[.string p.f0, .string p.f1] 127))
 go_enter Tryz.func151, Tryz.ntmps151
 go_wp2_with fail
 refine (Tryz.strings_Compare p.f0 q _).mono ?_
 rintro e w' ⟨rfl, rfl⟩
 go_wp2
 go_ret
 exact ⟨rfl, HB.out⟩
def srch (q : ByteArray) (l : List S127) : Nat → Nat → Nat → Nat
 | 0, i, _ => i
 | f + 1, i, j => if i < j then (if (decide (cmpB (rd_T127 l (((i + j) / 2 : Nat) : Int)).f0 q < 0)) = true then srch q l f ((i + j) / 2 + 1) j else srch q l f i ((i + j) / 2)) else i
set_option maxRecDepth 100000 in
set_option maxHeartbeats 3200000 in
theorem bs_calls (q : ByteArray) (A0 : Option Addr) (c0 : Nat) (l0 : List (S127)) (w : World) (hr0 : Kd.C k127 w A0 l0.length l0) (hc0 : l0.length ≤ c0) (hl : l0.length < 1152921504606846976) :
  Calls Tryz.prog 150 #[.slice A0 l0.length c0, .string q, .func (.func 151) #[] #[]] w fun e w' => e = .returned (.tuple #[.int .i64 (srch q l0 (l0.length + 1) 0 l0.length : Nat), .bool (if srch q l0 (l0.length + 1) 0 l0.length < l0.length then cmpB (rd_T127 l0 ((srch q l0 (l0.length + 1) 0 l0.length : Nat) : Int)).f0 q == 0 else false)]) ∧ Below w.heap.size w w' := by
 have hu127 := Tryz.underlying127
 have HR0 := Aside0.mk hr0
 have HL := Lib.hid hl
 clear hr0 hc0 hl
 obtain ⟨R, hR⟩ : ∃ R, srch q l0 (l0.length + 1) 0 l0.length = R := ⟨_, rfl⟩
 rw [hR]
 obtain ⟨B, hBB⟩ : ∃ B : Bool, (if R < l0.length then cmpB (rd_T127 l0 ((R : Nat) : Int)).f0 q == 0 else false) = B := ⟨_, rfl⟩
 rw [hBB]
 have HBB := Lib.hid hBB
 have HRR := Lib.hid hR
 clear hR hBB
 go_enter Tryz.func150, Tryz.ntmps150
 go_wp2
 go_loopg [9, 10] (l0.length + 1) (fun gk v9 v10 wr => ∃ (x y : Int), v9 = .int .i64 x ∧ v10 = .int .i64 y ∧ Aside0 (∃ i j : Nat, x = (i : Int) ∧ y = (j : Int) ∧ i ≤ j ∧ j ≤ l0.length ∧ j < i + gk ∧ srch q l0 gk i j = R) ∧ Aside0 (Below w.heap.size w wr))
 case atStart => exact ⟨0, _, rfl, rfl, ⟨0, l0.length, rfl, rfl, by omega, by omega, by omega, HRR.out⟩, ⟨Below.refl _ _⟩⟩
 case round =>
  clear HRR
  obtain ⟨x, y, rfl, rfl, HN, HB⟩ := hrel
  obtain ⟨i, j, hx, hy, hij, hj, hf, hs⟩ := HN.out
  cases gk with
  | zero => omega
  | succ k =>
   by_cases hlt : i < j
   ·have c1 : decide (x < y) = true := decide_eq_true (by omega)
    have b0 : 0 ≤ x := by omega
    have b1 : x < y := by omega
    have b2 : y < 1152921504606846976 := by have := HL.out; omega
    unfold srch at hs
    rw [if_pos hlt] at hs
    obtain ⟨z, hz⟩ : ∃ z : Int, (x + y) / 2 = z := ⟨_, rfl⟩
    have hzm : z = (((i + j) / 2 : Nat) : Int) := by omega
    rw [← hzm] at hs
    have h0 : (0 : Int) ≤ z := by omega
    have h1 : z < (l0.length : Int) := by omega
    have b3 : z < 1152921504606846976 := by omega
    obtain ⟨ad, rfl, hx0, hx1⟩ := at_T127 HR0.out z h0 h1
    replace hx0 := (HB.out.cell (World.block_lt_of_cell? w _ hx0)).trans hx0
    replace hx1 := (HB.out.cell (World.block_lt_of_cell? w _ hx1)).trans hx1
    have HM := Lib.hid (show y = (j : Int) ∧ x = (i : Int) ∧ z = (((i + j) / 2 : Nat) : Int) ∧ i < j ∧ j ≤ l0.length ∧ j < i + (k + 1) from ⟨hy, hx, hzm, hlt, hj, hf⟩)
    have HS := Lib.hid hs
    clear hx hy hij hj hf HN hlt hs hzm
    have g0 := h0
    replace h0 := eq_true h0
    replace h1 := eq_true h1
    go_wp2_with fail
    refine (key1_calls _ _ _).mono ?_
    rintro e w2 ⟨rfl, hb2⟩
    have HB2 := Lib.hid (below_step HB.out hb2)
    clear hb2 hx0 hx1
    cases hc : decide (cmpB (rd_T127 l0 z).f0 q < 0) with
    | true =>
     have hs := HS.out
     rw [if_pos hc] at hs
     have HS2 := Lib.hid hs
     clear hs HS
     go_wp2_with fail
     go_roundg k
     case measure => omega
     case rel =>
      obtain ⟨m1, m2, m3, m4, m5, m6⟩ := HM.out
      exact ⟨_, _, rfl, rfl, ⟨(i + j) / 2 + 1, j, by omega, m1, by omega, m5, by omega, HS2.out⟩, ⟨HB2.out⟩⟩
    | false =>
     have hs := HS.out
     rw [if_neg (by rw [hc]; decide)] at hs
     have HS2 := Lib.hid hs
     clear hs HS
     go_wp2_with fail
     go_roundg k
     case measure => omega
     case rel =>
      obtain ⟨m1, m2, m3, m4, m5, m6⟩ := HM.out
      exact ⟨_, _, rfl, rfl, ⟨i, (i + j) / 2, m2, m3, by omega, by omega, by omega, HS2.out⟩, ⟨HB2.out⟩⟩
   ·unfold srch at hs
    rw [if_neg hlt] at hs
    have c1 : decide (x < y) = false := decide_eq_false (by omega)
    by_cases hil : i < l0.length
    ·have HBC := Lib.hid (show (cmpB (rd_T127 l0 x).f0 q == 0) = B from by rw [hx, hs]; rw [hs] at hil; have := HBB.out; rw [if_pos hil] at this; exact this)
     have h0 : (0 : Int) ≤ x := by omega
     have h1 : x < (l0.length : Int) := by omega
     have c2 : decide (x < (l0.length : Int)) = true := decide_eq_true h1
     obtain ⟨ad, rfl, hx0, hx1⟩ := at_T127 HR0.out x h0 h1
     replace hx0 := (HB.out.cell (World.block_lt_of_cell? w _ hx0)).trans hx0
     replace hx1 := (HB.out.cell (World.block_lt_of_cell? w _ hx1)).trans hx1
     have HX := Lib.hid (show x = (R : Int) by omega)
     clear hx hy hij hj hf HN hlt hil hs
     replace h0 := eq_true h0
     replace h1 := eq_true h1
     go_wp2_with fail
     refine (key1_calls _ _ _).mono ?_
     rintro e w2 ⟨rfl, hb2⟩
     have HB2 := Lib.hid (below_step HB.out hb2)
     clear hb2
     go_wp2
     go_ret2
     have e1 := HX.out
     have e2 := HBC.out
     subst e2
     refine ⟨?_, HB2.out⟩
     rw [← e1]
     rfl
    ·have HBC := Lib.hid (show false = B from by rw [hs] at hil; have := HBB.out; rw [if_neg hil] at this; exact this)
     have c2 : decide (x < (l0.length : Int)) = false := decide_eq_false (by omega)
     have HX := Lib.hid (show x = (R : Int) by omega)
     clear hx hy hij hj hf HN hlt hil hs
     go_wp2
     go_ret2
     have e1 := HX.out
     have e2 := HBC.out
     subst e2
     refine ⟨?_, HB.out⟩
     rw [← e1]
     rfl
set_option maxRecDepth 100000 in
set_option maxHeartbeats 1600000 in
theorem bykey_calls (q : ByteArray) (A0 : Option Addr) (c0 : Nat) (l0 : List (S127)) (w : World) (hr0 : Kd.C k127 w A0 l0.length l0) (hc0 : l0.length ≤ c0) (hl : l0.length < 1152921504606846976) :
  Calls Tryz.prog 130 #[.slice A0 l0.length c0, .string q] w fun e w' => e = .returned (.tuple #[.int .i64 (srch q l0 (l0.length + 1) 0 l0.length : Nat), .bool (if srch q l0 (l0.length + 1) 0 l0.length < l0.length then cmpB (rd_T127 l0 ((srch q l0 (l0.length + 1) 0 l0.length : Nat) : Int)).f0 q == 0 else false)]) ∧ Below w.heap.size w w' := by
 have HI := Lib.hid (bs_calls q A0 c0 l0 w hr0 hc0 hl)
 clear hr0 hc0 hl
 obtain ⟨R, hR⟩ : ∃ R, srch q l0 (l0.length + 1) 0 l0.length = R := ⟨_, rfl⟩
 rw [hR] at HI ⊢
 obtain ⟨B, hBB⟩ : ∃ B : Bool, (if R < l0.length then cmpB (rd_T127 l0 ((R : Nat) : Int)).f0 q == 0 else false) = B := ⟨_, rfl⟩
 rw [hBB] at HI ⊢
 go_enter Tryz.func130, Tryz.ntmps130
 go_wp2_with fail
 refine HI.out.mono ?_
 rintro e w1 ⟨rfl, hb⟩
 have HB := Lib.hid hb
 clear hb
 go_wp2
 go_ret2
 exact ⟨rfl, HB.out⟩
end Go.Proofs.YtddhkfdfhbpblaaGreatDoor.P
namespace Go.Proofs.YtddhkfdfhbpblaaGreatDoor.P
open Go.RowKit Go.Proofs.YtddhkfdfhbpblaaGreatDoorW.PrintWords Go.Proofs.YtddhkfdfhbpblaaGreatDoorW.PrintLast Go.Proofs.YtddhkfdfhbpblaaGreatDoorW.PrintMore
def stringslite_IndexByte.f (a0 : ByteArray) (a1 : Int) : Option (Int) := some (Lib.indexByte a0.data.toList a1.toNat.toUInt8)
theorem stringslite_IndexByte.calls (a0 : ByteArray) (a1 : Int) (r : Int) (w : World) (h : stringslite_IndexByte.f a0 a1 = some r) :
  Calls Tryz.prog 144 #[.string a0, .int .u8 a1] w fun e w' => e = .returned (.int .i64 r) ∧ Drawn0 w w' := by
 obtain rfl := Option.some.inj h
 exact (Tryz.stringslite_IndexByte a0 a1 w).mono fun e w' ⟨he, hw⟩ => ⟨he, hw ▸ Drawn0.refl _⟩
def strings_IndexByte.f (a0 : ByteArray) (a1 : Int) : Option (Int) := some (Lib.indexByte a0.data.toList a1.toNat.toUInt8)
theorem strings_IndexByte.calls (a0 : ByteArray) (a1 : Int) (r : Int) (w : World) (h : strings_IndexByte.f a0 a1 = some r) :
  Calls Tryz.prog 123 #[.string a0, .int .u8 a1] w fun e w' => e = .returned (.int .i64 r) ∧ Drawn0 w w' := by
 obtain rfl := Option.some.inj h
 exact (Tryz.strings_IndexByte a0 a1 w).mono fun e w' ⟨he, hw⟩ => ⟨he, hw ▸ Drawn0.refl _⟩
def strings_Cut.f (a0 : ByteArray) (a1 : ByteArray) : Option (ByteArray × ByteArray × Bool) :=
 if a0.size < 4294967281 then some (tx (Lib.cut a0.data.toList a1.data.toList).1, tx (Lib.cut a0.data.toList a1.data.toList).2.1, (Lib.cut a0.data.toList a1.data.toList).2.2) else none
theorem strings_Cut.calls (a0 : ByteArray) (a1 : ByteArray) (r1 : ByteArray) (r2 : ByteArray) (r3 : Bool) (w : World) (hG : Glob w) (h : strings_Cut.f a0 a1 = some (r1, r2, r3)) :
  Calls Tryz.prog 129 #[.string a0, .string a1] w fun e w' => e = .returned (.tuple #[.string r1, .string r2, .bool r3]) ∧ Below w.heap.size w w' := by
 unfold strings_Cut.f at h
 split at h
 ·rename_i hs
  simp only [Option.some.injEq, Prod.mk.injEq] at h
  obtain ⟨rfl, rfl, rfl⟩ := h
  obtain ⟨m, hm⟩ := hG.mx
  exact (Tryz.strings_Cut a0 a1 m w hs hm).mono fun e w' ⟨he, n, hw⟩ => ⟨he, hw ▸ (Drawn0.below ⟨⟨n, rfl⟩⟩)⟩
 ·cases h
def strings_Repeat.f (a0 : ByteArray) (a1 : Int) : Option (ByteArray) :=
 if 0 ≤ a1 ∧ a1 ≤ 9223372036854775807 ∧ a0.size * a1.toNat ≤ 140737488355328 then some (tx (Lib.repeatL a0.data.toList a1.toNat)) else none
theorem strings_Repeat.calls (a0 : ByteArray) (a1 : Int) (r : ByteArray) (w : World) (h : strings_Repeat.f a0 a1 = some r) :
  Calls Tryz.prog 178 #[.string a0, .int .i64 a1] w fun e w' => e = .returned (.string r) ∧ Below w.heap.size w w' := by
 unfold strings_Repeat.f at h
 split at h
 ·rename_i hs
  obtain rfl := Option.some.inj h
  obtain ⟨h0, h1, h2⟩ := hs
  obtain ⟨n, rfl⟩ := Int.eq_ofNat_of_zero_le h0
  exact Tryz.strings_Repeat a0 n w (by omega) h2
 ·cases h
def strconv_ParseInt.f (a0 : ByteArray) (a1 : Int) (a2 : Int) : Option (Int × Option Int) :=
 if a1 = 10 ∧ a2 = 64 ∧ a0.size ≤ 9223372036854775806 then (match Lib.parseIntB 64 a0.data.toList with | .ok v => some (v, none) | _ => none) else none
theorem strconv_ParseInt.calls (a0 : ByteArray) (a1 : Int) (a2 : Int) (r1 : Int) (r2 : Option Int) (w : World) (hG : Glob w) (h : strconv_ParseInt.f a0 a1 a2 = some (r1, r2)) :
  Calls Tryz.prog 177 #[.string a0, .int .i64 a1, .int .i64 a2] w fun e w' => e = .returned (.tuple #[.int .i64 r1, errW r2]) ∧ Below w.heap.size w w' := by
 unfold strconv_ParseInt.f at h
 split at h
 ·rename_i hs
  obtain ⟨rfl, rfl, h1⟩ := hs
  split at h
  ·rename_i v hv
   simp only [Option.some.injEq, Prod.mk.injEq] at h
   obtain ⟨rfl, rfl⟩ := h
   refine (Tryz.strconv_ParseInt_10_at64_ok a0 h1 v hv w).mono fun e w' ⟨he, hw⟩ => ⟨he, ?_⟩
   rcases hw with rfl | ⟨t, rfl⟩
   ·exact Below.refl _ _
   ·exact bytes_below (Below.refl _ _) (Nat.le_refl _) _ _
  ·cases h
 ·cases h
def utf8_DecodeRuneInString.f (a0 : ByteArray) : Option (Int × Int) := some (((Lib.decodeGo a0).1 : Int), ((Lib.decodeGo a0).2 : Int))
theorem utf8_DecodeRuneInString.calls (a0 : ByteArray) (r1 : Int) (r2 : Int) (w : World) (hG : Glob w) (h : utf8_DecodeRuneInString.f a0 = some (r1, r2)) :
  Calls Tryz.prog 207 #[.string a0] w fun e w' => e = .returned (.tuple #[.int .i32 r1, .int .i64 r2]) ∧ Below w.heap.size w w' := by
 simp only [utf8_DecodeRuneInString.f, Option.some.injEq, Prod.mk.injEq] at h
 obtain ⟨rfl, rfl⟩ := h
 exact Tryz.utf8_DecodeRuneInString a0 w hG.utf
end Go.Proofs.YtddhkfdfhbpblaaGreatDoor.P
namespace Go.Proofs.YtddhkfdfhbpblaaGreatDoor.P
open Go.RowKit Go.Proofs.YtddhkfdfhbpblaaGreatDoorW.PrintWords Go.Proofs.YtddhkfdfhbpblaaGreatDoorW.PrintLast Go.Proofs.YtddhkfdfhbpblaaGreatDoorW.PrintMore
attribute [local go_sem] max2_int min2_int max_two min_two max_three min_three max_four min_four   -- for this text's walks alone
set_option linter.unusedVariables false
set_option linter.unusedSimpArgs false
def utf_wrong.f (a0 : ByteArray) (a1 : Int) (a2 : Int) : Option (Bool) := if a2 = 65533 then (if 0 ≤ a1 then (if a1 ≤ (a0.size : Int) then ((utf8_DecodeRuneInString.f (a0.extract (a1 : Int).toNat a0.size)).bind fun bt101 => (some (bt101.2 == 1))) else (none)) else (none)) else (some false)
set_option maxHeartbeats 8000000 in
set_option maxRecDepth 100000 in
theorem utf_wrong.calls (a0 : ByteArray) (a1 : Int) (a2 : Int) (r : Bool) (w : World) (hG : Glob w) (h : utf_wrong.f a0 a1 a2 = some r) :
  Calls Tryz.prog 180 #[.string a0, .int .i64 a1, .int .i32 a2] w fun e w' => e = .returned (.bool r) ∧ Below w.heap.size w w' := by
 have HG := Aside0.mk hG; clear hG
 have HB := Aside0.mk (Below.refl w.heap.size w)
 have H : (if a2 = 65533 then (if 0 ≤ a1 then (if a1 ≤ (a0.size : Int) then ((utf8_DecodeRuneInString.f (a0.extract (a1 : Int).toNat a0.size)).bind fun bt101 => (some (bt101.2 == 1))) else (none)) else (none)) else (some false)) = some r := h
 clear h
 by_cases c4 : a2 = 65533
 ·rw [if_pos c4] at H
  have c4b0 : (a2 == 65533) = true := beq_iff_eq.mpr c4
  have c4b1 : (a2 != 65533) = false := bne_eq_false_iff_eq.mpr c4
  clear c4
  by_cases c5 : 0 ≤ a1
  ·rw [if_pos c5] at H
   have c5b0 := eq_true c5
   have c5b1 : decide (0 ≤ a1) = true := decide_eq_true c5
   clear c5
   by_cases c6 : a1 ≤ (a0.size : Int)
   ·rw [if_pos c6] at H
    have c6b0 := eq_true c6
    have c6b1 : decide (a1 ≤ (a0.size : Int)) = true := decide_eq_true c6
    clear c6
    obtain ⟨⟨t101, t102⟩, A70, H⟩ := Zk H
    try dsimp only at H
    have A7 := Aside0.mk A70
    clear A70
    obtain rfl := Option.some.inj H
    go_enter Tryz.func180, Tryz.ntmps180
    go_wp2_with (first | ((with_reducible refine gate_callee (f := 207) rfl ?_); refine ZL 15 Tryz.func207 #[.string (a0.extract (a1 : Int).toNat a0.size)] ?_; (with_reducible refine (utf8_DecodeRuneInString.calls (a0.extract (a1 : Int).toNat a0.size) t101 t102 _ ?side1 A7.out).mono ?_); (case side1 => exact ZG HG HB); rintro e w8 ⟨rfl, hb⟩; refine ⟨_, rfl, ?_⟩; replace HB := Zs HB hb; try clear hb))
    go_ret
    exact ⟨Ze, Zh HB⟩
   ·rw [if_neg c6] at H
    exact absurd H (by simp)
  ·rw [if_neg c5] at H
   exact absurd H (by simp)
 ·rw [if_neg c4] at H
  have c4b0 : (a2 == 65533) = false := beq_eq_false_iff_ne.mpr c4
  have c4b1 : (a2 != 65533) = true := bne_iff_ne.mpr c4
  obtain rfl := Option.some.inj H
  go_enter Tryz.func180, Tryz.ntmps180
  go_wp2
  go_ret
  exact ⟨Ze, Zh HB⟩
end Go.Proofs.YtddhkfdfhbpblaaGreatDoor.P
namespace Go.Proofs.YtddhkfdfhbpblaaGreatDoor.P
open Go.RowKit Go.Proofs.YtddhkfdfhbpblaaGreatDoorW.PrintWords Go.Proofs.YtddhkfdfhbpblaaGreatDoorW.PrintLast Go.Proofs.YtddhkfdfhbpblaaGreatDoorW.PrintMore
def badAt : Nat → List UInt8 → Nat → Int
 | 0, _, _ => -1
 | _ + 1, [], _ => -1
 | f + 1, c :: t, n => if Lib.decodeL (c :: t) = (65533, 1) then n else badAt f ((c :: t).drop (Lib.decodeL (c :: t)).2) (n + (Lib.decodeL (c :: t)).2)
def utf_First.f (a0 : ByteArray) : Option (Int) := if a0.size ≤ 281474976710656 then some (badAt (a0.size + 1) a0.data.toList 0) else none
theorem decode_pos {s : ByteArray} {n : Nat} {l : List UInt8} (h : Pos s n l) : Utf8.decode s n = Lib.decodeL l := by rw [← h.dr, Lib.decodeL_drop]
theorem decodeL_ge (l : List UInt8) : 1 ≤ (Lib.decodeL l).2 := by
 have := Lib.decodeL_drop (tx l) 0
 rw [tx_data, List.drop_zero] at this
 rw [this, Lib.decode_at]
 exact Lib.decodeN_ge1 ..
theorem wrong_f (s : ByteArray) (n : Nat) (c : UInt8) (t : List UInt8) (h : Pos s n (c :: t)) :
  utf_wrong.f s (n : Int) ((Lib.decodeL (c :: t)).1 : Int) = some (decide (Lib.decodeL (c :: t) = (65533, 1))) := by
 have hlt := h.lt
 have hg : Lib.decodeGo (s.extract n s.size) = Lib.decodeL (c :: t) := by
  unfold Lib.decodeGo
  rw [if_neg (by rw [ByteArray.size_extract]; omega), Lib.tail_decode, Nat.add_zero, decode_pos h]
 unfold utf_wrong.f
 obtain ⟨⟨r, k⟩, hd⟩ : ∃ p, Lib.decodeL (c :: t) = p := ⟨_, rfl⟩
 rw [hd] at hg ⊢
 by_cases h1 : r = 65533
 ·subst h1
  rw [if_pos (by simp), if_pos (by omega), if_pos (by omega), Int.toNat_natCast]
  simp only [utf8_DecodeRuneInString.f, hg, Option.bind_some, Option.some.injEq]
  rw [Bool.eq_iff_iff]
  simp
  omega
 ·rw [if_neg (by simp; omega)]
  simp [h1]
theorem iterAt_below {w wr : World} (h : Below w.heap.size w wr) (s : ByteArray) (p : Nat) : Below w.heap.size w (wr.iterAt w.heap.size s p) := Lib.below_iterAt h (Nat.le_refl _) s p
theorem iter_heap0 (w : World) (s : ByteArray) : (w.iter s 0).heap[w.heap.size]? = some (.stringIter s 0) := World.iter_heap w s 0
set_option maxRecDepth 100000 in
set_option maxHeartbeats 1600000 in
theorem utf_First.calls (a0 : ByteArray) (r : Int) (w : World) (hG : Glob w) (h : utf_First.f a0 = some r) :
  Calls Tryz.prog 163 #[.string a0] w fun e w' => e = .returned (.int .i64 r) ∧ Below w.heap.size w w' := by
 unfold utf_First.f at h
 split at h
 case isFalse => cases h
 rename_i hs
 obtain rfl := Option.some.inj h
 obtain ⟨R, hR⟩ : ∃ R, badAt (a0.size + 1) a0.data.toList 0 = R := ⟨_, rfl⟩
 rw [hR]
 have HG := Lib.hid hG
 have hp0 := Pos.zero a0
 have hl0 : a0.data.toList.length = a0.size := data_length a0
 have HR := Lib.hid hR
 have HP0 := Lib.hid hp0
 have HL0 := Lib.hid hl0
 clear h hG hR hp0 hl0
 go_enter Tryz.func163, Tryz.ntmps163
 go_wp2_with fail
 go_loopg [] (a0.size) (fun gk wr => ∃ (n : Nat) (l : List UInt8), Aside0 (Pos a0 n l) ∧ Aside0 (wr.heap[w.heap.size]? = some (.stringIter a0 n)) ∧ Aside0 (Below w.heap.size w wr) ∧ Aside0 (badAt (gk + 1) l n = R) ∧ Aside0 (l.length ≤ gk))
 case atStart => exact ⟨0, _, ⟨HP0.out⟩, ⟨iter_heap0 w a0⟩, ⟨below_alloc (Below.refl _ _) _⟩, ⟨HR.out⟩, ⟨by rw [HL0.out]; exact Nat.le_refl _⟩⟩
 case round =>
  clear HP0 HR HL0
  obtain ⟨n, l, HP, HI, HB, HR, HK⟩ := hrel
  cases l with
  | nil =>
   have hn : ¬ n < a0.size := by have := HP.out.len; simp at this; omega
   have hnx : ∀ ty, (Instr.next (.pointer (some ⟨w.heap.size, 0, none⟩)) true ty).run Tryz.prog wr = _ := fun ty => Lib.run_next_end_at wr w.heap.size a0 n ty HI.out hn
   clear hn
   go_wp2
   go_ret
   exact ⟨by rw [← HR.out]; rfl, HB.out⟩
  | cons c t =>
   have hn : n < a0.size := HP.out.lt
   have hde := decode_pos HP.out
   have hnx : ∀ ty, (Instr.next (.pointer (some ⟨w.heap.size, 0, none⟩)) true ty).run Tryz.prog wr = .ok (.tuple #[.bool true, .int .i64 n, .int .i32 (Lib.decodeL (c :: t)).1]) (wr.iterAt w.heap.size a0 (n + (Lib.decodeL (c :: t)).2)) := fun ty => by
    rw [← hde]
    exact Lib.run_next_any_at wr w.heap.size a0 n ty HI.out hn
   have HW := Lib.hid (wrong_f a0 n c t HP.out)
   have HB2 := Lib.hid (iterAt_below HB.out a0 (n + (Lib.decodeL (c :: t)).2))
   have HI2 := Lib.hid (Lib.iterAt_heap wr w.heap.size a0 n (n + (Lib.decodeL (c :: t)).2) HI.out)
   have HS := Lib.hid (show w.heap.size < wr.heap.size from (Array.getElem?_eq_some_iff.1 HI.out).1)
   clear hde hn HI HB
   obtain ⟨R1, hR1⟩ : ∃ R1, (Lib.decodeL (c :: t)).1 = R1 := ⟨_, rfl⟩
   obtain ⟨K1, hK1⟩ : ∃ K1, (Lib.decodeL (c :: t)).2 = K1 := ⟨_, rfl⟩
   rw [hR1] at hnx HW
   rw [hK1] at hnx HB2 HI2
   have HR1 := Lib.hid hR1
   have HK1 := Lib.hid hK1
   clear hR1 hK1
   cases hb : decide (Lib.decodeL (c :: t) = (65533, 1)) with
   | true =>
    have HBD := Lib.hid hb
    rw [hb] at HW
    clear hb
    go_wp2_with fail
    refine (utf_wrong.calls a0 n R1 true _ (Glob.below HG.out HB2.out) HW.out).mono ?_
    rintro e w2 ⟨rfl, hb2⟩
    have HB3 := Lib.hid (below_step HB2.out hb2)
    clear hb2
    have hres : (n : Int) = R := by
     rw [← HR.out]
     simp only [badAt]
     rw [if_pos (by simpa using HBD.out)]
    have HRES := Lib.hid hres
    clear hres
    go_wp2
    go_ret
    exact ⟨by rw [HRES.out]; rfl, HB3.out⟩
   | false =>
    have HBD := Lib.hid hb
    rw [hb] at HW
    clear hb
    obtain ⟨g, rfl⟩ : ∃ g, gk = g + 1 := ⟨gk - 1, by have := HK.out; simp at this; omega⟩
    go_wp2_with fail
    refine (utf_wrong.calls a0 n R1 false _ (Glob.below HG.out HB2.out) HW.out).mono ?_
    rintro e w2 ⟨rfl, hb2⟩
    have HB3 := Lib.hid (below_step HB2.out hb2)
    have HI3 := Lib.hid ((hb2.block _ ((Array.getElem?_eq_some_iff.1 HI2.out).1)).trans HI2.out)
    clear hb2
    have hle := Lib.decodeL_le (c :: t) (by simp)
    have hge := decodeL_ge (c :: t)
    rw [HK1.out] at hle hge
    have hlen := HP.out.len
    have hkk := HK.out
    have hpos : Pos a0 (n + K1) ((c :: t).drop K1) := ⟨by rw [← List.drop_drop, HP.out.dr], by omega⟩
    have hres : badAt (g + 1) ((c :: t).drop K1) (n + K1) = R := by
     rw [← HR.out]
     simp only [badAt]
     rw [if_neg (by simpa using HBD.out), HK1.out]
    have HPOS := Aside0.mk hpos
    have HRES := Aside0.mk hres
    have HLL : Aside0 (((c :: t).drop K1).length ≤ g) := ⟨by rw [List.length_drop]; omega⟩
    clear hpos hres hle hge hlen hkk
    go_wp2
    go_roundg g
    case measure => omega
    case rel => exact ⟨n + K1, _, HPOS, ⟨HI3.out⟩, ⟨HB3.out⟩, HRES, HLL⟩
end Go.Proofs.YtddhkfdfhbpblaaGreatDoor.P
namespace Go.Proofs.YtddhkfdfhbpblaaGreatDoor.P
open Go.RowKit Go.Proofs.YtddhkfdfhbpblaaGreatDoorW.PrintWords Go.Proofs.YtddhkfdfhbpblaaGreatDoorW.PrintLast Go.Proofs.YtddhkfdfhbpblaaGreatDoorW.PrintMore
attribute [local go_sem] max2_int min2_int max_two min_two max_three min_three max_four min_four   -- for this text's walks alone
set_option linter.unusedVariables false
set_option linter.unusedSimpArgs false
def dec_digits.l0 : Nat → ByteArray → Int → Int → Option (Bool)
 | 0, _, _, _ => none
 | k + 1, x0, x5, x6 => if x6 < x5 then (if 0 ≤ x6 then (if x6 < (x0.size : Int) then (if (bt x0 x6) < 48 then (some false) else (if (bt x0 x6) > 57 then (some false) else (dec_digits.l0 k x0 x5 (wrap64 (x6 + 1))))) else (none)) else (none)) else (some (x0.toList != ([] : List UInt8)))
def dec_digits.f (k : Nat) (a0 : ByteArray) : Option (Bool) := dec_digits.l0 k a0 (a0.size : Int) 0
set_option maxHeartbeats 8000000 in
set_option maxRecDepth 100000 in
theorem dec_digits.calls (k : Nat) (a0 : ByteArray) (r : Bool) (w : World) (h : dec_digits.f k a0 = some r) :
  Calls Tryz.prog 176 #[.string a0] w fun e w' => e = .returned (.bool r) ∧ Drawn0 w w' := by
 have H : (dec_digits.l0 k a0 (a0.size : Int) 0) = some r := h
 clear h
 have H' := Aside0.mk H
 clear H
 go_enter Tryz.func176, Tryz.ntmps176
 go_wp2
 go_loopg [6] k (fun kq v6 w' => ∃ (x6_1 : Int), v6 = .int .i64 x6_1 ∧ Aside0 (dec_digits.l0 kq a0 (a0.size : Int) x6_1 = some r) ∧ Aside0 (kq ≤ k) ∧ Drawn0 w w')
 case atStart => exact ⟨(0), Zr, H', ⟨Nat.le_refl _⟩, Zd⟩
 case round =>
  clear H'
  try clear c1
  obtain ⟨x6_1, rfl, HA, HK1, ⟨m1, rfl⟩⟩ := hrel
  cases gk with
  | zero => exact absurd HA.out (by simp [dec_digits.l0])
  | succ k1 =>
   have H := HA.out
   clear HA
   simp only [dec_digits.l0] at H
   by_cases c2 : x6_1 < (a0.size : Int)
   ·rw [if_pos c2] at H
    have c2b0 : decide (x6_1 < (a0.size : Int)) = true := decide_eq_true c2
    clear c2
    by_cases c3 : 0 ≤ x6_1
    ·rw [if_pos c3] at H
     have c3b0 : decide (0 ≤ x6_1) = true := decide_eq_true c3
     clear c3
     by_cases c4 : x6_1 < (a0.size : Int)
     ·rw [if_pos c4] at H
      have c4b0 : decide (x6_1 < (a0.size : Int)) = true := decide_eq_true c4
      clear c4
      by_cases c6 : (bt a0 x6_1) < 48
      ·rw [if_pos c6] at H
       have c6b0 : decide ((bt a0 x6_1) < 48) = true := decide_eq_true c6
       clear c6
       obtain rfl := Option.some.inj H
       have p5 : 0 ≤ (x6_1 : Int) := of_decide_eq_true Zy
       have q5 : x6_1 < (a0.size : Int) := of_decide_eq_true Zy
       have hx5 := bt_at a0 x6_1
       replace p5 := eq_true p5
       replace q5 := eq_true q5
       go_wp2
       go_ret
       exact ⟨Zr, Zd⟩
      ·rw [if_neg c6] at H
       have c6b0 : decide ((bt a0 x6_1) < 48) = false := decide_eq_false c6
       clear c6
       by_cases c8 : (bt a0 x6_1) > 57
       ·rw [if_pos c8] at H
        have c8b0 : decide (57 < (bt a0 x6_1)) = true := decide_eq_true c8
        clear c8
        obtain rfl := Option.some.inj H
        have p5 : 0 ≤ (x6_1 : Int) := of_decide_eq_true Zy
        have q5 : x6_1 < (a0.size : Int) := of_decide_eq_true Zy
        have hx5 := bt_at a0 x6_1
        replace p5 := eq_true p5
        replace q5 := eq_true q5
        have p7 : 0 ≤ (x6_1 : Int) := of_decide_eq_true Zy
        have q7 : x6_1 < (a0.size : Int) := of_decide_eq_true Zy
        have hx7 := bt_at a0 x6_1
        replace p7 := eq_true p7
        replace q7 := eq_true q7
        go_wp2
        go_ret
        exact ⟨Zr, Zd⟩
       ·rw [if_neg c8] at H
        have c8b0 : decide (57 < (bt a0 x6_1)) = false := decide_eq_false c8
        clear c8
        have H' := Aside0.mk H
        clear H
        have p5 : 0 ≤ (x6_1 : Int) := of_decide_eq_true Zy
        have q5 : x6_1 < (a0.size : Int) := of_decide_eq_true Zy
        have hx5 := bt_at a0 x6_1
        replace p5 := eq_true p5
        replace q5 := eq_true q5
        have p7 : 0 ≤ (x6_1 : Int) := of_decide_eq_true Zy
        have q7 : x6_1 < (a0.size : Int) := of_decide_eq_true Zy
        have hx7 := bt_at a0 x6_1
        replace p7 := eq_true p7
        replace q7 := eq_true q7
        go_wp2
        go_roundg k1
        case measure => have := HK1.out; omega
        case rel => exact ⟨(wrap64 (x6_1 + 1)), Zr, H', ⟨by have := HK1.out; omega⟩, Zd⟩
     ·rw [if_neg c4] at H
      exact absurd H (by simp)
    ·rw [if_neg c3] at H
     exact absurd H (by simp)
   ·rw [if_neg c2] at H
    have c2b0 : decide (x6_1 < (a0.size : Int)) = false := decide_eq_false c2
    clear c2
    obtain rfl := Option.some.inj H
    go_wp2
    go_ret
    exact ⟨Zr, Zd⟩
end Go.Proofs.YtddhkfdfhbpblaaGreatDoor.P
namespace Go.Proofs.YtddhkfdfhbpblaaGreatDoor.P
open Go.RowKit Go.Proofs.YtddhkfdfhbpblaaGreatDoorW.PrintWords Go.Proofs.YtddhkfdfhbpblaaGreatDoorW.PrintLast Go.Proofs.YtddhkfdfhbpblaaGreatDoorW.PrintMore
theorem digits_l0 (s : ByteArray) (hs : s.size ≤ 281474976710656) : ∀ (k n : Nat) (l : List UInt8), Pos s n l → l.length < k →
  dec_digits.l0 k s (s.size : Int) (n : Int) = some (digL l && !s.data.toList.isEmpty)
 | 0, n, l, hp, hk => by omega
 | k + 1, n, [], hp, hk => by
  have := hp.len
  simp at this
  simp only [dec_digits.l0]
  rw [if_neg (by omega)]
  simp [digL, nil_bne, Lib.toList_data]
 | k + 1, n, c :: t, hp, hk => by
  have hlt := hp.lt
  have hb := hp.bt
  have ih := digits_l0 s hs k (n + 1) t hp.next (by simpa using hk)
  have hw : wrap64 ((n : Int) + 1) = ((n + 1 : Nat) : Int) := by unfold wrap64; omega
  simp only [dec_digits.l0]
  rw [if_pos (by omega), if_pos (by omega), if_pos (by omega), hb, hw, ih]
  by_cases h1 : c.toNat < 48
  ·rw [if_pos (by omega)]
   simp [digL, show ¬ 48 ≤ c.toNat by omega]
  ·rw [if_neg (by omega)]
   by_cases h2 : 57 < c.toNat
   ·rw [if_pos (by omega)]
    simp [digL, show ¬ c.toNat ≤ 57 by omega]
   ·rw [if_neg (by omega)]
    simp [digL, show 48 ≤ c.toNat by omega, show c.toNat ≤ 57 by omega]
theorem digits_f (s : ByteArray) (hs : s.size ≤ 281474976710656) : dec_digits.f (s.size + 1) s = some (digL s.data.toList && !s.data.toList.isEmpty) :=
 digits_l0 s hs (s.size + 1) 0 _ (Pos.zero s) (by rw [data_length]; omega)
def natL (l : List UInt8) : Nat × Bool :=
 if digL l && !l.isEmpty then
  if l.head? == some 48 && decide (1 < l.length) then (0, false)
  else match Lib.parseUintB 64 l with
   | .ok u => (u, decide (u ≤ 9223372036854775808))
   | .range => (18446744073709551615, false)
   | _ => (0, false)
 else (0, false)
def dec_natural.f (a0 : ByteArray) : Option (Int × Bool) := if a0.size ≤ 281474976710656 then some (((natL a0.data.toList).1 : Int), (natL a0.data.toList).2) else none
theorem bytesW {w : World} {t : TypeId} {s : ByteArray} : Below w.heap.size w (Lib.bytesWorld w t s) := bytes_below (Below.refl _ _) (Nat.le_refl _) _ _
set_option maxRecDepth 100000 in
set_option maxHeartbeats 1600000 in
theorem dec_natural.calls (a0 : ByteArray) (r1 : Int) (r2 : Bool) (w : World) (hG : Glob w) (h : dec_natural.f a0 = some (r1, r2)) :
  Calls Tryz.prog 174 #[.string a0] w fun e w' => e = .returned (.tuple #[.int .u64 r1, .bool r2]) ∧ Below w.heap.size w w' := by
 unfold dec_natural.f at h
 split at h
 case isFalse => cases h
 rename_i hs
 simp only [Option.some.injEq, Prod.mk.injEq] at h
 obtain ⟨rfl, rfl⟩ := h
 have hd := digits_f a0 hs
 have hb : ∀ h0 : 0 < a0.size, ((a0[0]'h0).toNat : Int) = bt a0 0 := fun h0 => bt_at a0 0 (by simpa using h0)
 unfold natL
 obtain ⟨l, hl⟩ : ∃ l, a0.data.toList = l := ⟨_, rfl⟩
 have hp : Pos a0 0 l := hl ▸ Pos.zero a0
 have hlen := hp.len
 rw [hl] at hd ⊢
 cases hdig : (digL l && !l.isEmpty) with
 | false =>
  rw [hdig] at hd
  simp only [Bool.false_eq_true, if_false]
  clear hb hdig hl hp hlen
  have HD := Lib.hid hd
  clear hd
  go_enter Tryz.func174, Tryz.ntmps174
  go_wp2_with fail
  refine (dec_digits.calls _ a0 false _ HD.out).mono ?_
  rintro e w' ⟨rfl, ⟨n, rfl⟩⟩
  go_wp2
  go_ret2
  exact ⟨rfl, Drawn0.below ⟨⟨_, rfl⟩⟩⟩
 | true =>
  rw [hdig] at hd
  simp only [if_true]
  cases l with
  | nil => simp at hdig
  | cons c t =>
   have hlt := hp.lt
   have hx : ∀ h0 : 0 < a0.size, ((a0[0]'h0).toNat : Int) = (c.toNat : Int) := fun h0 => (hb h0).trans hp.bt
   have h0 : 0 < a0.size := hlt
   have HD := Lib.hid hd
   clear hd hb hdig hp
   obtain ⟨te1, pe1, hsyn⟩ := hG.syn
   obtain ⟨te2, pe2, hrng⟩ := hG.rng
   have hh : ((c :: t).head? == some 48) = ((c.toNat : Int) == 48) := by
    rw [Bool.eq_iff_iff]
    simp only [List.head?_cons, beq_iff_eq, Option.some.injEq]
    constructor
    ·rintro rfl; rfl
    ·intro h
     exact UInt8.toNat_inj.1 (by rw [show c.toNat = 48 by omega]; rfl)
   rw [hh, show decide (1 < (c :: t).length) = decide (1 < a0.size) from by rw [show (c :: t).length = a0.size from by omega]]
   have HL := Lib.hid hl
   have HL2 := Lib.hid hlen
   have HSY := Lib.hid hsyn
   have HRN := Lib.hid hrng
   have HX := Lib.hid hx
   clear hl hlen hsyn hrng hh hx hG
   cases hc : (((c.toNat : Int) == 48) && decide (1 < a0.size)) with
   | true =>
    rw [Bool.and_eq_true] at hc
    obtain ⟨hc1, hc2⟩ := hc
    have hc3 : decide (1 < (a0.size : Int)) = true := by simp at hc2 ⊢; omega
    have hx := HX.out
    simp only [if_true]
    go_enter Tryz.func174, Tryz.ntmps174
    go_wp2_with fail
    refine (dec_digits.calls _ a0 true _ HD.out).mono ?_
    rintro e w' ⟨rfl, ⟨n, rfl⟩⟩
    go_wp2
    go_ret2
    exact ⟨rfl, Drawn0.below ⟨⟨_, rfl⟩⟩⟩
   | false =>
    simp only [Bool.false_eq_true, if_false]
    have h2 : ((c.toNat : Int) == 48) = false ∨ (((c.toNat : Int) == 48) = true ∧ decide (1 < (a0.size : Int)) = false) := by
     cases h : ((c.toNat : Int) == 48) with
     | false => exact .inl rfl
     | true =>
      rw [h, Bool.true_and] at hc
      exact .inr ⟨rfl, by simp at hc ⊢; omega⟩
    clear hc
    have hx := HX.out
    cases hm : Lib.parseUintB 64 (c :: t) with
    | ok u =>
     have HM := Lib.hid hm
     clear hm
     simp only
     rcases h2 with h2 | ⟨h2, h3⟩
     all_goals
      go_enter Tryz.func174, Tryz.ntmps174
      go_wp2_with fail
      refine (dec_digits.calls _ a0 true _ HD.out).mono ?_
      rintro e w' ⟨rfl, ⟨n, rfl⟩⟩
      go_wp2_with fail
      refine (Tryz.strconv_ParseUint_10_at64_ok a0 (by omega) u (by rw [HL.out]; exact HM.out) _).mono ?_
      rintro e w2 ⟨rfl, hw⟩
      have hb : Below w.heap.size w w2 := by
       rcases hw with rfl | rfl
       ·exact Drawn0.below ⟨⟨_, rfl⟩⟩
       ·exact below_step (Drawn0.below ⟨⟨_, rfl⟩⟩) bytesW
      have HB := Lib.hid hb
      clear hb hw
      go_wp2
      go_ret2
      exact ⟨by first | (simp; done) | (simp; omega), HB.out⟩
    | range =>
     have HM := Lib.hid hm
     clear hm
     simp only
     rcases h2 with h2 | ⟨h2, h3⟩
     all_goals
      go_enter Tryz.func174, Tryz.ntmps174
      go_wp2_with fail
      refine (dec_digits.calls _ a0 true _ HD.out).mono ?_
      rintro e w' ⟨rfl, ⟨n, rfl⟩⟩
      go_wp2_with fail
      refine (Tryz.strconv_ParseUint_10_at64_range a0 hs (by rw [HL.out]; exact HM.out) (.iface te2 pe2) (w.drewN n) HRN.out (.inr ⟨_, _, rfl⟩)).mono ?_
      rintro e w2 ⟨N, rfl, _, _, hb⟩
      have HB := Lib.hid (below_step (Drawn0.below ⟨⟨_, rfl⟩⟩) hb : Below w.heap.size w w2)
      clear hb
      go_wp2
      go_ret2
      exact ⟨by first | (simp; done) | (simp; omega), HB.out⟩
    | _ =>
     have HM := Lib.hid hm
     clear hm
     simp only
     rcases h2 with h2 | ⟨h2, h3⟩
     all_goals
      go_enter Tryz.func174, Tryz.ntmps174
      go_wp2_with fail
      refine (dec_digits.calls _ a0 true _ HD.out).mono ?_
      rintro e w' ⟨rfl, ⟨n, rfl⟩⟩
      go_wp2_with fail
      refine (Tryz.strconv_ParseUint_10_at64_syntax a0 hs (by rw [HL.out]; exact HM.out.trans (if_pos rfl).symm) (.iface te1 pe1) (w.drewN n) HSY.out (.inr ⟨_, _, rfl⟩)).mono ?_
      rintro e w2 ⟨N, rfl, _, _, hb⟩
      have HB := Lib.hid (below_step (Drawn0.below ⟨⟨_, rfl⟩⟩) hb : Below w.heap.size w w2)
      clear hb
      go_wp2
      go_ret2
      exact ⟨by first | (simp; done) | (simp; omega), HB.out⟩
end Go.Proofs.YtddhkfdfhbpblaaGreatDoor.P
namespace Go.Proofs.YtddhkfdfhbpblaaGreatDoor.P
open Go.RowKit Go.Proofs.YtddhkfdfhbpblaaGreatDoorW.PrintWords Go.Proofs.YtddhkfdfhbpblaaGreatDoorW.PrintLast Go.Proofs.YtddhkfdfhbpblaaGreatDoorW.PrintMore
attribute [local go_sem] max2_int min2_int max_two min_two max_three min_three max_four min_four   -- for this text's walks alone
set_option linter.unusedVariables false
set_option linter.unusedSimpArgs false
end Go.Proofs.YtddhkfdfhbpblaaGreatDoor.P
namespace Go.Proofs.YtddhkfdfhbpblaaGreatDoor.P
open Go.RowKit Go.Proofs.YtddhkfdfhbpblaaGreatDoorW.PrintWords Go.Proofs.YtddhkfdfhbpblaaGreatDoorW.PrintLast Go.Proofs.YtddhkfdfhbpblaaGreatDoorW.PrintMore
def cleanL (l : List UInt8) : Bool := l.all fun c => c != 0
def oakumref02_Clean.f (a0 : ByteArray) : Option (Bool) := if a0.size < 140737488355328 then some (cleanL a0.data.toList) else none
end Go.Proofs.YtddhkfdfhbpblaaGreatDoor.P
namespace Go.Proofs.YtddhkfdfhbpblaaGreatDoor.P
open Go.RowKit Go.Proofs.YtddhkfdfhbpblaaGreatDoorW.PrintWords Go.Proofs.YtddhkfdfhbpblaaGreatDoorW.PrintLast Go.Proofs.YtddhkfdfhbpblaaGreatDoorW.PrintMore
theorem ext_list (s : ByteArray) (a b : Nat) : (s.extract a b).data.toList = (s.data.toList.take b).drop a := by
 have := extract_tx s.data.toList a b
 rw [tx_of] at this
 rw [this, tx_data]
theorem index_neg : ∀ l : List UInt8, Lib.indexByte l 0 < 0 ↔ cleanL l = true
 | [] => by simp [Lib.indexByte, cleanL]
 | c :: t => by
  have ih := index_neg t
  have hg := Lib.indexByte_ge t 0
  have e : Lib.indexByte (c :: t) 0 = if (c == 0) = true then 0 else if (Lib.indexByte t 0 == -1) = true then -1 else Lib.indexByte t 0 + 1 := rfl
  have e2 : cleanL (c :: t) = ((c != 0) && cleanL t) := rfl
  rw [e, e2]
  by_cases hc : c = 0
  ·subst hc
   simp
  ·rw [if_neg (by simp [hc]), show (c != 0) = true by simp [hc], Bool.true_and, ← ih]
   by_cases h : Lib.indexByte t 0 = -1
   ·rw [if_pos (by simp [h]), h]
   ·rw [if_neg (by simp [h])]
    omega
theorem index_clean (l : List UInt8) : decide (Lib.indexByte l 0 < 0) = cleanL l := by
 have h := index_neg l
 cases hc : cleanL l with
 | true => exact decide_eq_true (h.2 hc)
 | false => exact decide_eq_false fun hn => by rw [h.1 hn] at hc; cases hc
end Go.Proofs.YtddhkfdfhbpblaaGreatDoor.P
namespace Go.Proofs.YtddhkfdfhbpblaaGreatDoor.P
open Go.RowKit Go.Proofs.YtddhkfdfhbpblaaGreatDoorW.PrintWords Go.Proofs.YtddhkfdfhbpblaaGreatDoorW.PrintLast Go.Proofs.YtddhkfdfhbpblaaGreatDoorW.PrintMore
attribute [local go_sem] max2_int min2_int max_two min_two max_three min_three max_four min_four   -- for this text's walks alone
set_option linter.unusedVariables false
set_option linter.unusedSimpArgs false
def dec_Number.f (a0 : ByteArray) : Option (Int × Int) := (dec_natural.f a0).bind fun bt104 => (if bt104.2 = true then (if (bt104.1 / 9223372036854775808) > 0 then (some (0, 15)) else (some (wrap64 (bt104.1), 0))) else (some (0, 15)))
set_option maxHeartbeats 8000000 in
set_option maxRecDepth 100000 in
theorem dec_Number.calls (a0 : ByteArray) (r1 : Int) (r2 : Int) (w : World) (hG : Glob w) (h : dec_Number.f a0 = some (r1, r2)) :
  Calls Tryz.prog 158 #[.string a0] w fun e w' => e = .returned (.tuple #[.int .i64 r1, .int .u8 r2]) ∧ Below w.heap.size w w' := by
 have HG := Aside0.mk hG; clear hG
 have HB := Aside0.mk (Below.refl w.heap.size w)
 have H : ((dec_natural.f a0).bind fun bt104 => (if bt104.2 = true then (if (bt104.1 / 9223372036854775808) > 0 then (some (0, 15)) else (some (wrap64 (bt104.1), 0))) else (some (0, 15)))) = some (r1, r2) := h
 clear h
 obtain ⟨⟨t104, t105⟩, A20, H⟩ := Zk H
 try dsimp only at H
 have A2 := Aside0.mk A20
 clear A20
 by_cases c3 : t105 = true
 ·subst c3
  rw [if_pos rfl] at H
  by_cases c4 : (t104 / 9223372036854775808) > 0
  ·rw [if_pos c4] at H
   have c4b0 : decide (0 < (t104 / 9223372036854775808)) = true := decide_eq_true c4
   clear c4
   simp only [Option.some.injEq, Prod.mk.injEq] at H
   obtain ⟨rfl, rfl⟩ := H
   go_enter Tryz.func158, Tryz.ntmps158
   go_wp2_with (first | ((with_reducible refine gate_callee (f := 174) rfl ?_); refine ZL 8 Tryz.func174 #[.string a0] ?_; (with_reducible refine (dec_natural.calls a0 t104 true _ ?side1 A2.out).mono ?_); (case side1 => exact ZG HG HB); rintro e w5 ⟨rfl, hb⟩; refine ⟨_, rfl, ?_⟩; replace HB := Zs HB hb; try clear hb))
   go_ret2
   exact ⟨Ze, Zh HB⟩
  ·rw [if_neg c4] at H
   have c4b0 : decide (0 < (t104 / 9223372036854775808)) = false := decide_eq_false c4
   clear c4
   simp only [Option.some.injEq, Prod.mk.injEq] at H
   obtain ⟨rfl, rfl⟩ := H
   go_enter Tryz.func158, Tryz.ntmps158
   go_wp2_with (first | ((with_reducible refine gate_callee (f := 174) rfl ?_); refine ZL 8 Tryz.func174 #[.string a0] ?_; (with_reducible refine (dec_natural.calls a0 t104 true _ ?side1 A2.out).mono ?_); (case side1 => exact ZG HG HB); rintro e w6 ⟨rfl, hb⟩; refine ⟨_, rfl, ?_⟩; replace HB := Zs HB hb; try clear hb))
   go_ret2
   exact ⟨Ze, Zh HB⟩
 ·replace c3 := Bool.eq_false_iff.mpr c3
  subst c3
  rw [Zf] at H
  simp only [Option.some.injEq, Prod.mk.injEq] at H
  obtain ⟨rfl, rfl⟩ := H
  go_enter Tryz.func158, Tryz.ntmps158
  go_wp2_with (first | ((with_reducible refine gate_callee (f := 174) rfl ?_); refine ZL 8 Tryz.func174 #[.string a0] ?_; (with_reducible refine (dec_natural.calls a0 t104 false _ ?side1 A2.out).mono ?_); (case side1 => exact ZG HG HB); rintro e w7 ⟨rfl, hb⟩; refine ⟨_, rfl, ?_⟩; replace HB := Zs HB hb; try clear hb))
  go_ret2
  exact ⟨Ze, Zh HB⟩
end Go.Proofs.YtddhkfdfhbpblaaGreatDoor.P
namespace Go.Proofs.YtddhkfdfhbpblaaGreatDoor.P
open Go.RowKit Go.Proofs.YtddhkfdfhbpblaaGreatDoorW.PrintWords Go.Proofs.YtddhkfdfhbpblaaGreatDoorW.PrintLast Go.Proofs.YtddhkfdfhbpblaaGreatDoorW.PrintMore
attribute [local go_sem] max2_int min2_int max_two min_two max_three min_three max_four min_four   -- for this text's walks alone
set_option linter.unusedVariables false
set_option linter.unusedSimpArgs false
def stringslite_HasPrefix.f (a0 : ByteArray) (a1 : ByteArray) : Option (Bool) := if (a0.size : Int) ≥ (a1.size : Int) then (if 0 ≤ (a1.size : Int) then (if (a1.size : Int) ≤ (a0.size : Int) then (some ((a0.extract 0 ((a1.size : Int) : Int).toNat).toList == a1.toList)) else (none)) else (none)) else (some false)
set_option maxHeartbeats 8000000 in
set_option maxRecDepth 100000 in
theorem stringslite_HasPrefix.calls (a0 : ByteArray) (a1 : ByteArray) (r : Bool) (w : World) (h : stringslite_HasPrefix.f a0 a1 = some r) :
  Calls Tryz.prog 213 #[.string a0, .string a1] w fun e w' => e = .returned (.bool r) ∧ Drawn0 w w' := by
 have H : (if (a0.size : Int) ≥ (a1.size : Int) then (if 0 ≤ (a1.size : Int) then (if (a1.size : Int) ≤ (a0.size : Int) then (some ((a0.extract 0 ((a1.size : Int) : Int).toNat).toList == a1.toList)) else (none)) else (none)) else (some false)) = some r := h
 clear h
 by_cases c3 : (a0.size : Int) ≥ (a1.size : Int)
 ·rw [if_pos c3] at H
  have c3b0 : decide ((a1.size : Int) ≤ (a0.size : Int)) = true := decide_eq_true c3
  have c3b1 : decide (a1.size ≤ a0.size) = true := decide_eq_true (Int.ofNat_le.mp c3)
  clear c3
  by_cases c4 : 0 ≤ (a1.size : Int)
  ·rw [if_pos c4] at H
   have c4b0 := eq_true c4
   have c4b1 : decide (0 ≤ (a1.size : Int)) = true := decide_eq_true c4
   clear c4
   by_cases c5 : (a1.size : Int) ≤ (a0.size : Int)
   ·rw [if_pos c5] at H
    have c5b0 := eq_true c5
    have c5b1 : decide ((a1.size : Int) ≤ (a0.size : Int)) = true := decide_eq_true c5
    clear c5
    obtain rfl := Option.some.inj H
    go_enter Tryz.func213, Tryz.ntmps213
    go_wp2
    go_ret
    exact ⟨Zr, Zd⟩
   ·rw [if_neg c5] at H
    exact absurd H (by simp)
  ·rw [if_neg c4] at H
   exact absurd H (by simp)
 ·rw [if_neg c3] at H
  have c3b0 : decide ((a1.size : Int) ≤ (a0.size : Int)) = false := decide_eq_false c3
  have c3b1 : decide (a1.size ≤ a0.size) = false := decide_eq_false (fun h => c3 (Int.ofNat_le.mpr h))
  clear c3
  obtain rfl := Option.some.inj H
  go_enter Tryz.func213, Tryz.ntmps213
  go_wp2
  go_ret
  exact ⟨Zr, Zd⟩
end Go.Proofs.YtddhkfdfhbpblaaGreatDoor.P
namespace Go.Proofs.YtddhkfdfhbpblaaGreatDoor.P
open Go.RowKit Go.Proofs.YtddhkfdfhbpblaaGreatDoorW.PrintWords Go.Proofs.YtddhkfdfhbpblaaGreatDoorW.PrintLast Go.Proofs.YtddhkfdfhbpblaaGreatDoorW.PrintMore
attribute [local go_sem] max2_int min2_int max_two min_two max_three min_three max_four min_four   -- for this text's walks alone
set_option linter.unusedVariables false
set_option linter.unusedSimpArgs false
def stringslite_CutPrefix.f (a0 : ByteArray) (a1 : ByteArray) : Option (ByteArray × Bool) := (stringslite_HasPrefix.f a0 a1).bind fun t106 => (if t106 = true then (if 0 ≤ (a1.size : Int) then (if (a1.size : Int) ≤ (a0.size : Int) then (some (a0.extract ((a1.size : Int) : Int).toNat a0.size, true)) else (none)) else (none)) else (some (a0, false)))
set_option maxHeartbeats 8000000 in
set_option maxRecDepth 100000 in
theorem stringslite_CutPrefix.calls (a0 : ByteArray) (a1 : ByteArray) (r1 : ByteArray) (r2 : Bool) (w : World) (h : stringslite_CutPrefix.f a0 a1 = some (r1, r2)) :
  Calls Tryz.prog 197 #[.string a0, .string a1] w fun e w' => e = .returned (.tuple #[.string r1, .bool r2]) ∧ Drawn0 w w' := by
 have H : ((stringslite_HasPrefix.f a0 a1).bind fun t106 => (if t106 = true then (if 0 ≤ (a1.size : Int) then (if (a1.size : Int) ≤ (a0.size : Int) then (some (a0.extract ((a1.size : Int) : Int).toNat a0.size, true)) else (none)) else (none)) else (some (a0, false)))) = some (r1, r2) := h
 clear h
 obtain ⟨t106, A30, H⟩ := Zk H
 have A3 := Aside0.mk A30
 clear A30
 by_cases c4 : t106 = true
 ·subst c4
  rw [if_pos rfl] at H
  by_cases c5 : 0 ≤ (a1.size : Int)
  ·rw [if_pos c5] at H
   have c5b0 := eq_true c5
   have c5b1 : decide (0 ≤ (a1.size : Int)) = true := decide_eq_true c5
   clear c5
   by_cases c6 : (a1.size : Int) ≤ (a0.size : Int)
   ·rw [if_pos c6] at H
    have c6b0 := eq_true c6
    have c6b1 : decide ((a1.size : Int) ≤ (a0.size : Int)) = true := decide_eq_true c6
    clear c6
    simp only [Option.some.injEq, Prod.mk.injEq] at H
    obtain ⟨rfl, rfl⟩ := H
    go_enter Tryz.func197, Tryz.ntmps197
    go_wp2_with (first | ((with_reducible refine gate_callee (f := 213) rfl ?_); refine ZL 8 Tryz.func213 #[.string a0, .string a1] ?_; (with_reducible refine (stringslite_HasPrefix.calls a0 a1 true _ A3.out).mono ?_); rintro e w' ⟨rfl, ⟨nd, rfl⟩⟩; refine ⟨_, rfl, ?_⟩))
    go_ret2
    exact ⟨Zr, Zd⟩
   ·rw [if_neg c6] at H
    exact absurd H (by simp)
  ·rw [if_neg c5] at H
   exact absurd H (by simp)
 ·replace c4 := Bool.eq_false_iff.mpr c4
  subst c4
  rw [Zf] at H
  simp only [Option.some.injEq, Prod.mk.injEq] at H
  obtain ⟨rfl, rfl⟩ := H
  go_enter Tryz.func197, Tryz.ntmps197
  go_wp2_with (first | ((with_reducible refine gate_callee (f := 213) rfl ?_); refine ZL 8 Tryz.func213 #[.string a0, .string a1] ?_; (with_reducible refine (stringslite_HasPrefix.calls a0 a1 false _ A3.out).mono ?_); rintro e w' ⟨rfl, ⟨nd, rfl⟩⟩; refine ⟨_, rfl, ?_⟩))
  go_ret2
  exact ⟨Zr, Zd⟩
end Go.Proofs.YtddhkfdfhbpblaaGreatDoor.P
namespace Go.Proofs.YtddhkfdfhbpblaaGreatDoor.P
open Go.RowKit Go.Proofs.YtddhkfdfhbpblaaGreatDoorW.PrintWords Go.Proofs.YtddhkfdfhbpblaaGreatDoorW.PrintLast Go.Proofs.YtddhkfdfhbpblaaGreatDoorW.PrintMore
attribute [local go_sem] max2_int min2_int max_two min_two max_three min_three max_four min_four   -- for this text's walks alone
set_option linter.unusedVariables false
set_option linter.unusedSimpArgs false
def strings_CutPrefix.f (a0 : ByteArray) (a1 : ByteArray) : Option (ByteArray × Bool) := (stringslite_CutPrefix.f a0 a1).bind fun bt107 => (some (bt107.1, bt107.2))
set_option maxHeartbeats 8000000 in
set_option maxRecDepth 100000 in
theorem strings_CutPrefix.calls (a0 : ByteArray) (a1 : ByteArray) (r1 : ByteArray) (r2 : Bool) (w : World) (h : strings_CutPrefix.f a0 a1 = some (r1, r2)) :
  Calls Tryz.prog 175 #[.string a0, .string a1] w fun e w' => e = .returned (.tuple #[.string r1, .bool r2]) ∧ Drawn0 w w' := by
 have H : ((stringslite_CutPrefix.f a0 a1).bind fun bt107 => (some (bt107.1, bt107.2))) = some (r1, r2) := h
 clear h
 obtain ⟨⟨t107, t108⟩, A30, H⟩ := Zk H
 try dsimp only at H
 have A3 := Aside0.mk A30
 clear A30
 simp only [Option.some.injEq, Prod.mk.injEq] at H
 obtain ⟨rfl, rfl⟩ := H
 go_enter Tryz.func175, Tryz.ntmps175
 go_wp2_with (first | ((with_reducible refine gate_callee (f := 197) rfl ?_); refine ZL 8 Tryz.func197 #[.string a0, .string a1] ?_; (with_reducible refine (stringslite_CutPrefix.calls a0 a1 t107 t108 _ A3.out).mono ?_); rintro e w' ⟨rfl, ⟨nd, rfl⟩⟩; refine ⟨_, rfl, ?_⟩))
 go_ret2
 exact ⟨Zr, Zd⟩
end Go.Proofs.YtddhkfdfhbpblaaGreatDoor.P
namespace Go.Proofs.YtddhkfdfhbpblaaGreatDoor.P
open Go.RowKit Go.Proofs.YtddhkfdfhbpblaaGreatDoorW.PrintWords Go.Proofs.YtddhkfdfhbpblaaGreatDoorW.PrintLast Go.Proofs.YtddhkfdfhbpblaaGreatDoorW.PrintMore
attribute [local go_sem] max2_int min2_int max_two min_two max_three min_three max_four min_four   -- for this text's walks alone
set_option linter.unusedVariables false
set_option linter.unusedSimpArgs false
mutual
def dec_Time.j0 : Nat → Bool → ByteArray → Bool → Int → Bool → Option (Int × Int × Int)
 | 0, _, _, _, _, _ => none
 | k + 1, x4, x5, x6, x7, x41 => if x41 = true then (some (0, 0, 15)) else (if x6 = true then ((strings_Repeat.f (⟨#[48]⟩ : ByteArray) (wrap64 (9 - (x5.size : Int)))).bind fun t118 => (if x5.size + t118.size ≤ 9223372036854775807 then ((strconv_ParseInt.f (x5 ++ t118) 10 64).bind fun bt119 => (dec_Time.j1 k x4 x7 bt119.1)) else (none))) else (dec_Time.j1 k x4 x7 0))
def dec_Time.j1 : Nat → Bool → Int → Int → Option (Int × Int × Int)
 | 0, _, _, _ => none
 | k + 1, x4, x7, x9 => if x4 = true then (dec_Time.j2 k x4 x7 x9 false (wrap64 (x7)) x9) else (dec_Time.j2 k x4 x7 x9 (decide ((x7 / 9223372036854775808) > 0)) (wrap64 (x7)) x9)
def dec_Time.j2 : Nat → Bool → Int → Int → Bool → Int → Int → Option (Int × Int × Int)
 | 0, _, _, _, _, _, _ => none
 | k + 1, x4, x7, x9, x66, x122000, x122001 => if x66 = true then (some (0, 0, 15)) else (if x4 = true then (if x9 = 0 then (some (wrap64 (IntKind.u64.wrap (-x7)), x122001, 0)) else (if (x7 / 9223372036854775808) > 0 then (some (0, 0, 15)) else (some (wrap64 ((wrap64 (-(wrap64 (x7)))) - 1), wrap64 (1000000000 - x9), 0)))) else (some (x122000, x122001, 0)))
end
def dec_Time.f (k : Nat) (a0 : ByteArray) : Option (Int × Int × Int) := (strings_CutPrefix.f a0 (⟨#[45]⟩ : ByteArray)).bind fun bt110 => ((strings_Cut.f bt110.1 (⟨#[46]⟩ : ByteArray)).bind fun bt112 => ((dec_natural.f bt112.1).bind fun bt115 => (if bt115.2 = true then (if bt112.2.2 = true then ((dec_digits.f k bt112.2.1).bind fun t117 => (if t117 = true then (dec_Time.j0 k bt110.2 bt112.2.1 bt112.2.2 bt115.1 (decide ((bt112.2.1.size : Int) > 9))) else (dec_Time.j0 k bt110.2 bt112.2.1 bt112.2.2 bt115.1 true))) else (dec_Time.j0 k bt110.2 bt112.2.1 bt112.2.2 bt115.1 false)) else (dec_Time.j0 k bt110.2 bt112.2.1 bt112.2.2 bt115.1 true))))
set_option maxHeartbeats 8000000 in
set_option maxRecDepth 100000 in
theorem dec_Time.calls (k : Nat) (a0 : ByteArray) (r1 : Int) (r2 : Int) (r3 : Int) (w : World) (hG : Glob w) (h : dec_Time.f k a0 = some (r1, r2, r3)) :
  Calls Tryz.prog 159 #[.string a0] w fun e w' => e = .returned (.tuple #[.agg #[.int .i64 r1, .int .i64 r2], .int .u8 r3]) ∧ Below w.heap.size w w' := by
 have hu30 := Tryz.underlying30
 have HG := Aside0.mk hG; clear hG
 have HB := Aside0.mk (Below.refl w.heap.size w)
 have H : ((strings_CutPrefix.f a0 (⟨#[45]⟩ : ByteArray)).bind fun bt110 => ((strings_Cut.f bt110.1 (⟨#[46]⟩ : ByteArray)).bind fun bt112 => ((dec_natural.f bt112.1).bind fun bt115 => (if bt115.2 = true then (if bt112.2.2 = true then ((dec_digits.f k bt112.2.1).bind fun t117 => (if t117 = true then (dec_Time.j0 k bt110.2 bt112.2.1 bt112.2.2 bt115.1 (decide ((bt112.2.1.size : Int) > 9))) else (dec_Time.j0 k bt110.2 bt112.2.1 bt112.2.2 bt115.1 true))) else (dec_Time.j0 k bt110.2 bt112.2.1 bt112.2.2 bt115.1 false)) else (dec_Time.j0 k bt110.2 bt112.2.1 bt112.2.2 bt115.1 true))))) = some (r1, r2, r3) := h
 clear h
 obtain ⟨⟨t110, t111⟩, A20, H⟩ := Zk H
 try dsimp only at H
 have A2 := Aside0.mk A20
 clear A20
 obtain ⟨⟨t112, t113, t114⟩, A30, H⟩ := Zk H
 try dsimp only at H
 have A3 := Aside0.mk A30
 clear A30
 obtain ⟨⟨t115, t116⟩, A40, H⟩ := Zk H
 try dsimp only at H
 have A4 := Aside0.mk A40
 clear A40
 have HC5 := Aside0.mk H; clear H
 go_enter Tryz.func159, Tryz.ntmps159
 go_upto_region 4 with (first | ((with_reducible refine gate_dst (N := 2) rfl ?_); (try (refine gate_guard (by rfl) ?_; dsimp only)); refine Zbx (N := 2) (cs := #[.int .i64 0, .int .i64 0]) (t := 30) HB ?_; intro gb109 w6 HB BK109 GE109; have GW109 := GE109) | ((with_reducible refine gate_callee (f := 175) rfl ?_); refine ZL 13 Tryz.func175 #[.string a0, .string (⟨#[45]⟩ : ByteArray)] ?_; (with_reducible refine (strings_CutPrefix.calls a0 (⟨#[45]⟩ : ByteArray) t110 t111 _ A2.out).mono ?_); rintro e w' ⟨rfl, ⟨nd, rfl⟩⟩; refine ⟨_, rfl, ?_⟩) | ((with_reducible refine gate_callee (f := 129) rfl ?_); refine ZL 18 Tryz.func129 #[.string t110, .string (⟨#[46]⟩ : ByteArray)] ?_; (with_reducible refine (strings_Cut.calls t110 (⟨#[46]⟩ : ByteArray) t112 t113 t114 _ ?side1 A3.out).mono ?_); (case side1 => exact ZGg HG HB GE109); rintro e w7 ⟨rfl, hb⟩; refine ⟨_, rfl, ?_⟩; replace BK109 := Zx BK109 hb; replace HB := Zsg HB GE109 hb; try clear hb) | ((with_reducible refine gate_callee (f := 174) rfl ?_); refine ZL 24 Tryz.func174 #[.string t112] ?_; (with_reducible refine (dec_natural.calls t112 t115 t116 _ ?side1 A4.out).mono ?_); (case side1 => exact ZGg HG HB GE109); rintro e w8 ⟨rfl, hb⟩; refine ⟨_, rfl, ?_⟩; replace BK109 := Zx BK109 hb; replace HB := Zsg HB GE109 hb; try clear hb))
 (try simp only [Act.put, List.setIfInBounds_toArray, List.set_cons_zero, List.set_cons_succ])
 go_cut [41] (fun v41 wc => ∃ (kq : Nat) (x41_4 : Bool), v41 = .bool x41_4 ∧ Aside0 (dec_Time.j0 kq t111 t113 t114 t115 x41_4 = some (r1, r2, r3)) ∧ Aside0 (kq ≤ k) ∧ Aside0 (wc.heap[gb109]? = some (.cells #[.int .i64 0, .int .i64 0] 30 (0, 0))) ∧ Aside0 (Below w.heap.size w wc))
 case first =>
  have H := HC5.out
  clear HC5
  by_cases c9 : t116 = true
  ·subst c9
   rw [if_pos rfl] at H
   by_cases c10 : t114 = true
   ·subst c10
    rw [if_pos rfl] at H
    obtain ⟨t117, A110, H⟩ := Zk H
    have A11 := Aside0.mk A110
    clear A110
    by_cases c12 : t117 = true
    ·subst c12
     rw [if_pos rfl] at H
     have H' := Aside0.mk H
     clear H
     go_wp2_with (first | (go_at_call 176; (with_reducible refine (dec_digits.calls k t113 true _ A11.out).mono ?_); rintro e w' ⟨rfl, ⟨nd, rfl⟩⟩))
     go_meet
     case rel => exact ⟨_, (decide ((t113.size : Int) > 9)), Zr, H', Zl, ⟨Zw BK109⟩, ⟨Zhg HB GE109⟩⟩
    ·replace c12 := Bool.eq_false_iff.mpr c12
     subst c12
     rw [Zf] at H
     have H' := Aside0.mk H
     clear H
     go_wp2_with (first | (go_at_call 176; (with_reducible refine (dec_digits.calls k t113 false _ A11.out).mono ?_); rintro e w' ⟨rfl, ⟨nd, rfl⟩⟩))
     go_meet
     case rel => exact ⟨_, (true), Zr, H', Zl, ⟨Zw BK109⟩, ⟨Zhg HB GE109⟩⟩
   ·replace c10 := Bool.eq_false_iff.mpr c10
    subst c10
    rw [Zf] at H
    have H' := Aside0.mk H
    clear H
    go_wp2
    go_meet
    case rel => exact ⟨_, (false), Zr, H', Zl, ⟨Zw BK109⟩, ⟨Zhg HB GE109⟩⟩
  ·replace c9 := Bool.eq_false_iff.mpr c9
   subst c9
   rw [Zf] at H
   have H' := Aside0.mk H
   clear H
   go_wp2
   go_meet
   case rel => exact ⟨_, (true), Zr, H', Zl, ⟨Zw BK109⟩, ⟨Zhg HB GE109⟩⟩
 case rest =>
  clear HC5
  try clear c1
  try clear p2
  try clear c9
  try clear c10
  try clear c12
  obtain ⟨kq, x41_4, rfl, HA, HJ4, BK109, HB⟩ := hcut
  cases kq with
  | zero => exact absurd HA.out (by simp [dec_Time.j0])
  | succ kj4 =>
   have H := HA.out
   clear HA
   simp only [dec_Time.j0] at H
   by_cases c13 : x41_4 = true
   ·subst c13
    rw [if_pos rfl] at H
    simp only [Option.some.injEq, Prod.mk.injEq] at H
    obtain ⟨rfl, rfl, rfl⟩ := H
    have hcz14 := Zc2 BK109.out
    have hfz14 := blk_frozen BK109.out
    go_wp2
    refine bodyPost_ret (results_ct rfl _ _ gb109 30 #[.int .i64 0, .int .i64 0] (0, 0) _ rfl (by (with_reducible repeat (first | refine blk_drewN ?_ _ | refine blk_drew ?_ | refine blk_alloc ?_ _)); refine blk_put (cs := #[.int .i64 0, .int .i64 0]) ?_ 1 _ rfl; (with_reducible repeat (first | refine blk_drewN ?_ _ | refine blk_drew ?_ | refine blk_alloc ?_ _)); refine blk_put (cs := #[.int .i64 0, .int .i64 0]) ?_ 0 _ rfl; (with_reducible repeat (first | refine blk_drewN ?_ _ | refine blk_drew ?_ | refine blk_alloc ?_ _)); exact BK109.out) Tryz.underlying30 rfl (by kernel_rfl)) rfl ?_
    exact ⟨Ze, Zhg HB GE109⟩
   ·replace c13 := Bool.eq_false_iff.mpr c13
    subst c13
    rw [Zf] at H
    have HC15 := Aside0.mk H; clear H
    go_upto_if 43 with (fail)
    go_cut [9] (fun v9 wc => ∃ (kq : Nat) (x9_14 : Int), v9 = .int .i64 x9_14 ∧ Aside0 (dec_Time.j1 kq t111 t115 x9_14 = some (r1, r2, r3)) ∧ Aside0 (kq ≤ kj4) ∧ Aside0 (wc.heap[gb109]? = some (.cells #[.int .i64 0, .int .i64 0] 30 (0, 0))) ∧ Aside0 (Below w.heap.size w wc))
    case first =>
     have H := HC15.out
     clear HC15
     by_cases c16 : t114 = true
     ·subst c16
      rw [if_pos rfl] at H
      obtain ⟨t118, A170, H⟩ := Zk H
      have A17 := Aside0.mk A170
      clear A170
      by_cases c18 : t113.size + t118.size ≤ 9223372036854775807
      ·rw [if_pos c18] at H
       have c18b0 := eq_true c18
       have c18b1 : decide (t113.size + t118.size ≤ 9223372036854775807) = true := decide_eq_true c18
       try have c18b2 : (9223372036854775807 < t113.size + t118.size) = False := eq_false (Nat.not_lt.2 c18)
       obtain ⟨⟨t119, t120⟩, A190, H⟩ := Zk H
       try dsimp only at H
       have A19 := Aside0.mk A190
       clear A190
       have H' := Aside0.mk H
       clear H
       go_wp2_with (first | ((with_reducible refine gate_callee (f := 178) rfl ?_); refine goesL_ (some 49) rfl rfl Tryz.func178 (by kernel_rfl) rfl #[.string (⟨#[48]⟩ : ByteArray), .int .i64 (wrap64 (9 - (t113.size : Int)))] rfl (by (try simp only [List.map_toArray, List.map_cons, List.map_nil]); first | done | rfl | (simp only [List.length_drop, List.length_take]; rfl) | (refine Eq.trans (b := #[.string (⟨#[48]⟩ : ByteArray), .int .i64 (9 - (t113.size : Int))]) rfl ?_; rw [w64 (9 - (t113.size : Int)) (by omega) (by omega)])) ?_; (with_reducible refine (strings_Repeat.calls (⟨#[48]⟩ : ByteArray) (wrap64 (9 - (t113.size : Int))) t118 _ A17.out).mono ?_); rintro e w20 ⟨rfl, hb⟩; refine ⟨_, rfl, ?_⟩; replace BK109 := Zx BK109 hb; replace HB := Zsg HB GE109 hb; try clear hb) | ((with_reducible refine gate_callee (f := 177) rfl ?_); refine ZL 51 Tryz.func177 #[.string (t113 ++ t118), .int .i64 10, .int .i64 64] ?_; (with_reducible refine (strconv_ParseInt.calls (t113 ++ t118) 10 64 t119 t120 _ ?side1 A19.out).mono ?_); (case side1 => exact ZGg HG HB GE109); rintro e w21 ⟨rfl, hb⟩; refine ⟨_, rfl, ?_⟩; replace BK109 := Zx BK109 hb; replace HB := Zsg HB GE109 hb; try clear hb; (try simp only [errW_none, errW_some])))
       go_meet
       case rel => exact ⟨_, (t119), Zr, H', (Zm HJ4), ⟨Zw BK109⟩, ⟨Zhg HB GE109⟩⟩
      ·rw [if_neg c18] at H
       exact absurd H (by simp)
     ·replace c16 := Bool.eq_false_iff.mpr c16
      subst c16
      rw [Zf] at H
      have H' := Aside0.mk H
      clear H
      go_wp2
      go_meet
      case rel => exact ⟨_, (0), Zr, H', (Zm HJ4), ⟨Zw BK109⟩, ⟨Zhg HB GE109⟩⟩
    case rest =>
     clear HC15
     try clear c1
     try clear p2
     try clear p6
     try clear c9
     try clear c10
     try clear c12
     try clear c13
     try clear c15
     try clear c16
     try clear c17
     try clear c18
     try clear c18b0
     try clear c18b1
     try clear c18b2
     try clear hcz14
     try clear hfz14
     try clear p2
     obtain ⟨kq, x9_14, rfl, HA, HJ14, BK109, HB⟩ := hcut
     cases kq with
     | zero => exact absurd HA.out (by simp [dec_Time.j1])
     | succ kj14 =>
      have H := HA.out
      clear HA
      simp only [dec_Time.j1] at H
      have HC22 := Aside0.mk H; clear H
      go_upto_region 11 with (first | ((with_reducible refine gate_dst (N := 10) rfl ?_); (try (refine gate_guard (by rfl) ?_; dsimp only)); refine box_event ?hg (N := 10) ?hd (cs := #[.int .i64 0, .int .i64 0]) (t := 30) ?hr ?_; (case hd => rfl); (case hg => rfl); (case hr => first | (go_simp; done) | (go_simp; rfl)); intro gb121 hg w23 hbox hb; have n0_ := Zx BK109 hb; have n1_ := Zsg HB GE109 hb; have n2_ := Aside0.mk (hbox); have n3_ := Aside0.mk ((by rw [hg]; exact (below_size (Zhg HB GE109)) : w.heap.size ≤ gb121)); have n4_ := Aside0.mk ((by rw [hg]; exact (below_size (Zhg HB GE109)) : w.heap.size ≤ gb121)); have n5_ := Aside0.mk ((by rw [hg]; exact Nat.ne_of_lt (blk_lt (g := gb109) (o := .cells #[.int .i64 0, .int .i64 0] 30 (0, 0)) (Zw BK109)) : gb109 ≠ gb121)); have n6_ := Aside0.mk ((by rw [hg]; exact Nat.ne_of_gt (blk_lt (g := gb109) (o := .cells #[.int .i64 0, .int .i64 0] 30 (0, 0)) (Zw BK109)) : gb121 ≠ gb109)); clear BK109; clear HB; have BK109 := n0_; have HB := n1_; have BK121 := n2_; have GW121 := n3_; have GE121 := n4_; have NB109_121 := n5_; have NB121_109 := n6_; clear n0_ n1_ n2_ n3_ n4_ n5_ n6_; clear hb hbox hg; have hnb24 := NB121_109.out; have hnc24 := NB109_121.out; have hcz25 := Zc2 BK121.out; have hfz25 := blk_frozen BK121.out))
      (try simp only [Act.put, List.setIfInBounds_toArray, List.set_cons_zero, List.set_cons_succ])
      go_cut [66] (fun v66 wc => ∃ (kq : Nat) (x66_21 : Bool), v66 = .bool x66_21 ∧ Aside0 (dec_Time.j2 kq t111 t115 x9_14 x66_21 (wrap64 (t115)) x9_14 = some (r1, r2, r3)) ∧ Aside0 (kq ≤ kj14) ∧ Aside0 (wc.heap[gb109]? = some (.cells #[.int .i64 0, .int .i64 0] 30 (0, 0))) ∧ Aside0 (wc.heap[gb121]? = some (.cells #[.int .i64 (wrap64 (t115)), .int .i64 x9_14] 30 (0, 0))) ∧ Aside0 (Below w.heap.size w wc))
      case first =>
       have H := HC22.out
       clear HC22
       by_cases c26 : t111 = true
       ·subst c26
        rw [if_pos rfl] at H
        have H' := Aside0.mk H
        clear H
        go_wp2
        go_meet
        case rel => exact ⟨_, (false), Zr, H', ⟨by have := HJ4.out; have := HJ14.out; first | omega | exact Nat.le_refl _⟩, ⟨by (with_reducible repeat (first | refine blk_drewN ?_ _ | refine blk_drew ?_ | refine blk_alloc ?_ _)); refine blk_far ?_ NB109_121.out _; (with_reducible repeat (first | refine blk_drewN ?_ _ | refine blk_drew ?_ | refine blk_alloc ?_ _)); refine blk_far ?_ NB109_121.out _; (with_reducible repeat (first | refine blk_drewN ?_ _ | refine blk_drew ?_ | refine blk_alloc ?_ _)); exact BK109.out⟩, ⟨by (with_reducible repeat (first | refine blk_drewN ?_ _ | refine blk_drew ?_ | refine blk_alloc ?_ _)); refine blk_put (cs := #[.int .i64 (wrap64 (t115)), .int .i64 0]) ?_ 1 _ rfl; (with_reducible repeat (first | refine blk_drewN ?_ _ | refine blk_drew ?_ | refine blk_alloc ?_ _)); refine blk_put (cs := #[.int .i64 0, .int .i64 0]) ?_ 0 _ rfl; (with_reducible repeat (first | refine blk_drewN ?_ _ | refine blk_drew ?_ | refine blk_alloc ?_ _)); exact BK121.out⟩, ⟨by repeat (first | (with_reducible first | exact HB.out | apply below_alloc | apply pw_below_drewN | apply below_drew1 | refine below_set ?_ GE109.out | refine below_set ?_ GE121.out) | exact HB.out)⟩⟩
       ·replace c26 := Bool.eq_false_iff.mpr c26
        subst c26
        rw [Zf] at H
        have H' := Aside0.mk H
        clear H
        go_wp2
        go_meet
        case rel => exact ⟨_, (decide ((t115 / 9223372036854775808) > 0)), Zr, H', ⟨by have := HJ4.out; have := HJ14.out; first | omega | exact Nat.le_refl _⟩, ⟨by (with_reducible repeat (first | refine blk_drewN ?_ _ | refine blk_drew ?_ | refine blk_alloc ?_ _)); refine blk_far ?_ NB109_121.out _; (with_reducible repeat (first | refine blk_drewN ?_ _ | refine blk_drew ?_ | refine blk_alloc ?_ _)); refine blk_far ?_ NB109_121.out _; (with_reducible repeat (first | refine blk_drewN ?_ _ | refine blk_drew ?_ | refine blk_alloc ?_ _)); exact BK109.out⟩, ⟨by (with_reducible repeat (first | refine blk_drewN ?_ _ | refine blk_drew ?_ | refine blk_alloc ?_ _)); refine blk_put (cs := #[.int .i64 (wrap64 (t115)), .int .i64 0]) ?_ 1 _ rfl; (with_reducible repeat (first | refine blk_drewN ?_ _ | refine blk_drew ?_ | refine blk_alloc ?_ _)); refine blk_put (cs := #[.int .i64 0, .int .i64 0]) ?_ 0 _ rfl; (with_reducible repeat (first | refine blk_drewN ?_ _ | refine blk_drew ?_ | refine blk_alloc ?_ _)); exact BK121.out⟩, ⟨by repeat (first | (with_reducible first | exact HB.out | apply below_alloc | apply pw_below_drewN | apply below_drew1 | refine below_set ?_ GE109.out | refine below_set ?_ GE121.out) | exact HB.out)⟩⟩
      case rest =>
       clear HC22
       try clear c1
       try clear c2
       try clear p2
       try clear p6
       try clear c9
       try clear c10
       try clear c12
       try clear c13
       try clear c15
       try clear c16
       try clear c17
       try clear c18
       try clear c18b0
       try clear c18b1
       try clear c18b2
       try clear c24
       try clear c26
       try clear hcz14
       try clear hcz25
       try clear hfz14
       try clear hfz25
       try clear p2
       try clear p6
       obtain ⟨kq, x66_21, rfl, HA, HJ21, BK109, BK121, HB⟩ := hcut
       cases kq with
       | zero => exact absurd HA.out (by simp [dec_Time.j2])
       | succ kj21 =>
        have H := HA.out
        clear HA
        simp only [dec_Time.j2] at H
        by_cases c27 : x66_21 = true
        ·subst c27
         rw [if_pos rfl] at H
         simp only [Option.some.injEq, Prod.mk.injEq] at H
         obtain ⟨rfl, rfl, rfl⟩ := H
         have hnb28 := NB109_121.out
         have hnc28 := NB121_109.out
         have hcz29 := Zc2 BK109.out
         have hfz29 := blk_frozen BK109.out
         go_wp2
         refine bodyPost_ret (results_ct rfl _ _ gb109 30 #[.int .i64 0, .int .i64 0] (0, 0) _ rfl (by (with_reducible repeat (first | refine blk_drewN ?_ _ | refine blk_drew ?_ | refine blk_alloc ?_ _)); refine blk_put (cs := #[.int .i64 0, .int .i64 0]) ?_ 1 _ rfl; (with_reducible repeat (first | refine blk_drewN ?_ _ | refine blk_drew ?_ | refine blk_alloc ?_ _)); refine blk_put (cs := #[.int .i64 0, .int .i64 0]) ?_ 0 _ rfl; (with_reducible repeat (first | refine blk_drewN ?_ _ | refine blk_drew ?_ | refine blk_alloc ?_ _)); exact BK109.out) Tryz.underlying30 rfl (by kernel_rfl)) rfl ?_
         exact ⟨Ze, by repeat (first | (with_reducible first | exact HB.out | apply below_alloc | apply pw_below_drewN | apply below_drew1 | refine below_set ?_ GE109.out | refine below_set ?_ GE121.out) | exact HB.out)⟩
        ·replace c27 := Bool.eq_false_iff.mpr c27
         subst c27
         rw [Zf] at H
         by_cases c30 : t111 = true
         ·subst c30
          rw [if_pos rfl] at H
          by_cases c31 : x9_14 = 0
          ·rw [if_pos c31] at H
           have c31b0 : (x9_14 == 0) = true := beq_iff_eq.mpr c31
           have c31b1 : (x9_14 != 0) = false := bne_eq_false_iff_eq.mpr c31
           clear c31
           simp only [Option.some.injEq, Prod.mk.injEq] at H
           obtain ⟨rfl, rfl, rfl⟩ := H
           have hnb32 := NB121_109.out
           have hnc32 := NB109_121.out
           have hcz33 := Zc2 BK121.out
           have hfz33 := blk_frozen BK121.out
           have hcz34 := Zc2 BK109.out
           have hfz34 := blk_frozen BK109.out
           go_wp2
           refine bodyPost_ret (results_ct rfl _ _ gb109 30 #[.int .i64 (wrap64 (IntKind.u64.wrap (-t115))), .int .i64 x9_14] (0, 0) _ rfl (by (with_reducible repeat (first | refine blk_drewN ?_ _ | refine blk_drew ?_ | refine blk_alloc ?_ _)); refine blk_put (cs := #[.int .i64 (wrap64 (IntKind.u64.wrap (-t115))), .int .i64 0]) ?_ 1 _ rfl; (with_reducible repeat (first | refine blk_drewN ?_ _ | refine blk_drew ?_ | refine blk_alloc ?_ _)); refine blk_put (cs := #[.int .i64 0, .int .i64 0]) ?_ 0 _ rfl; (with_reducible repeat (first | refine blk_drewN ?_ _ | refine blk_drew ?_ | refine blk_alloc ?_ _)); refine blk_far ?_ NB109_121.out _; (with_reducible repeat (first | refine blk_drewN ?_ _ | refine blk_drew ?_ | refine blk_alloc ?_ _)); exact BK109.out) Tryz.underlying30 rfl (by kernel_rfl)) rfl ?_
           exact ⟨Ze, by repeat (first | (with_reducible first | exact HB.out | apply below_alloc | apply pw_below_drewN | apply below_drew1 | refine below_set ?_ GE109.out | refine below_set ?_ GE121.out) | exact HB.out)⟩
          ·rw [if_neg c31] at H
           have c31b0 : (x9_14 == 0) = false := beq_eq_false_iff_ne.mpr c31
           have c31b1 : (x9_14 != 0) = true := bne_iff_ne.mpr c31
           by_cases c35 : (t115 / 9223372036854775808) > 0
           ·rw [if_pos c35] at H
            have c35b0 : decide (0 < (t115 / 9223372036854775808)) = true := decide_eq_true c35
            clear c35
            simp only [Option.some.injEq, Prod.mk.injEq] at H
            obtain ⟨rfl, rfl, rfl⟩ := H
            have hnb36 := NB109_121.out
            have hnc36 := NB121_109.out
            have hcz37 := Zc2 BK109.out
            have hfz37 := blk_frozen BK109.out
            go_wp2
            refine bodyPost_ret (results_ct rfl _ _ gb109 30 #[.int .i64 0, .int .i64 0] (0, 0) _ rfl (by (with_reducible repeat (first | refine blk_drewN ?_ _ | refine blk_drew ?_ | refine blk_alloc ?_ _)); refine blk_put (cs := #[.int .i64 0, .int .i64 0]) ?_ 1 _ rfl; (with_reducible repeat (first | refine blk_drewN ?_ _ | refine blk_drew ?_ | refine blk_alloc ?_ _)); refine blk_put (cs := #[.int .i64 0, .int .i64 0]) ?_ 0 _ rfl; (with_reducible repeat (first | refine blk_drewN ?_ _ | refine blk_drew ?_ | refine blk_alloc ?_ _)); exact BK109.out) Tryz.underlying30 rfl (by kernel_rfl)) rfl ?_
            exact ⟨Ze, by repeat (first | (with_reducible first | exact HB.out | apply below_alloc | apply pw_below_drewN | apply below_drew1 | refine below_set ?_ GE109.out | refine below_set ?_ GE121.out) | exact HB.out)⟩
           ·rw [if_neg c35] at H
            have c35b0 : decide (0 < (t115 / 9223372036854775808)) = false := decide_eq_false c35
            clear c35
            simp only [Option.some.injEq, Prod.mk.injEq] at H
            obtain ⟨rfl, rfl, rfl⟩ := H
            have hnb38 := NB121_109.out
            have hnc38 := NB109_121.out
            have hcz39 := Zc2 BK121.out
            have hfz39 := blk_frozen BK121.out
            have hcz40 := Zc2 BK109.out
            have hfz40 := blk_frozen BK109.out
            go_wp2
            refine bodyPost_ret (results_ct rfl _ _ gb109 30 #[.int .i64 (wrap64 ((wrap64 (-(wrap64 (t115)))) - 1)), .int .i64 (wrap64 (1000000000 - x9_14))] (0, 0) _ rfl (by (with_reducible repeat (first | refine blk_drewN ?_ _ | refine blk_drew ?_ | refine blk_alloc ?_ _)); refine blk_put (cs := #[.int .i64 (wrap64 ((wrap64 (-(wrap64 (t115)))) - 1)), .int .i64 0]) ?_ 1 _ rfl; (with_reducible repeat (first | refine blk_drewN ?_ _ | refine blk_drew ?_ | refine blk_alloc ?_ _)); refine blk_put (cs := #[.int .i64 0, .int .i64 0]) ?_ 0 _ rfl; (with_reducible repeat (first | refine blk_drewN ?_ _ | refine blk_drew ?_ | refine blk_alloc ?_ _)); refine blk_far ?_ NB109_121.out _; (with_reducible repeat (first | refine blk_drewN ?_ _ | refine blk_drew ?_ | refine blk_alloc ?_ _)); refine blk_far ?_ NB109_121.out _; (with_reducible repeat (first | refine blk_drewN ?_ _ | refine blk_drew ?_ | refine blk_alloc ?_ _)); exact BK109.out) Tryz.underlying30 rfl (by kernel_rfl)) rfl ?_
            exact ⟨Ze, by repeat (first | (with_reducible first | exact HB.out | apply below_alloc | apply pw_below_drewN | apply below_drew1 | refine below_set ?_ GE109.out | refine below_set ?_ GE121.out) | exact HB.out)⟩
         ·replace c30 := Bool.eq_false_iff.mpr c30
          subst c30
          rw [Zf] at H
          simp only [Option.some.injEq, Prod.mk.injEq] at H
          obtain ⟨rfl, rfl, rfl⟩ := H
          have hnb41 := NB121_109.out
          have hnc41 := NB109_121.out
          have hcz42 := Zc2 BK121.out
          have hfz42 := blk_frozen BK121.out
          have hcz43 := Zc2 BK109.out
          have hfz43 := blk_frozen BK109.out
          go_wp2
          refine bodyPost_ret (results_ct rfl _ _ gb109 30 #[.int .i64 (wrap64 (t115)), .int .i64 x9_14] (0, 0) _ rfl (by (with_reducible repeat (first | refine blk_drewN ?_ _ | refine blk_drew ?_ | refine blk_alloc ?_ _)); refine blk_put (cs := #[.int .i64 (wrap64 (t115)), .int .i64 0]) ?_ 1 _ rfl; (with_reducible repeat (first | refine blk_drewN ?_ _ | refine blk_drew ?_ | refine blk_alloc ?_ _)); refine blk_put (cs := #[.int .i64 0, .int .i64 0]) ?_ 0 _ rfl; (with_reducible repeat (first | refine blk_drewN ?_ _ | refine blk_drew ?_ | refine blk_alloc ?_ _)); exact BK109.out) Tryz.underlying30 rfl (by kernel_rfl)) rfl ?_
          exact ⟨Ze, by repeat (first | (with_reducible first | exact HB.out | apply below_alloc | apply pw_below_drewN | apply below_drew1 | refine below_set ?_ GE109.out | refine below_set ?_ GE121.out) | exact HB.out)⟩
end Go.Proofs.YtddhkfdfhbpblaaGreatDoor.P
namespace Go.Proofs.YtddhkfdfhbpblaaGreatDoor.P
open Go.RowKit Go.Proofs.YtddhkfdfhbpblaaGreatDoorW.PrintWords Go.Proofs.YtddhkfdfhbpblaaGreatDoorW.PrintLast Go.Proofs.YtddhkfdfhbpblaaGreatDoorW.PrintMore
attribute [local go_sem] max2_int min2_int max_two min_two max_three min_three max_four min_four   -- for this text's walks alone
set_option linter.unusedVariables false
set_option linter.unusedSimpArgs false
def oakumref04_only.l0 : Nat → ByteArray → Int → Option (Bool)
 | 0, _, _ => none
 | k + 1, x0, x3 => if x3 < (x0.size : Int) then (if 0 ≤ x3 then (if (bt x0 x3) < 48 then (some false) else (if (bt x0 x3) > 57 then (some false) else (oakumref04_only.l0 k x0 (wrap64 (x3 + 1))))) else (none)) else (some (decide ((x0.size : Int) > 0)))
def oakumref04_only.f (k : Nat) (a0 : ByteArray) : Option (Bool) := oakumref04_only.l0 k a0 0
end Go.Proofs.YtddhkfdfhbpblaaGreatDoor.P
namespace Go.Proofs.YtddhkfdfhbpblaaGreatDoor.P
open Go.RowKit Go.Proofs.YtddhkfdfhbpblaaGreatDoorW.PrintWords Go.Proofs.YtddhkfdfhbpblaaGreatDoorW.PrintLast Go.Proofs.YtddhkfdfhbpblaaGreatDoorW.PrintMore
attribute [local go_sem] max2_int min2_int max_two min_two max_three min_three max_four min_four   -- for this text's walks alone
set_option linter.unusedVariables false
set_option linter.unusedSimpArgs false
mutual
def oakumref04_Below.j0 : Nat → ByteArray → Bool → Option (Int × Bool)
 | 0, _, _ => none
 | k + 1, x0, x19 => if x19 = true then (some (0, false)) else (oakumref04_Below.l0 k x0 0 0)
def oakumref04_Below.l0 : Nat → ByteArray → Int → Int → Option (Int × Bool)
 | 0, _, _, _ => none
 | k + 1, x0, x4, x5 => if x5 < (x0.size : Int) then (if 0 ≤ x5 then (if x4 < (-922337203685477580) then (some (0, false)) else (if x4 = (-922337203685477580) then (if (wrap64 ((wrap64 (bt x0 x5)) - 48)) > 8 then (some (0, false)) else (oakumref04_Below.l0 k x0 (wrap64 ((wrap64 (10 * x4)) - (wrap64 ((wrap64 (bt x0 x5)) - 48)))) (wrap64 (x5 + 1)))) else (oakumref04_Below.l0 k x0 (wrap64 ((wrap64 (10 * x4)) - (wrap64 ((wrap64 (bt x0 x5)) - 48)))) (wrap64 (x5 + 1))))) else (none)) else (some (x4, true))
end
def oakumref04_Below.f (k : Nat) (a0 : ByteArray) : Option (Int × Bool) := (oakumref04_only.f k a0).bind fun t295 => (if t295 = true then (if 0 < (a0.size : Int) then (if (bt a0 0) = 48 then (oakumref04_Below.j0 k a0 (decide ((a0.size : Int) > 1))) else (oakumref04_Below.j0 k a0 false)) else (none)) else (oakumref04_Below.j0 k a0 true))
end Go.Proofs.YtddhkfdfhbpblaaGreatDoor.P
namespace Go.Proofs.YtddhkfdfhbpblaaGreatDoor.P
open Go.RowKit Go.Proofs.YtddhkfdfhbpblaaGreatDoorW.PrintWords Go.Proofs.YtddhkfdfhbpblaaGreatDoorW.PrintLast Go.Proofs.YtddhkfdfhbpblaaGreatDoorW.PrintMore
attribute [local go_sem] max2_int min2_int max_two min_two max_three min_three max_four min_four   -- for this text's walks alone
set_option linter.unusedVariables false
set_option linter.unusedSimpArgs false
def oakumref04_Number.f (k : Nat) (a0 : ByteArray) : Option (Int × Bool) := (oakumref04_Below.f k a0).bind fun bt296 => (if bt296.2 = true then (if bt296.1 < (-9223372036854775807) then (some (0, false)) else (some (wrap64 (-bt296.1), true))) else (some (0, false)))
end Go.Proofs.YtddhkfdfhbpblaaGreatDoor.P
namespace Go.Proofs.YtddhkfdfhbpblaaGreatDoor.P
open Go.RowKit Go.Proofs.YtddhkfdfhbpblaaGreatDoorW.PrintWords Go.Proofs.YtddhkfdfhbpblaaGreatDoorW.PrintLast Go.Proofs.YtddhkfdfhbpblaaGreatDoorW.PrintMore
attribute [local go_sem] max2_int min2_int max_two min_two max_three min_three max_four min_four   -- for this text's walks alone
set_option linter.unusedVariables false
set_option linter.unusedSimpArgs false
mutual
def oakumref04_Time.j0 : Nat → ByteArray → Bool → Option (Int × Int × Bool)
 | 0, _, _ => none
 | k + 1, x0, x4 => if x4 = true then (if 1 ≤ (x0.size : Int) then (oakumref04_Time.j1 k (x0.extract 1 x0.size) x4) else (none)) else (oakumref04_Time.j1 k x0 x4)
def oakumref04_Time.j1 : Nat → ByteArray → Bool → Option (Int × Int × Bool)
 | 0, _, _ => none
 | k + 1, x0, x4 => oakumref04_Time.l0 k x0 x4 (x0.size : Int) (wrap64 ((x0.size : Int) - 1))
def oakumref04_Time.l0 : Nat → ByteArray → Bool → Int → Int → Option (Int × Int × Bool)
 | 0, _, _, _, _ => none
 | k + 1, x0, x4, x5, x6 => if x6 ≥ 0 then (if 0 ≤ x6 then (if x6 < (x0.size : Int) then (if (bt x0 x6) = 46 then (oakumref04_Time.l0 k x0 x4 x6 (wrap64 (x6 - 1))) else (oakumref04_Time.l0 k x0 x4 x5 (wrap64 (x6 - 1)))) else (none)) else (none)) else (if 0 ≤ x5 then (if x5 ≤ (x0.size : Int) then ((oakumref04_Below.f k (x0.extract 0 (x5 : Int).toNat)).bind fun bt306 => (if x5 < (x0.size : Int) then (if 0 ≤ (wrap64 (x5 + 1)) then (if (wrap64 (x5 + 1)) ≤ (x0.size : Int) then ((oakumref04_only.f k (x0.extract ((wrap64 (x5 + 1)) : Int).toNat x0.size)).bind fun t308 => (if t308 = true then (oakumref04_Time.j3 k x4 bt306.1 bt306.2 0 (x0.extract ((wrap64 (x5 + 1)) : Int).toNat x0.size) (decide (((x0.extract ((wrap64 (x5 + 1)) : Int).toNat x0.size).size : Int) > 9))) else (oakumref04_Time.j3 k x4 bt306.1 bt306.2 0 (x0.extract ((wrap64 (x5 + 1)) : Int).toNat x0.size) true))) else (none)) else (none)) else (oakumref04_Time.j5 k x4 bt306.1 bt306.2 0))) else (none)) else (none))
def oakumref04_Time.j5 : Nat → Bool → Int → Bool → Int → Option (Int × Int × Bool)
 | 0, _, _, _, _ => none
 | k + 1, x4, x7, x8, x9 => if x8 = true then (if x4 = true then (if x7 = (-9223372036854775808) then (oakumref04_Time.j6 k x4 x7 x9 (decide (x9 > 0))) else (oakumref04_Time.j6 k x4 x7 x9 false)) else (if x7 = (-9223372036854775808) then (oakumref04_Time.j6 k x4 x7 x9 true) else (oakumref04_Time.j6 k x4 x7 x9 false))) else (oakumref04_Time.j6 k x4 x7 x9 true)
def oakumref04_Time.j6 : Nat → Bool → Int → Int → Bool → Option (Int × Int × Bool)
 | 0, _, _, _, _ => none
 | k + 1, x4, x7, x9, x99 => if x99 = true then (some (0, 0, false)) else (if x4 = true then (if x9 = 0 then (some (x7, 0, true)) else (some (wrap64 (x7 - 1), wrap64 (1000000000 - x9), true))) else (some (wrap64 (-x7), x9, true)))
def oakumref04_Time.j3 : Nat → Bool → Int → Bool → Int → ByteArray → Bool → Option (Int × Int × Bool)
 | 0, _, _, _, _, _, _ => none
 | k + 1, x4, x7, x8, x9, x10, x60 => if x60 = true then (some (0, 0, false)) else (oakumref04_Time.l1 k x4 x7 x8 x9 x10 0)
def oakumref04_Time.l1 : Nat → Bool → Int → Bool → Int → ByteArray → Int → Option (Int × Int × Bool)
 | 0, _, _, _, _, _, _ => none
 | k + 1, x4, x7, x8, x9, x10, x11 => if x11 < 9 then (if x11 < (x10.size : Int) then (if 0 ≤ x11 then (oakumref04_Time.l1 k x4 x7 x8 (wrap64 ((wrap64 ((wrap64 (10 * x9)) + (wrap64 (bt x10 x11)))) - 48)) x10 (wrap64 (x11 + 1))) else (none)) else (oakumref04_Time.l1 k x4 x7 x8 (wrap64 (10 * x9)) x10 (wrap64 (x11 + 1)))) else (oakumref04_Time.j5 k x4 x7 x8 x9)
end
def oakumref04_Time.f (k : Nat) (a0 : ByteArray) : Option (Int × Int × Bool) := if (a0.size : Int) > 0 then (if 0 < (a0.size : Int) then (oakumref04_Time.j0 k a0 ((bt a0 0) == 45)) else (none)) else (oakumref04_Time.j0 k a0 false)
end Go.Proofs.YtddhkfdfhbpblaaGreatDoor.P
namespace Go.Proofs.YtddhkfdfhbpblaaGreatDoor.P
open Go.RowKit Go.Proofs.YtddhkfdfhbpblaaGreatDoorW.PrintWords Go.Proofs.YtddhkfdfhbpblaaGreatDoorW.PrintLast Go.Proofs.YtddhkfdfhbpblaaGreatDoorW.PrintMore
def valF (a : Nat) (l : List UInt8) : Nat := l.foldl (fun a c => 10 * a + (c.toNat - 48)) a
theorem valF_cons (a : Nat) (c : UInt8) (t : List UInt8) : valF a (c :: t) = valF (10 * a + (c.toNat - 48)) t := List.foldl_cons ..
theorem valF_nil (a : Nat) : valF a [] = a := List.foldl_nil ..
theorem valF_ge : ∀ (l : List UInt8) (a : Nat), a ≤ valF a l
 | [], _ => Nat.le_refl _
 | c :: t, a => by
  have := valF_ge t (10 * a + (c.toNat - 48))
  rw [valF_cons]
  omega
def natOK (l : List UInt8) : Bool := (digL l && !l.isEmpty) && !(l.head? == some 48 && decide (1 < l.length)) && decide (valF 0 l ≤ 9223372036854775808)
theorem step_w (a d : Nat) (h : 10 * a + d ≤ 9223372036854775808) : wrap64 (wrap64 (10 * -(a : Int)) - (d : Int)) = -((10 * a + d : Nat) : Int) := by
 rw [w64 (10 * -(a : Int)) (by omega) (by omega), w64 _ (by omega) (by omega)]
 omega
theorem digL_cons {c : UInt8} {t : List UInt8} (h : digL (c :: t) = true) : 48 ≤ c.toNat ∧ c.toNat ≤ 57 ∧ digL t = true := by
 simp only [digL, List.all_cons, Bool.and_eq_true, decide_eq_true_eq] at h
 exact ⟨h.1.1, h.1.2, by simpa [digL] using h.2⟩
theorem parse_val (M : Nat) (hM : M = 18446744073709551615) (l : List UInt8) : ∀ a : Nat, digL l = true → a ≤ M → Lib.parseUintM M a l = if valF a l ≤ M then .ok (valF a l) else .range := by
 induction l with
 | nil =>
  intro a _ h
  rw [valF_nil, if_pos h, Lib.parseUintM]
 | cons c t ih =>
  intro a hd h
  obtain ⟨h1, h2, h3⟩ := digL_cons hd
  have hg := valF_ge t (10 * a + (c.toNat - 48))
  rw [valF_cons]
  rw [Lib.parseUintM]
  rw [if_pos ⟨h1, h2⟩, show a * 10 + (c.toNat - 48) = 10 * a + (c.toNat - 48) by omega]
  by_cases c1 : 1844674407370955162 ≤ a
  ·rw [if_pos c1, if_neg (by omega)]
  ·rw [if_neg c1]
   by_cases c2 : M < 10 * a + (c.toNat - 48)
   ·rw [if_pos c2, if_neg (by omega)]
   ·rw [if_neg c2]
    exact ih _ h3 (by omega)
theorem natL_is (l : List UInt8) : (natL l).2 = natOK l ∧ (natOK l = true → (natL l).1 = valF 0 l) := by
 unfold natL natOK
 by_cases h1 : (digL l && !l.isEmpty) = true
 ·rw [if_pos h1, h1]
  by_cases h2 : (l.head? == some 48 && decide (1 < l.length)) = true
  ·rw [if_pos h2, h2]
   simp
  ·rw [if_neg h2]
   rw [Bool.not_eq_true] at h2
   rw [h2]
   have hd : digL l = true := by
    rw [Bool.and_eq_true] at h1; exact h1.1
   have hne : l ≠ [] := by
    rw [Bool.and_eq_true] at h1
    intro h; rw [h] at h1; simp at h1
   have hp : Lib.parseUintB 64 l = if valF 0 l ≤ 18446744073709551615 then .ok (valF 0 l) else .range := by
    unfold Lib.parseUintB
    rw [if_neg hne]
    exact parse_val _ rfl l 0 hd (Nat.zero_le _)
   rw [hp]
   by_cases h3 : valF 0 l ≤ 18446744073709551615
   ·rw [if_pos h3]
    simp
   ·rw [if_neg h3]
    have : ¬ valF 0 l ≤ 9223372036854775808 := by omega
    simp [this]
 ·rw [if_neg h1]
  rw [Bool.not_eq_true] at h1
  rw [h1]
  simp
theorem only_l0 (s : ByteArray) (hs : s.size ≤ 1099511627776) : ∀ (k n : Nat) (l : List UInt8), Pos s n l → l.length < k →
  oakumref04_only.l0 k s (n : Int) = some (digL l && decide (0 < s.size))
 | 0, n, l, hp, hk => by omega
 | k + 1, n, [], hp, hk => by
  have := hp.len
  simp at this
  simp only [oakumref04_only.l0]
  rw [if_neg (by omega)]
  congr 1
  rw [Bool.eq_iff_iff]
  simp [digL]
 | k + 1, n, c :: t, hp, hk => by
  have hlt := hp.lt
  have hb := hp.bt
  have ih := only_l0 s hs k (n + 1) t hp.next (by simpa using hk)
  have hw : wrap64 ((n : Int) + 1) = ((n + 1 : Nat) : Int) := by unfold wrap64; omega
  simp only [oakumref04_only.l0]
  rw [if_pos (by omega), if_pos (by omega), hb, hw, ih]
  by_cases h1 : c.toNat < 48
  ·rw [if_pos (by omega)]
   simp [digL, show ¬ 48 ≤ c.toNat by omega]
  ·rw [if_neg (by omega)]
   by_cases h2 : 57 < c.toNat
   ·rw [if_pos (by omega)]
    simp [digL, show ¬ c.toNat ≤ 57 by omega]
   ·rw [if_neg (by omega)]
    simp [digL, show 48 ≤ c.toNat by omega, show c.toNat ≤ 57 by omega]
theorem pos_empty (s : ByteArray) : decide (0 < s.size) = !s.data.toList.isEmpty := by
 rw [← data_length]
 cases s.data.toList <;> simp
theorem only_f (s : ByteArray) (hs : s.size ≤ 1099511627776) (k : Nat) (hk : s.size < k) : oakumref04_only.f k s = some (digL s.data.toList && !s.data.toList.isEmpty) := by
 rw [← pos_empty]
 exact only_l0 s hs k 0 _ (Pos.zero s) (by rw [data_length]; exact hk)
theorem below_l0 (s : ByteArray) (hs : s.size ≤ 1099511627776) (B : Nat) (hB : B = 9223372036854775808) (l : List UInt8) : ∀ (k n a : Nat), Pos s n l → l.length < k → digL l = true → a ≤ B →
  oakumref04_Below.l0 k s (-(a : Int)) (n : Int) = some (if valF a l ≤ B then (-((valF a l : Nat) : Int), true) else (0, false)) := by
 induction l with
 | nil =>
  intro k n a hp hk _ ha
  obtain ⟨k, rfl⟩ : ∃ m, k = m + 1 := ⟨k - 1, by simp at hk; omega⟩
  have := hp.len
  simp at this
  simp only [oakumref04_Below.l0]
  rw [if_neg (by omega)]
  rw [valF_nil, if_pos ha]
 | cons c t ih =>
  intro k n a hp hk hd ha
  obtain ⟨k, rfl⟩ : ∃ m, k = m + 1 := ⟨k - 1, by simp at hk; omega⟩
  have hlt := hp.lt
  have hb := hp.bt
  have hw : wrap64 ((n : Int) + 1) = ((n + 1 : Nat) : Int) := by unfold wrap64; omega
  obtain ⟨h1, h2, h3⟩ := digL_cons hd
  have hg := valF_ge t (10 * a + (c.toNat - 48))
  have hc : wrap64 (wrap64 ((c.toNat : Nat) : Int) - 48) = ((c.toNat - 48 : Nat) : Int) := by
   rw [w64 ((c.toNat : Nat) : Int) (by omega) (by omega), w64 _ (by omega) (by omega)]
   omega
  simp only [oakumref04_Below.l0]
  rw [valF_cons, if_pos (by omega), if_pos (by omega), hb, hc, hw]
  have hk2 : t.length < k := by simpa using hk
  have hp2 := hp.next
  clear hb hc hw hlt hk hp
  have step : 10 * a + (c.toNat - 48) ≤ B → oakumref04_Below.l0 k s (wrap64 (wrap64 (10 * -(a : Int)) - ((c.toNat - 48 : Nat) : Int))) ((n + 1 : Nat) : Int) =
    some (if valF (10 * a + (c.toNat - 48)) t ≤ B then (-((valF (10 * a + (c.toNat - 48)) t : Nat) : Int), true) else (0, false)) := by
   intro hle
   rw [step_w a (c.toNat - 48) (Nat.le_trans hle (Nat.le_of_eq hB))]
   exact ih k (n + 1) _ hp2 hk2 h3 hle
  by_cases c1 : 922337203685477580 < a
  ·rw [if_pos (by omega), if_neg (by omega)]
  ·rw [if_neg (by omega)]
   by_cases c2 : a = 922337203685477580
   ·rw [if_pos (by omega)]
    by_cases c3 : 8 < c.toNat - 48
    ·rw [if_pos (by omega), if_neg (by omega)]
    ·rw [if_neg (by omega)]
     exact step (by omega)
   ·rw [if_neg (by omega)]
    exact step (by omega)
theorem head_of {s : ByteArray} {c : UInt8} {t : List UInt8} (h : s.data.toList = c :: t) : bt s 0 = (c.toNat : Int) := by
 have hp : Pos s 0 (c :: t) := ⟨by rw [List.drop_zero]; exact h, Nat.zero_le _⟩
 exact hp.bt
theorem below_f (s : ByteArray) (hs : s.size ≤ 1099511627776) (k : Nat) (hk : s.size + 1 < k) :
  oakumref04_Below.f k s = some (if natOK s.data.toList = true then (-((valF 0 s.data.toList : Nat) : Int), true) else (0, false)) := by
 unfold oakumref04_Below.f
 rw [only_f s hs k (by omega), Option.bind_some]
 obtain ⟨k, rfl⟩ : ∃ m, k = m + 1 := ⟨k - 1, by omega⟩
 unfold natOK
 cases hl : s.data.toList with
 | nil =>
  simp [digL, oakumref04_Below.j0]
 | cons c t =>
  have hp : Pos s 0 (c :: t) := ⟨by rw [List.drop_zero]; exact hl, Nat.zero_le _⟩
  have hlen := hp.len
  have hb := head_of hl
  by_cases hd : digL (c :: t) = true
  ·rw [hd]
   simp only [Bool.true_and, List.isEmpty_cons, Bool.not_false, if_true]
   rw [if_pos (by simp at hlen; omega), hb]
   by_cases c0 : c = 48
   ·subst c0
    rw [if_pos (by decide)]
    simp only [List.head?_cons, beq_self_eq_true, Bool.true_and]
    by_cases ht : 1 < (48 :: t : List UInt8).length
    ·rw [decide_eq_true (show (s.size : Int) > 1 by simp at hlen ht; omega), decide_eq_true ht]
     simp [oakumref04_Below.j0]
    ·rw [decide_eq_false (show ¬ (s.size : Int) > 1 by simp only [List.length_cons] at hlen ht ⊢; omega), decide_eq_false ht]
     simp only [oakumref04_Below.j0]
     have := below_l0 s hs _ rfl _ k 0 0 hp (by simp only [List.length_cons] at hlen ⊢; omega) hd (Nat.zero_le _)
     rw [show (-((0 : Nat) : Int)) = 0 from rfl, show ((0 : Nat) : Int) = 0 from rfl] at this
     simp only [Bool.false_eq_true, if_false, this]
     simp
   ·have hc0 : ¬ (c.toNat : Int) = 48 := by
     intro h
     apply c0
     have : c.toNat = (48 : UInt8).toNat := by
      rw [show (48 : UInt8).toNat = 48 from rfl]; omega
     exact UInt8.toNat_inj.1 this
    rw [if_neg hc0]
    simp only [oakumref04_Below.j0]
    have := below_l0 s hs _ rfl _ k 0 0 hp (by simp only [List.length_cons] at hlen ⊢; omega) hd (Nat.zero_le _)
    rw [show (-((0 : Nat) : Int)) = 0 from rfl, show ((0 : Nat) : Int) = 0 from rfl] at this
    simp only [Bool.false_eq_true, if_false, this]
    simp [c0]
  ·rw [Bool.not_eq_true] at hd
   rw [hd]
   simp [oakumref04_Below.j0]
def numOK (l : List UInt8) : Bool := natOK l && decide (valF 0 l < 9223372036854775808)
theorem number_prog (s : ByteArray) (hs : s.size ≤ 1099511627776) : ∃ v c, dec_Number.f s = some (v, c) ∧ (c == 0) = numOK s.data.toList := by
 unfold dec_Number.f dec_natural.f numOK
 rw [if_pos (by omega), Option.bind_some]
 obtain ⟨e1, e2⟩ := natL_is s.data.toList
 rw [e1]
 cases h : natOK s.data.toList with
 | false => exact ⟨0, 15, by simp, by simp⟩
 | true =>
  rw [e2 h]
  simp only [if_true]
  by_cases h2 : valF 0 s.data.toList < 9223372036854775808
  ·rw [if_neg (by omega), decide_eq_true h2]
   exact ⟨_, _, rfl, by simp⟩
  ·rw [if_pos (by
    have hv : valF 0 s.data.toList ≤ 9223372036854775808 := by
     unfold natOK at h
     simp only [Bool.and_eq_true, decide_eq_true_eq] at h
     exact h.2
    omega), decide_eq_false h2]
   exact ⟨_, _, rfl, by simp⟩
end Go.Proofs.YtddhkfdfhbpblaaGreatDoor.P
namespace Go.Proofs.YtddhkfdfhbpblaaGreatDoor.P
open Go.RowKit Go.Proofs.YtddhkfdfhbpblaaGreatDoorW.PrintWords Go.Proofs.YtddhkfdfhbpblaaGreatDoorW.PrintLast Go.Proofs.YtddhkfdfhbpblaaGreatDoorW.PrintMore
def dotAt : List UInt8 → Nat
 | [] => 0
 | c :: t => if c = 46 then 0 else dotAt t + 1
theorem dotAt_le : ∀ l : List UInt8, dotAt l ≤ l.length
 | [] => Nat.le_refl _
 | c :: t => by
  have := dotAt_le t
  unfold dotAt
  split
  ·exact Nat.zero_le _
  ·simp; omega
theorem index_dot : ∀ l : List UInt8, Lib.index l [46] = if dotAt l < l.length then ((dotAt l : Nat) : Int) else -1
 | [] => by simp [Lib.index, dotAt]
 | c :: t => by
  have ih := index_dot t
  unfold Lib.index dotAt
  by_cases hc : c = 46
  ·subst hc
   simp
  ·have : ([46] : List UInt8).isPrefixOf (c :: t) = false := by
    simp [List.isPrefixOf]
    exact fun h => hc h.symm
   rw [this]
   simp only [Bool.false_eq_true, if_false, hc, ih]
   by_cases h : dotAt t < t.length
   ·rw [if_pos h]
    have : ¬ ((dotAt t : Nat) : Int) = -1 := by omega
    simp [this, h]
   ·rw [if_neg h]
    simp [h]
theorem cut_dot (l : List UInt8) : Lib.cut l [46] = if dotAt l < l.length then (l.take (dotAt l), l.drop (dotAt l + 1), true) else (l, [], false) := by
 unfold Lib.cut
 rw [index_dot]
 by_cases h : dotAt l < l.length
 ·rw [if_pos h, if_pos h, if_pos (by omega)]
  rfl
 ·rw [if_neg h, if_neg h, if_neg (by decide)]
def nano9 (more : List UInt8) : List UInt8 := more ++ List.replicate (9 - more.length) 48
def tailOK (minus : Bool) (v n : Nat) : Bool := if minus then decide (v < 9223372036854775808) || decide (n = 0) else decide (v < 9223372036854775808)
def timeB (minus : Bool) (b : List UInt8) : Bool :=
 if dotAt b < b.length then
  ((digL (b.drop (dotAt b + 1)) && !(b.drop (dotAt b + 1)).isEmpty) && decide ((b.drop (dotAt b + 1)).length ≤ 9)) && (natOK (b.take (dotAt b)) && tailOK minus (valF 0 (b.take (dotAt b))) (valF 0 (nano9 (b.drop (dotAt b + 1)))))
 else natOK b && tailOK minus (valF 0 b) 0
def timeOK : List UInt8 → Bool
 | [] => timeB false []
 | c :: t => if c = 45 then timeB true t else timeB false (c :: t)
theorem timeOK_hit (t : List UInt8) : timeOK (45 :: t) = timeB true t := by simp [timeOK]
theorem timeOK_miss {c : UInt8} (t : List UInt8) (h : ¬ c = 45) : timeOK (c :: t) = timeB false (c :: t) := by simp [timeOK, h]
theorem dot_hit (t : List UInt8) : dotAt (46 :: t) = 0 := if_pos rfl
theorem dot_miss {c : UInt8} (t : List UInt8) (h : ¬ c = 46) : dotAt (c :: t) = dotAt t + 1 := if_neg h
theorem valF_app : ∀ (u : List UInt8) (a : Nat) (c : UInt8), valF a (u ++ [c]) = 10 * valF a u + (c.toNat - 48)
 | [], a, c => by rw [List.nil_append, valF_cons, valF_nil, valF_nil]
 | d :: u, a, c => by rw [List.cons_append, valF_cons, valF_cons, valF_app u]
theorem valF_lt : ∀ (u : List UInt8) (a B : Nat), digL u = true → a < B → valF a u < B * 10 ^ u.length
 | [], a, B, _, h => by rw [valF_nil]; simpa using h
 | d :: u, a, B, hd, h => by
  obtain ⟨h1, h2, h3⟩ := digL_cons hd
  have := valF_lt u (10 * a + (d.toNat - 48)) (10 * B) h3 (by omega)
  rw [valF_cons, List.length_cons, Nat.pow_succ, Nat.mul_comm (10 ^ u.length) 10, ← Nat.mul_assoc, Nat.mul_comm B 10]
  exact this
theorem nano9_len (more : List UInt8) (h : more.length ≤ 9) : (nano9 more).length = 9 := by simp [nano9]; omega
theorem digL_app (u v : List UInt8) : digL (u ++ v) = (digL u && digL v) := by simp [digL]
theorem digL_rep (n : Nat) : digL (List.replicate n 48) = true := by
 unfold digL
 rw [List.all_eq_true]
 intro c hc
 rw [List.eq_of_mem_replicate hc]
 rfl
theorem digL_take {u : List UInt8} (h : digL u = true) (n : Nat) : digL (u.take n) = true := by
 have := digL_app (u.take n) (u.drop n)
 rw [List.take_append_drop, h] at this
 simp at this
 exact this.1
theorem valF_nine {u : List UInt8} (hd : digL u = true) (hl : u.length ≤ 9) : valF 0 u < 1000000000 := by
 have h := valF_lt u 0 1 hd (by omega)
 have : (10 : Nat) ^ u.length ≤ 10 ^ 9 := Nat.pow_le_pow_right (by omega) hl
 omega
theorem nine_run (s : ByteArray) (x4 : Bool) (x7 : Int) (x8 : Bool) (hd : digL s.data.toList = true) (hl : s.size ≤ 9) (z : List UInt8) (hz : nano9 s.data.toList = z) :
  ∀ (j i k : Nat), i + j = 9 → oakumref04_Time.l1 (k + j + 1) x4 x7 x8 ((valF 0 (z.take i) : Nat) : Int) s (i : Int) = oakumref04_Time.j5 k x4 x7 x8 ((valF 0 z : Nat) : Int) := by
 have hzl : z.length = 9 := by rw [← hz]; exact nano9_len _ (by rw [data_length]; exact hl)
 have hzd : digL z = true := by rw [← hz]; unfold nano9; rw [digL_app, hd, digL_rep]; rfl
 intro j
 induction j with
 | zero =>
  intro i k hi
  simp only [oakumref04_Time.l1]
  rw [if_neg (by omega), List.take_of_length_le (by omega)]
 | succ j ih =>
  intro i k hi
  have hb : valF 0 (z.take i) < 1000000000 := valF_nine (digL_take hzd i) (by rw [List.length_take]; omega)
  have hiz : i < z.length := by omega
  have hc : z.take i ++ [z[i]] = z.take (i + 1) := by simp
  have hstep := valF_app (z.take i) 0 z[i]
  rw [hc] at hstep
  have hdz : 48 ≤ (z[i]).toNat ∧ (z[i]).toNat ≤ 57 := by
   have := List.all_eq_true.1 (show z.all _ = true from hzd) z[i] (List.getElem_mem hiz)
   simpa using this
  have ih' := ih (i + 1) k (by omega)
  rw [show k + (j + 1) + 1 = (k + j + 1) + 1 by omega]
  simp only [oakumref04_Time.l1]
  rw [if_pos (by omega)]
  have hw : wrap64 ((i : Int) + 1) = ((i + 1 : Nat) : Int) := by rw [show (i : Int) + 1 = ((i + 1 : Nat) : Int) by omega, w64n _ (by omega)]
  by_cases his : i < s.size
  ·have hp : Pos s i (s.data.toList.drop i) := ⟨rfl, by omega⟩
   have hil : i < s.data.toList.length := by rw [data_length]; exact his
   rw [List.drop_eq_getElem_cons hil] at hp
   have hbt := hp.bt
   have hzi : z[i] = s.data.toList[i] := by
    have : z[i]? = s.data.toList[i]? := by rw [← hz]; unfold nano9; rw [List.getElem?_append_left hil]
    rw [List.getElem?_eq_getElem hiz, List.getElem?_eq_getElem hil] at this
    exact Option.some.inj this
   rw [if_pos (by omega), if_pos (by omega), hbt, hw, ← hzi]
   have e : wrap64 (wrap64 (wrap64 (10 * ((valF 0 (z.take i) : Nat) : Int)) + wrap64 ((z[i].toNat : Nat) : Int)) - 48) = ((valF 0 (z.take (i + 1)) : Nat) : Int) := by
    rw [hstep]
    clear hbt hw hc ih ih' hp hzi hstep
    generalize valF 0 (z.take i) = v at hb ⊢
    generalize (z[i]).toNat = d at hdz ⊢
    rw [w64 (10 * (v : Int)) (by omega) (by omega), w64 (d : Int) (by omega) (by omega), w64 (10 * (v : Int) + d) (by omega) (by omega), w64 _ (by omega) (by omega)]
    omega
   rw [e]
   exact ih'
  ·rw [if_neg (by omega), hw]
   have hzi : (z[i]).toNat = 48 := by
    have : z[i]? = some 48 := by
     rw [← hz]; unfold nano9
     rw [List.getElem?_append_right (by rw [data_length]; omega), List.getElem?_replicate, if_pos (by rw [data_length]; omega)]
    rw [List.getElem?_eq_getElem hiz] at this
    rw [Option.some.inj this]; rfl
   have e : wrap64 (10 * ((valF 0 (z.take i) : Nat) : Int)) = ((valF 0 (z.take (i + 1)) : Nat) : Int) := by
    rw [hstep, hzi, w64 _ (by omega) (by omega)]
    omega
   rw [e]
   exact ih'
theorem dot_run (s : ByteArray) (hs : s.size ≤ 2097152) (x4 : Bool) : ∀ (n K : Nat), n ≤ s.size →
  oakumref04_Time.l0 (K + n) s x4 ((n + dotAt (s.data.toList.drop n) : Nat) : Int) ((n : Int) - 1) = oakumref04_Time.l0 K s x4 ((dotAt s.data.toList : Nat) : Int) (-1)
 | 0, K, _ => by simp
 | n + 1, K, h => by
  have ih := dot_run s hs x4 n K (by omega)
  have hp : Pos s n (s.data.toList.drop n) := ⟨rfl, by omega⟩
  have hil : n < s.data.toList.length := by rw [data_length]; omega
  have hd := List.drop_eq_getElem_cons hil
  rw [hd] at hp ih
  have hbt := hp.bt
  rw [show K + (n + 1) = (K + n) + 1 by omega]
  simp only [oakumref04_Time.l0]
  rw [show ((n + 1 : Nat) : Int) - 1 = (n : Int) by omega, if_pos (by omega), if_pos (by omega), if_pos (by omega), hbt, w64 ((n : Int) - 1) (by omega) (by omega)]
  clear hbt hp
  by_cases hc : s.data.toList[n] = 46
  ·rw [if_pos (by rw [hc]; rfl)]
   rw [hc, dot_hit, Nat.add_zero] at ih
   exact ih
  ·rw [if_neg (by
    intro h
    apply hc
    apply UInt8.toNat_inj.1
    rw [show (46 : UInt8).toNat = 46 from rfl]
    omega)]
   rw [dot_miss _ hc] at ih
   rw [show n + 1 + dotAt (s.data.toList.drop (n + 1)) = n + (dotAt (s.data.toList.drop (n + 1)) + 1) by omega]
   exact ih
end Go.Proofs.YtddhkfdfhbpblaaGreatDoor.P
namespace Go.Proofs.YtddhkfdfhbpblaaGreatDoor.P
open Go.RowKit Go.Proofs.YtddhkfdfhbpblaaGreatDoorW.PrintWords Go.Proofs.YtddhkfdfhbpblaaGreatDoorW.PrintLast Go.Proofs.YtddhkfdfhbpblaaGreatDoorW.PrintMore
theorem prog_end (k : Nat) (m : Bool) (v n : Nat) (hv : v ≤ 9223372036854775808) : ∃ a b c, dec_Time.j1 (k + 2) m (v : Int) (n : Int) = some (a, b, c) ∧ (c == 0) = tailOK m v n := by
 simp only [dec_Time.j1, dec_Time.j2]
 unfold tailOK
 cases m with
 | false =>
  simp only [Bool.false_eq_true, if_false]
  by_cases h : v < 9223372036854775808
  ·rw [decide_eq_false (show ¬ (v : Int) / 9223372036854775808 > 0 by omega), decide_eq_true h]
   exact ⟨_, _, _, rfl, rfl⟩
  ·rw [decide_eq_true (show (v : Int) / 9223372036854775808 > 0 by omega), decide_eq_false h]
   exact ⟨_, _, _, rfl, rfl⟩
 | true =>
  simp only [if_true, Bool.false_eq_true, if_false]
  by_cases hn : n = 0
  ·subst hn
   rw [if_pos (show ((0 : Nat) : Int) = 0 from rfl), decide_eq_true (rfl : (0 : Nat) = 0), Bool.or_true]
   exact ⟨_, _, _, rfl, rfl⟩
  ·rw [if_neg (show ¬ (n : Int) = 0 by omega), decide_eq_false hn, Bool.or_false]
   by_cases h : v < 9223372036854775808
   ·rw [if_neg (show ¬ (v : Int) / 9223372036854775808 > 0 by omega), decide_eq_true h]
    exact ⟨_, _, _, rfl, rfl⟩
   ·rw [if_pos (show (v : Int) / 9223372036854775808 > 0 by omega), decide_eq_false h]
    exact ⟨_, _, _, rfl, rfl⟩
theorem rep_one : ∀ n : Nat, Lib.repeatL [48] n = List.replicate n 48
 | 0 => rfl
 | n + 1 => by
  show [48] ++ Lib.repeatL [48] n = _
  rw [rep_one n, List.replicate_succ]
  rfl
theorem parse_nine (l : List UInt8) (hd : digL l = true) (hl : l.length = 9) : Lib.parseIntB 64 l = .ok ((valF 0 l : Nat) : Int) := by
 have hv := valF_nine hd (Nat.le_of_eq hl)
 cases l with
 | nil => cases hl
 | cons c t =>
  obtain ⟨h1, h2, h3⟩ := digL_cons hd
  rw [Lib.parseIntB_plain 64 c t (by omega) (by omega)]
  have hp : Lib.parseUintB 64 (c :: t) = .ok (valF 0 (c :: t)) := by
   unfold Lib.parseUintB
   rw [if_neg (by simp)]
   have := parse_val _ rfl (c :: t) 0 hd (Nat.zero_le _)
   rw [if_pos (by omega)] at this
   exact this
  rw [hp]
  unfold Lib.signlessC
  simp only
  rw [if_neg (by
   have : (2 : Nat) ^ (64 - 1) = 9223372036854775808 := by decide
   omega)]
theorem digits_any (s : ByteArray) (hs : s.size ≤ 2097152) (k : Nat) (hk : s.size < k) : dec_digits.f k s = some (digL s.data.toList && !s.data.toList.isEmpty) :=
 digits_l0 s (by omega) k 0 _ (Pos.zero s) (by rw [data_length]; exact hk)
def progBody (k : Nat) (m : Bool) (b : ByteArray) : Option (Int × Int × Int) :=
 (strings_Cut.f b (⟨#[46]⟩ : ByteArray)).bind fun bt128 => ((dec_natural.f bt128.1).bind fun bt131 => (if bt131.2 = true then (if bt128.2.2 = true then ((dec_digits.f k bt128.2.1).bind fun t133 => (if t133 = true then (dec_Time.j0 k m bt128.2.1 bt128.2.2 bt131.1 (decide ((bt128.2.1.size : Int) > 9))) else (dec_Time.j0 k m bt128.2.1 bt128.2.2 bt131.1 true))) else (dec_Time.j0 k m bt128.2.1 bt128.2.2 bt131.1 false)) else (dec_Time.j0 k m bt128.2.1 bt128.2.2 bt131.1 true)))
theorem prog_body (b : ByteArray) (hs : b.size ≤ 2097152) (m : Bool) (k : Nat) (hk : b.size + 10 ≤ k) : ∃ v n c, progBody k m b = some (v, n, c) ∧ (c == 0) = timeB m b.data.toList := by
 have hbad : ∀ x5 x6 x7, ∃ v n c, dec_Time.j0 k m x5 x6 x7 true = some (v, n, c) ∧ (c == 0) = false := by
  intro x5 x6 x7
  obtain ⟨k, rfl⟩ : ∃ j, k = j + 1 := ⟨k - 1, by omega⟩
  exact ⟨0, 0, 15, by simp [dec_Time.j0], rfl⟩
 unfold progBody strings_Cut.f timeB
 rw [if_pos (by omega), Option.bind_some, show (⟨#[46]⟩ : ByteArray).data.toList = [46] from rfl, cut_dot, data_length]
 by_cases hlt : dotAt b.data.toList < b.size
 ·rw [if_pos hlt, if_pos hlt]
  simp only
  have hx : (tx (b.data.toList.take (dotAt b.data.toList))).size ≤ b.size := by rw [tx_size, List.length_take, data_length]; omega
  have hm : (tx (b.data.toList.drop (dotAt b.data.toList + 1))).size ≤ b.size := by rw [tx_size, List.length_drop, data_length]; omega
  unfold dec_natural.f
  rw [if_pos (by omega), Option.bind_some, tx_data]
  obtain ⟨n1, n2⟩ := natL_is (b.data.toList.take (dotAt b.data.toList))
  rw [n1]
  rw [digits_any _ (by omega) k (by omega), tx_data]
  generalize hX : b.data.toList.take (dotAt b.data.toList) = X at n1 n2 ⊢
  generalize hM : b.data.toList.drop (dotAt b.data.toList + 1) = M at hm ⊢
  cases hok : natOK X with
  | false =>
   simp only [Bool.false_eq_true, if_false, Bool.false_and, Bool.and_false]
   exact hbad _ _ _
  | true =>
   simp only [if_true, Bool.true_and, Option.bind_some]
   rw [n2 hok]
   cases ho : (digL M && !M.isEmpty) with
   | false =>
    simp only [Bool.false_eq_true, if_false, Bool.false_and]
    exact hbad _ _ _
   | true =>
    simp only [if_true, Bool.true_and]
    rw [tx_size]
    by_cases h9 : M.length ≤ 9
    ·rw [decide_eq_false (show ¬ (M.length : Int) > 9 by omega), decide_eq_true h9, Bool.true_and]
     obtain ⟨k, rfl⟩ : ∃ j, k = j + 2 + 1 := ⟨k - 3, by omega⟩
     have hd : digL M = true := by rw [Bool.and_eq_true] at ho; exact ho.1
     simp only [dec_Time.j0, Bool.false_eq_true, if_false, if_true]
     rw [tx_size, w64 _ (by omega) (by omega)]
     have hr : strings_Repeat.f (⟨#[48]⟩ : ByteArray) (9 - (M.length : Int)) = some (tx (List.replicate (9 - M.length) 48)) := by
      unfold strings_Repeat.f
      rw [if_pos ⟨by omega, by omega, by rw [show (⟨#[48]⟩ : ByteArray).size = 1 from rfl]; omega⟩, show (⟨#[48]⟩ : ByteArray).data.toList = [48] from rfl, rep_one, show (9 - (M.length : Int)).toNat = 9 - M.length by omega]
     rw [hr, Option.bind_some, tx_size, List.length_replicate, if_pos (by omega), tx_app]
     have hp : strconv_ParseInt.f (tx (M ++ List.replicate (9 - M.length) 48)) 10 64 = some (((valF 0 (nano9 M) : Nat) : Int), none) := by
      unfold strconv_ParseInt.f
      have hl9 : (M ++ List.replicate (9 - M.length) 48).length = 9 := nano9_len M h9
      rw [if_pos ⟨rfl, rfl, by rw [tx_size, hl9]; decide⟩, tx_data, parse_nine _ (by rw [digL_app, hd, digL_rep]; rfl) hl9]
      rfl
     rw [hp, Option.bind_some]
     have hv : valF 0 X ≤ 9223372036854775808 := by
      unfold natOK at hok
      simp only [Bool.and_eq_true, decide_eq_true_eq] at hok
      exact hok.2
     exact prog_end k m _ _ hv
    ·rw [decide_eq_true (show (M.length : Int) > 9 by omega), decide_eq_false h9, Bool.false_and]
     exact hbad _ _ _
 ·rw [if_neg hlt, if_neg hlt]
  simp only
  unfold dec_natural.f
  rw [if_pos (by rw [tx_size, data_length]; omega), Option.bind_some, tx_data]
  obtain ⟨n1, n2⟩ := natL_is b.data.toList
  rw [n1]
  cases hok : natOK b.data.toList with
  | false =>
   simp only [Bool.false_eq_true, if_false, Bool.false_and]
   exact hbad _ _ _
  | true =>
   simp only [if_true, Bool.true_and, Bool.false_eq_true, if_false]
   rw [n2 hok]
   obtain ⟨k, rfl⟩ : ∃ j, k = j + 2 + 1 := ⟨k - 3, by omega⟩
   simp only [dec_Time.j0, Bool.false_eq_true, if_false]
   have hv : valF 0 b.data.toList ≤ 9223372036854775808 := by
    unfold natOK at hok
    simp only [Bool.and_eq_true, decide_eq_true_eq] at hok
    exact hok.2
   exact prog_end k m _ 0 hv
theorem cut_minus (s : ByteArray) (hs : s.size ≤ 2097152) : strings_CutPrefix.f s (⟨#[45]⟩ : ByteArray) = some (if s.data.toList.head? = some 45 then (s.extract 1 s.size, true) else (s, false)) := by
 unfold strings_CutPrefix.f stringslite_CutPrefix.f stringslite_HasPrefix.f
 rw [show ((⟨#[45]⟩ : ByteArray).size : Int) = 1 from rfl, show (⟨#[45]⟩ : ByteArray).toList = [45] by rw [Lib.toList_data]]
 cases hl : s.data.toList with
 | nil =>
  have h0 : s.size = 0 := by rw [← data_length, hl]; rfl
  rw [if_neg (by omega)]
  simp
 | cons c t =>
  have hlen : s.size = t.length + 1 := by rw [← data_length, hl]; rfl
  rw [if_pos (by omega), if_pos (by omega), if_pos (by omega), Option.bind_some]
  rw [show (1 : Int).toNat = 1 from rfl, Lib.toList_data, ext_list, hl, List.drop_zero]
  rw [show (c :: t).take 1 = [c] from rfl]
  by_cases hc : c = 45
  ·subst hc
   simp [show (1 : Int) ≤ (s.size : Int) by omega]
  ·simp [hc]
theorem time_prog (s : ByteArray) (hs : s.size ≤ 2097152) (k : Nat) (hk : s.size + 10 ≤ k) : ∃ v n c, dec_Time.f k s = some (v, n, c) ∧ (c == 0) = timeOK s.data.toList := by
 unfold dec_Time.f
 rw [cut_minus s hs, Option.bind_some]
 cases hl : s.data.toList with
 | nil =>
  rw [if_neg (by simp)]
  have := prog_body s hs false k hk
  rw [hl] at this
  exact this
 | cons c t =>
  by_cases hc : c = 45
  ·subst hc
   rw [if_pos (by simp), timeOK_hit]
   have ht : (s.extract 1 s.size).data.toList = t := by rw [ext_list, ← data_length, List.take_length, hl]; rfl
   have hlen : s.size = t.length + 1 := by rw [← data_length, hl]; rfl
   have hts : (s.extract 1 s.size).size ≤ s.size := by rw [← data_length, ht]; omega
   have := prog_body (s.extract 1 s.size) (by omega) true k (by omega)
   rw [ht] at this
   exact this
  ·rw [if_neg (by simp [hc]), timeOK_miss _ hc, ← hl]
   exact prog_body s hs false k hk
end Go.Proofs.YtddhkfdfhbpblaaGreatDoor.P
namespace Go.Proofs.YtddhkfdfhbpblaaGreatDoor.P
open Go.RowKit Go.Proofs.YtddhkfdfhbpblaaGreatDoorW.PrintWords Go.Proofs.YtddhkfdfhbpblaaGreatDoorW.PrintLast Go.Proofs.YtddhkfdfhbpblaaGreatDoorW.PrintMore
attribute [local go_sem] max2_int min2_int max_two min_two max_three min_three max_four min_four   -- for this text's walks alone
set_option linter.unusedVariables false
set_option linter.unusedSimpArgs false
def utf_Right.f (a0 : ByteArray) : Option (Bool) := (utf_First.f a0).bind fun t103 => (some (decide (t103 < 0)))
set_option maxHeartbeats 8000000 in
set_option maxRecDepth 100000 in
theorem utf_Right.calls (a0 : ByteArray) (r : Bool) (w : World) (hG : Glob w) (h : utf_Right.f a0 = some r) :
  Calls Tryz.prog 145 #[.string a0] w fun e w' => e = .returned (.bool r) ∧ Below w.heap.size w w' := by
 have HG := Aside0.mk hG; clear hG
 have HB := Aside0.mk (Below.refl w.heap.size w)
 have H : ((utf_First.f a0).bind fun t103 => (some (decide (t103 < 0)))) = some r := h
 clear h
 obtain ⟨t103, A20, H⟩ := Zk H
 have A2 := Aside0.mk A20
 clear A20
 obtain rfl := Option.some.inj H
 go_enter Tryz.func145, Tryz.ntmps145
 go_wp2_with (first | ((with_reducible refine gate_callee (f := 163) rfl ?_); refine ZL 4 Tryz.func163 #[.string a0] ?_; (with_reducible refine (utf_First.calls a0 t103 _ ?side1 A2.out).mono ?_); (case side1 => exact ZG HG HB); rintro e w3 ⟨rfl, hb⟩; refine ⟨_, rfl, ?_⟩; replace HB := Zs HB hb; try clear hb))
 go_ret
 exact ⟨Ze, Zh HB⟩
end Go.Proofs.YtddhkfdfhbpblaaGreatDoor.P
namespace Go.Proofs.YtddhkfdfhbpblaaGreatDoor.P
open Go.RowKit Go.Proofs.YtddhkfdfhbpblaaGreatDoorW.PrintWords Go.Proofs.YtddhkfdfhbpblaaGreatDoorW.PrintLast Go.Proofs.YtddhkfdfhbpblaaGreatDoorW.PrintMore
attribute [local go_sem] max2_int min2_int max_two min_two max_three min_three max_four min_four   -- for this text's walks alone
set_option linter.unusedVariables false
set_option linter.unusedSimpArgs false
mutual
def oakumref05_size.j2 : Nat → ByteArray → Int → Int → Int → Option (Int)
 | 0, _, _, _, _ => none
 | k + 1, x0, x1, x5, x6 => if x6 = 0 then (oakumref05_size.j3 k x0 x1 x5 x6 true) else (oakumref05_size.j3 k x0 x1 x5 x6 (decide ((wrap64 (x1 + x6)) > (x0.size : Int))))
def oakumref05_size.j3 : Nat → ByteArray → Int → Int → Int → Bool → Option (Int)
 | 0, _, _, _, _, _ => none
 | k + 1, x0, x1, x5, x6, x47 => if x47 = true then (some 0) else ((some (([0, 0, 192, 224, 240] : List Int) : List Int)).bind fun y309 => (if 0 ≤ x6 then (if x6 < (y309.length : Int) then (oakumref05_size.l0 k x0 x1 x6 (wrap64 (x5 - (rd y309 x6))) 1) else (none)) else (none)))
def oakumref05_size.l0 : Nat → ByteArray → Int → Int → Int → Int → Option (Int)
 | 0, _, _, _, _, _ => none
 | k + 1, x0, x1, x6, x7, x8 => if x8 < x6 then (if 0 ≤ (wrap64 (x1 + x8)) then (if (wrap64 (x1 + x8)) < (x0.size : Int) then (if (bt x0 (wrap64 (x1 + x8))) < 128 then (some 0) else (if (bt x0 (wrap64 (x1 + x8))) ≥ 192 then (some 0) else (oakumref05_size.l0 k x0 x1 x6 (wrap64 ((wrap64 ((wrap64 (64 * x7)) + (wrap64 (bt x0 (wrap64 (x1 + x8)))))) - 128)) (wrap64 (x8 + 1))))) else (none)) else (none)) else ((some (([0, 0, 128, 2048, 65536] : List Int) : List Int)).bind fun y313 => (if 0 ≤ x6 then (if x6 < (y313.length : Int) then (if x7 < (rd y313 x6) then (some 0) else (if x7 > 1114111 then (some 0) else (if x7 ≥ 55296 then (if x7 ≤ 57343 then (some 0) else (some x6)) else (some x6)))) else (none)) else (none)))
def oakumref05_size.j0 : Nat → ByteArray → Int → Int → Int → Bool → Option (Int)
 | 0, _, _, _, _, _ => none
 | k + 1, x0, x1, x5, x6, x17 => if x17 = true then (oakumref05_size.j2 k x0 x1 x5 2) else (if x5 ≥ 224 then (oakumref05_size.j1 k x0 x1 x5 x6 (decide (x5 < 240))) else (oakumref05_size.j1 k x0 x1 x5 x6 false))
def oakumref05_size.j1 : Nat → ByteArray → Int → Int → Int → Bool → Option (Int)
 | 0, _, _, _, _, _ => none
 | k + 1, x0, x1, x5, x6, x24 => if x24 = true then (oakumref05_size.j2 k x0 x1 x5 3) else (if x5 ≥ 240 then (if x5 < 248 then (oakumref05_size.j2 k x0 x1 x5 4) else (oakumref05_size.j2 k x0 x1 x5 x6)) else (oakumref05_size.j2 k x0 x1 x5 x6))
end
def oakumref05_size.f (k : Nat) (a0 : ByteArray) (a1 : Int) : Option (Int) := if 0 ≤ a1 then (if a1 < (a0.size : Int) then (if (wrap64 (bt a0 a1)) < 128 then (some 1) else (if (wrap64 (bt a0 a1)) ≥ 192 then (oakumref05_size.j0 k a0 a1 (wrap64 (bt a0 a1)) 0 (decide ((wrap64 (bt a0 a1)) < 224))) else (oakumref05_size.j0 k a0 a1 (wrap64 (bt a0 a1)) 0 false))) else (none)) else (none)
end Go.Proofs.YtddhkfdfhbpblaaGreatDoor.P
namespace Go.Proofs.YtddhkfdfhbpblaaGreatDoor.P
open Go.RowKit Go.Proofs.YtddhkfdfhbpblaaGreatDoorW.PrintWords Go.Proofs.YtddhkfdfhbpblaaGreatDoorW.PrintLast Go.Proofs.YtddhkfdfhbpblaaGreatDoorW.PrintMore
attribute [local go_sem] max2_int min2_int max_two min_two max_three min_three max_four min_four   -- for this text's walks alone
set_option linter.unusedVariables false
set_option linter.unusedSimpArgs false
def oakumref05_Ends.l0 : Nat → ByteArray → List Int → Int → Option (List Int)
 | 0, _, _, _ => none
 | k + 1, x0, x3, x4 => if x4 < (x0.size : Int) then ((oakumref05_size.f k x0 x4).bind fun t317 => (if t317 = 0 then (if x3.length < 17592186044416 then (oakumref05_Ends.l0 k x0 (x3 ++ [wrap64 (-(wrap64 (x4 + 1)))]) (wrap64 (x4 + 1))) else (none)) else (if x3.length < 17592186044416 then (oakumref05_Ends.l0 k x0 (x3 ++ [wrap64 (x4 + t317)]) (wrap64 (x4 + t317))) else (none)))) else (some x3)
def oakumref05_Ends.f (k : Nat) (a0 : ByteArray) : Option (List Int) := oakumref05_Ends.l0 k a0 ([] : List Int) 0
end Go.Proofs.YtddhkfdfhbpblaaGreatDoor.P
namespace Go.Proofs.YtddhkfdfhbpblaaGreatDoor.P
open Go.RowKit Go.Proofs.YtddhkfdfhbpblaaGreatDoorW.PrintWords Go.Proofs.YtddhkfdfhbpblaaGreatDoorW.PrintLast Go.Proofs.YtddhkfdfhbpblaaGreatDoorW.PrintMore
attribute [local go_sem] max2_int min2_int max_two min_two max_three min_three max_four min_four   -- for this text's walks alone
set_option linter.unusedVariables false
set_option linter.unusedSimpArgs false
def oakumref05_First.l0 : Nat → List Int → Int → Option (Int)
 | 0, _, _ => none
 | k + 1, x3, x4 => if x4 < (x3.length : Int) then (if 0 ≤ x4 then (if (rd x3 x4) < 0 then (some (wrap64 ((wrap64 (-(rd x3 x4))) - 1))) else (oakumref05_First.l0 k x3 (wrap64 (x4 + 1)))) else (none)) else (some (-1))
def oakumref05_First.f (k : Nat) (a0 : ByteArray) : Option (Int) := (oakumref05_Ends.f k a0).bind fun t324 => (oakumref05_First.l0 k t324 0)
end Go.Proofs.YtddhkfdfhbpblaaGreatDoor.P
namespace Go.Proofs.YtddhkfdfhbpblaaGreatDoor.P
open Go.RowKit Go.Proofs.YtddhkfdfhbpblaaGreatDoorW.PrintWords Go.Proofs.YtddhkfdfhbpblaaGreatDoorW.PrintLast Go.Proofs.YtddhkfdfhbpblaaGreatDoorW.PrintMore
def okU (l : List UInt8) : Bool := decide (badAt (l.length + 1) l 0 < 0)
theorem right_prog (s : ByteArray) (hs : s.size ≤ 2097152) : utf_Right.f s = some (okU s.data.toList) := by
 unfold utf_Right.f utf_First.f okU
 rw [if_pos (by omega), Option.bind_some, data_length]
end Go.Proofs.YtddhkfdfhbpblaaGreatDoor.P
namespace Go.Proofs.YtddhkfdfhbpblaaGreatDoor.P
open Go.RowKit Go.Proofs.YtddhkfdfhbpblaaGreatDoorW.PrintWords Go.Proofs.YtddhkfdfhbpblaaGreatDoorW.PrintLast Go.Proofs.YtddhkfdfhbpblaaGreatDoorW.PrintMore
def eqNul : ByteArray := ⟨#[61, 0]⟩
theorem dec0 : Utf8.decode eqNul 0 = (61, 1) := by decide +kernel
theorem dec1 : Utf8.decode eqNul 1 = (0, 1) := by decide +kernel
theorem iterAt_below' {w wr : World} (h : Below w.heap.size w wr) (s : ByteArray) (p : Nat) : Below w.heap.size w (wr.iterAt w.heap.size s p) := Lib.below_iterAt h (Nat.le_refl _) s p
set_option maxRecDepth 100000 in
set_option maxHeartbeats 1600000 in
theorem rune_err (w : World) :
  Calls Tryz.prog 181 #[.string eqNul, .int .i32 65533] w fun e w' => e = .returned (.int .i64 (-1)) ∧ Below w.heap.size w w' := by
 go_enter Tryz.func181, Tryz.ntmps181
 go_wp2_with fail
 go_loopg [] 2 (fun gk wr => ∃ n : Nat, Aside0 (n + gk = 2) ∧ Aside0 (wr.heap[w.heap.size]? = some (.stringIter eqNul n)) ∧ Aside0 (Below w.heap.size w wr))
 case atStart => exact ⟨0, ⟨rfl⟩, ⟨World.iter_heap w eqNul 0⟩, ⟨below_alloc (Below.refl _ _) _⟩⟩
 case round =>
  obtain ⟨n, HN, HI, HB⟩ := hrel
  have hn := HN.out
  have h3 : n = 0 ∨ n = 1 ∨ n = 2 := by omega
  rcases h3 with rfl | rfl | rfl
  ·obtain rfl : gk = 2 := by omega
   have hnx : ∀ ty, (Instr.next (.pointer (some ⟨w.heap.size, 0, none⟩)) true ty).run Tryz.prog wr = .ok (.tuple #[.bool true, .int .i64 0, .int .i32 61]) (wr.iterAt w.heap.size eqNul 1) := fun ty => by
    have := Lib.run_next_any_at (P := Tryz.prog) wr w.heap.size eqNul 0 ty HI.out (by decide)
    rw [dec0] at this
    exact this
   have HI2 := Aside0.mk (Lib.iterAt_heap wr w.heap.size eqNul 0 1 HI.out)
   have HB2 := Aside0.mk (iterAt_below' HB.out eqNul 1)
   clear hn HI HB
   go_wp2
   go_roundg 1
   case measure => omega
   case rel => exact ⟨1, ⟨rfl⟩, HI2, HB2⟩
  ·obtain rfl : gk = 1 := by omega
   have hnx : ∀ ty, (Instr.next (.pointer (some ⟨w.heap.size, 0, none⟩)) true ty).run Tryz.prog wr = .ok (.tuple #[.bool true, .int .i64 1, .int .i32 0]) (wr.iterAt w.heap.size eqNul 2) := fun ty => by
    have := Lib.run_next_any_at (P := Tryz.prog) wr w.heap.size eqNul 1 ty HI.out (by decide)
    rw [dec1] at this
    exact this
   have HI2 := Aside0.mk (Lib.iterAt_heap wr w.heap.size eqNul 1 2 HI.out)
   have HB2 := Aside0.mk (iterAt_below' HB.out eqNul 2)
   clear hn HI HB
   go_wp2
   go_roundg 0
   case measure => omega
   case rel => exact ⟨2, ⟨rfl⟩, HI2, HB2⟩
  ·obtain rfl : gk = 0 := by omega
   have hnx : ∀ ty, (Instr.next (.pointer (some ⟨w.heap.size, 0, none⟩)) true ty).run Tryz.prog wr = _ := fun ty => Lib.run_next_end_at wr w.heap.size eqNul 2 ty HI.out (by decide)
   clear hn HI
   go_wp2
   go_ret
   exact ⟨rfl, HB.out⟩
theorem enc_high (r : Int) (h0 : 128 ≤ r) (hv : Lib.validRune r = true) : (∃ x y : UInt8, Utf8.encode r = ⟨#[x, y]⟩ ∧ 128 ≤ y.toNat) ∨ (Utf8.encode r).size = 3 ∨ (Utf8.encode r).size = 4 := by
 have hv2 : Utf8.valid r = true := by
  unfold Utf8.valid
  unfold Lib.validRune at hv
  simp at hv ⊢
  omega
 obtain ⟨n, rfl⟩ := Int.eq_ofNat_of_zero_le (show 0 ≤ r by omega)
 unfold Utf8.encode
 rw [hv2]
 simp only [if_true, Int.toNat_natCast]
 rw [if_neg (by omega)]
 split
 ·exact .inl ⟨_, _, rfl, by simp; omega⟩
 ·split
  ·exact .inr (.inl rfl)
  ·exact .inr (.inr rfl)
set_option maxRecDepth 100000 in
set_option maxHeartbeats 1600000 in
theorem rune_high (r : Int) (w : World) (h0 : 128 ≤ r) (h1 : r ≠ 65533) (hv : Lib.validRune r = true) :
  Calls Tryz.prog 181 #[.string eqNul, .int .i32 r] w fun e w' => e = .returned (.int .i64 (-1)) ∧ Below w.heap.size w w' := by
 have h2 : (r == 65533) = false := by simpa using h1
 have h3 : decide (0 ≤ r) = true := by simp; omega
 have h4 : decide (r < 128) = false := by simp; omega
 have hen := enc_high r h0 hv
 have hsz : ((eqNul.size : Nat) : Int) = 2 := rfl
 rcases hen with ⟨x, y, he, hy⟩ | he | he
 ·have hx : ∀ h : 1 < eqNul.size, eqNul[1]'h = 0 := fun _ => rfl
  have hx2 : ∀ h : 1 < (⟨#[x, y]⟩ : ByteArray).size, (⟨#[x, y]⟩ : ByteArray)[1]'h = y := fun _ => rfl
  have hye : ((0 : Int) == (y.toNat : Int)) = false := by simp; omega
  have hyn : ((0 : Int) != (y.toNat : Int)) = true := by simp; omega
  clear hy
  go_enter Tryz.func181, Tryz.ntmps181
  go_wp2_with fail
  refine (Tryz.utf8_ValidRune r _).mono ?_
  rintro e w' ⟨rfl, rfl⟩
  rw [hv]
  go_wp2_with fail
  go_step3
  go_wp2_with fail
  refine wp_loop_rounds 1 ?_
  rw [rounds_succ]
  go_wp2_with fail
  go_step3
  go_wp2_with fail
  go_quiet (fail)
  go_wp2_with fail
  go_quiet ((go_at_call 123; exact quiet_add_same (Tryz.strings_IndexByte _ _ _)))
  go_wp2_with fail
  rw [Exit.noGoto_ret]
  simp only [Exit.inBlock, Exit.then]
  rw [Exit.noGoto_ret]
  go_ret
  exact ⟨rfl, Drawn0.below ⟨⟨_, rfl⟩⟩⟩
 all_goals
  go_enter Tryz.func181, Tryz.ntmps181
  go_wp2_with fail
  refine (Tryz.utf8_ValidRune r _).mono ?_
  rintro e w' ⟨rfl, rfl⟩
  rw [hv]
  go_wp2_with fail
  go_step3
  go_wp2_with fail
  refine wp_loop_rounds 1 ?_
  rw [rounds_succ]
  go_wp2_with fail
  rw [Exit.noGoto_ret]
  go_ret
  exact ⟨rfl, Below.refl _ _⟩
def barL (l : List UInt8) : Bool := l.any fun c => c == 61 || c == 0
theorem rune_low (c : UInt8) (w : World) (hc : c.toNat < 128) :
  Calls Tryz.prog 181 #[.string eqNul, .int .i32 (c.toNat : Int)] w fun e w' => (∃ v : Int, e = .returned (.int .i64 v) ∧ (0 ≤ v ↔ (c = 61 ∨ c = 0))) ∧ Below w.heap.size w w' := by
 refine (Tryz.strings_IndexRune_ascii eqNul (c.toNat : Int) w (by omega) (by omega)).mono ?_
 rintro e w' ⟨rfl, rfl⟩
 refine ⟨⟨_, rfl, ?_⟩, Below.refl _ _⟩
 have e1 : (c.toNat : Int).toNat.toUInt8 = c := by simp
 have e2 : eqNul.data.toList = [61, 0] := rfl
 rw [e1, e2]
 have e3 : Lib.indexByte [61, 0] c = if 61 == c then 0 else if Lib.indexByte [0] c == -1 then -1 else Lib.indexByte [0] c + 1 := rfl
 have e4 : Lib.indexByte [0] c = if 0 == c then 0 else -1 := rfl
 rw [e3, e4]
 by_cases h1 : c = 61
 ·subst h1; simp
 ·by_cases h2 : c = 0
  ·subst h2; simp
  ·have h3 : (61 == c) = false := by simpa using fun e => h1 e.symm
   have h4 : (0 == c) = false := by simpa using fun e => h2 e.symm
   simp [h1, h2, h3, h4]
theorem dec_ascii (c : UInt8) (t : List UInt8) (h : c.toNat < 128) : Lib.decodeL (c :: t) = (c.toNat, 1) := by
 rw [Lib.decodeL_N]
 exact Lib.decodeN_ascii _ _ _ _ _ h
theorem bar_high (c : UInt8) (h : 128 ≤ c.toNat) : (c == 61 || c == 0) = false := by
 have h1 : ¬ c = 61 := by rintro rfl; simp at h
 have h2 : ¬ c = 0 := by rintro rfl; simp at h
 simp [h1, h2]
theorem dec_bad (p : Nat × Nat) (e : p = (65533, 1)) (c : UInt8) (t : List UInt8) (hb : (c == 61 || c == 0) = false) :
  128 ≤ p.1 ∧ (p.1 = 65533 ∨ Lib.validRune (p.1 : Int) = true) ∧ barL ((c :: t).take p.2) = false := by
 have e1 : p.1 = 65533 := congrArg Prod.fst e
 have e2 : p.2 = 1 := congrArg Prod.snd e
 refine ⟨Nat.le_trans (by omega : 128 ≤ 65533) (Nat.le_of_eq e1.symm), .inl e1, ?_⟩
 rw [e2]
 simp only [List.take_succ_cons, List.take_zero, barL, List.any_cons, List.any_nil, Bool.or_false]
 exact hb
theorem bar_take (l : List UInt8) (k : Nat) (h : ∀ i, i < k → (l.getD i 0 == 61 || l.getD i 0 == 0) = false) : barL (l.take k) = false := by
 unfold barL
 rw [List.any_eq_false]
 intro x hx
 obtain ⟨i, hi⟩ := List.mem_iff_getElem?.1 hx
 rw [List.getElem?_take] at hi
 split at hi
 ·rename_i hk
  have := h i hk
  rw [List.getD_eq_getElem?_getD, hi] at this
  simpa using this
 ·cases hi
theorem wide2 (l : List UInt8) (r : Nat) (h0 : 128 ≤ (l.getD 0 0).toNat) (h1 : (l.getD 1 0).toNat / 64 = 2) (hr : 128 ≤ r) (hv : r < 55296 ∨ (57344 ≤ r ∧ r ≤ 1114111)) (p : Nat × Nat) (k : Nat) (e : p = (r, k))
  (hk : k = 2 ∨ (k = 3 ∧ (l.getD 2 0).toNat / 64 = 2) ∨ (k = 4 ∧ (l.getD 2 0).toNat / 64 = 2 ∧ (l.getD 3 0).toNat / 64 = 2)) :
  128 ≤ p.1 ∧ (p.1 = 65533 ∨ Lib.validRune (p.1 : Int) = true) ∧ barL (l.take p.2) = false := by
 subst e
 refine ⟨hr, .inr ?_, bar_take _ _ fun i hi => bar_high _ ?_⟩
 ·unfold Lib.validRune
  simp
  omega
 ·rcases hk with rfl | ⟨rfl, h2⟩ | ⟨rfl, h2, h3⟩
  ·rcases (by omega : i = 0 ∨ i = 1) with rfl | rfl <;> omega
  ·rcases (by omega : i = 0 ∨ i = 1 ∨ i = 2) with rfl | rfl | rfl <;> omega
  ·rcases (by omega : i = 0 ∨ i = 1 ∨ i = 2 ∨ i = 3) with rfl | rfl | rfl | rfl <;> omega
theorem dec_wide (c : UInt8) (t : List UInt8) (h : 128 ≤ c.toNat) : 128 ≤ (Lib.decodeL (c :: t)).1 ∧ ((Lib.decodeL (c :: t)).1 = 65533 ∨ Lib.validRune ((Lib.decodeL (c :: t)).1 : Int) = true) ∧ barL ((c :: t).take (Lib.decodeL (c :: t)).2) = false := by
 have hb0 := bar_high c h
 rw [Lib.decodeL_N]
 obtain ⟨l, hl⟩ : ∃ l, c :: t = l := ⟨_, rfl⟩
 have hc0 : (l.getD 0 0).toNat = c.toNat := by rw [← hl]; rfl
 have hs := Lib.decodeN_shape l.length (l.getD 0 0).toNat (l.getD 1 0).toNat (l.getD 2 0).toNat (l.getD 3 0).toNat
 rcases hs with ⟨h1, _⟩ | ⟨h1, h2, h3, h4, e⟩ | ⟨h1, h2, h3, h4, h5, h6, e⟩ | ⟨h1, h2, h3, h4, h5, h6, h7, e⟩ | e
 ·omega
 ·rw [hl]
  exact wide2 l _ (by omega) h3 h4 (by omega) _ _ e (.inl rfl)
 ·rw [hl]
  exact wide2 l _ (by omega) h3 (by omega) (by omega) _ _ e (.inr (.inl ⟨rfl, h4⟩))
 ·rw [hl]
  exact wide2 l _ (by omega) h3 (by omega) (by omega) _ _ e (.inr (.inr ⟨rfl, h4, h5⟩))
 ·have := dec_bad _ e c t hb0
  rw [hl] at this ⊢
  exact this
def AnyPost (l : List UInt8) (w : World) (e : Ending) (w' : World) : Prop := (∃ v : Int, e = .returned (.int .i64 v) ∧ (0 ≤ v ↔ barL l = true)) ∧ Below w.heap.size w w'
def RunePost (c : UInt8) (w : World) (e : Ending) (w' : World) : Prop := (∃ v : Int, e = .returned (.int .i64 v) ∧ (0 ≤ v ↔ (c = 61 ∨ c = 0))) ∧ Below w.heap.size w w'
theorem rune_any (c : UInt8) (t : List UInt8) (w : World) :
  Calls Tryz.prog 181 #[.string eqNul, .int .i32 ((Lib.decodeL (c :: t)).1 : Int)] w (RunePost c w) := by
 by_cases h : c.toNat < 128
 ·rw [dec_ascii c t h]
  exact rune_low c w h
 ·have hn : ¬ (c = 61 ∨ c = 0) := by
   rintro (rfl | rfl) <;> simp at h
  obtain ⟨h1, h2, _⟩ := dec_wide c t (by omega)
  obtain ⟨r, hr⟩ : ∃ r, (Lib.decodeL (c :: t)).1 = r := ⟨_, rfl⟩
  rw [hr] at h1 h2 ⊢
  by_cases h3 : r = 65533
  ·subst h3
   exact (rune_err w).mono fun e w' ⟨he, hb⟩ => ⟨⟨_, he, by simp [hn]⟩, hb⟩
  ·have h4 := h2.resolve_left h3
   exact (rune_high r w (by omega) (by omega) h4).mono fun e w' ⟨he, hb⟩ => ⟨⟨_, he, by simp [hn]⟩, hb⟩
theorem dec_step (c : UInt8) (t : List UInt8) (hc : ¬ (c = 61 ∨ c = 0)) : barL (c :: t) = barL ((c :: t).drop (Lib.decodeL (c :: t)).2) := by
 by_cases h : c.toNat < 128
 ·rw [dec_ascii c t h]
  have h1 : (c == 61 || c == 0) = false := by simpa using hc
  show barL (c :: t) = barL t
  simp only [barL, List.any_cons, h1, Bool.false_or]
 ·obtain ⟨_, _, h3⟩ := dec_wide c t (by omega)
  obtain ⟨k, hk⟩ : ∃ k, (Lib.decodeL (c :: t)).2 = k := ⟨_, rfl⟩
  rw [hk] at h3 ⊢
  have : barL (c :: t) = (barL ((c :: t).take k) || barL ((c :: t).drop k)) := by
   unfold barL
   rw [← List.any_append, List.take_append_drop]
  rw [this, h3, Bool.false_or]
theorem decode_pos' {s : ByteArray} {n : Nat} {l : List UInt8} (h : Pos s n l) : Utf8.decode s n = Lib.decodeL l := by rw [← h.dr, Lib.decodeL_drop]
theorem decodeL_ge' (l : List UInt8) : 1 ≤ (Lib.decodeL l).2 := by
 rw [Lib.decodeL_N]
 exact Lib.decodeN_ge1 ..
set_option maxRecDepth 100000 in
set_option maxHeartbeats 1600000 in
theorem index_short (a0 : ByteArray) (w : World) (hs : a0.size ≤ 8) :
  Calls Tryz.prog 164 #[.string a0, .string eqNul] w (AnyPost a0.data.toList w) := by
 have hsz : ((eqNul.size : Nat) : Int) = 2 := rfl
 have hsz2 : eqNul.size = 2 := rfl
 have htl : eqNul.toList = [61, 0] := by rw [Lib.toList_data]; rfl
 have h8 : decide ((a0.size : Int) > 8) = false := by simp; omega
 obtain ⟨B, hB⟩ : ∃ B, barL a0.data.toList = B := ⟨_, rfl⟩
 have HB0 := Lib.hid hB
 have HP0 := Lib.hid (Pos.zero a0)
 have HL0 := Lib.hid (data_length a0)
 clear hB
 go_enter Tryz.func164, Tryz.ntmps164
 go_wp2_with fail
 refine (Tryz.strings_shouldUseASCIISet _ _).mono ?_
 rintro e w' ⟨rfl, rfl⟩
 go_wp2_with fail
 go_loopg [] (a0.size) (fun gk wr => ∃ (n : Nat) (l : List UInt8), Aside0 (Pos a0 n l) ∧ Aside0 (wr.heap[w'.heap.size]? = some (.stringIter a0 n)) ∧ Aside0 (Below w'.heap.size w' wr) ∧ Aside0 (barL l = B) ∧ Aside0 (l.length ≤ gk))
 case atStart => exact ⟨0, _, ⟨HP0.out⟩, ⟨World.iter_heap w' a0 0⟩, ⟨below_alloc (Below.refl _ _) _⟩, ⟨HB0.out⟩, ⟨by rw [HL0.out]; exact Nat.le_refl _⟩⟩
 case round =>
  clear HP0 HL0
  obtain ⟨n, l, HP, HI, HB, HR, HK⟩ := hrel
  cases l with
  | nil =>
   have hn : ¬ n < a0.size := by have := HP.out.len; simp at this; omega
   have hnx : ∀ ty, (Instr.next (.pointer (some ⟨w'.heap.size, 0, none⟩)) true ty).run Tryz.prog wr = _ := fun ty => Lib.run_next_end_at wr w'.heap.size a0 n ty HI.out hn
   clear hn
   go_wp2
   go_ret
   exact ⟨⟨-1, rfl, by rw [HB0.out, ← HR.out]; simp [barL]⟩, HB.out⟩
  | cons c t =>
   have hn : n < a0.size := HP.out.lt
   have hde := decode_pos' HP.out
   have hnx : ∀ ty, (Instr.next (.pointer (some ⟨w'.heap.size, 0, none⟩)) true ty).run Tryz.prog wr = .ok (.tuple #[.bool true, .int .i64 n, .int .i32 (Lib.decodeL (c :: t)).1]) (wr.iterAt w'.heap.size a0 (n + (Lib.decodeL (c :: t)).2)) := fun ty => by
    rw [← hde]
    exact Lib.run_next_any_at wr w'.heap.size a0 n ty HI.out hn
   have HB2 := Lib.hid (iterAt_below' HB.out a0 (n + (Lib.decodeL (c :: t)).2))
   have HI2 := Lib.hid (Lib.iterAt_heap wr w'.heap.size a0 n (n + (Lib.decodeL (c :: t)).2) HI.out)
   have HRN := fun W => Lib.hid (rune_any c t W)
   clear hde hn HI HB
   obtain ⟨R1, hR1⟩ : ∃ R1, (Lib.decodeL (c :: t)).1 = R1 := ⟨_, rfl⟩
   obtain ⟨K1, hK1⟩ : ∃ K1, (Lib.decodeL (c :: t)).2 = K1 := ⟨_, rfl⟩
   rw [hR1] at hnx HRN
   rw [hK1] at hnx HB2 HI2
   have HK1 := Lib.hid hK1
   clear hR1 hK1
   go_wp2_with fail
   refine (HRN _).out.mono ?_
   rintro e w2 ⟨⟨v, rfl, hv⟩, hb2⟩
   have HB3 := Lib.hid (below_step HB2.out hb2)
   have HI3 := Lib.hid ((hb2.block _ ((Array.getElem?_eq_some_iff.1 HI2.out).1)).trans HI2.out)
   clear hb2
   by_cases hc : c = 61 ∨ c = 0
   ·have h0 : decide (0 ≤ v) = true := decide_eq_true (hv.2 hc)
    have hbt : barL (c :: t) = true := by
     simp only [barL, List.any_cons, Bool.or_eq_true]
     left
     simpa using hc
    have HBT := Lib.hid hbt
    clear hv hc hbt
    go_wp2
    go_ret
    exact ⟨⟨n, rfl, by rw [HB0.out, ← HR.out, HBT.out]; simp⟩, HB3.out⟩
   ·have h0 : decide (0 ≤ v) = false := decide_eq_false (fun h => hc (hv.1 h))
    obtain ⟨g, rfl⟩ : ∃ g, gk = g + 1 := ⟨gk - 1, by have := HK.out; simp at this; omega⟩
    have hle := Lib.decodeL_le (c :: t) (by simp)
    have hge := decodeL_ge' (c :: t)
    have hst := dec_step c t hc
    rw [HK1.out] at hle hge hst
    have hlen := HP.out.len
    have hkk := HK.out
    have HPOS : Aside0 (Pos a0 (n + K1) ((c :: t).drop K1)) := ⟨⟨by rw [← List.drop_drop, HP.out.dr], by omega⟩⟩
    have HRES : Aside0 (barL ((c :: t).drop K1) = B) := ⟨by rw [← hst]; exact HR.out⟩
    have HLL : Aside0 (((c :: t).drop K1).length ≤ g) := ⟨by rw [List.length_drop]; omega⟩
    clear hst hle hge hlen hkk hv hc
    go_wp2
    go_roundg g
    case measure => omega
    case rel => exact ⟨n + K1, _, HPOS, ⟨HI3.out⟩, ⟨HB3.out⟩, HRES, HLL⟩
theorem indexAny_bar : ∀ l : List UInt8, (0 ≤ Lib.indexAny l [61, 0] ↔ barL l = true)
 | [] => by simp [Lib.indexAny, barL]
 | b :: l => by
  have ih := indexAny_bar l
  have hge := Lib.indexAny_ge [61, 0] l
  have e : [61, 0].contains b = (b == 61 || b == 0) := by simp [List.contains, List.elem]; cases b == 61 <;> cases b == 0 <;> rfl
  unfold Lib.indexAny
  rw [e]
  simp only [barL, List.any_cons] at ih ⊢
  cases hb : (b == 61 || b == 0) with
  | true => simp
  | false =>
   simp only [Bool.false_eq_true, if_false, Bool.false_or]
   rw [← ih]
   split
   ·rename_i h
    simp at h
    omega
   ·rename_i h
    simp at h
    omega
theorem zero408 : ∀ w, (zeroValue 238).run Tryz.prog w = .ok (.agg (Array.replicate 256 (.bool false))) w :=
 (zero_of_info (P := Tryz.prog) (n := 256) (show (Tryz.prog.info? 238).map (fun i => (i.zero, i.size)) = some (some (.agg (Array.replicate 256 (.bool false))), 256) by kernel_rfl)).1
theorem index_any (a0 : ByteArray) (w : World) (hs : a0.size < 4294967281) :
  Calls Tryz.prog 164 #[.string a0, .string eqNul] w (AnyPost a0.data.toList w) := by
 by_cases h : a0.size ≤ 8
 ·exact index_short a0 w h
 ·refine (Tryz.strings_IndexAny_long zero408 a0 eqNul w (by decide) (by omega) hs (by decide) ?_).mono fun e w' ⟨he, hw⟩ => ⟨⟨_, he, indexAny_bar _⟩, ?_⟩
  ·intro j b hb
   match j, hb with
   | 0, hb => cases hb; decide
   | 1, hb => cases hb; decide
  ·rw [hw]
   exact below_alloc (below_alloc (Below.refl _ _) _) _
def strings_ContainsAny.f (a0 : ByteArray) (a1 : ByteArray) : Option (Bool) := if a1.data.toList = [61, 0] ∧ a0.size < 4294967281 then some (barL a0.data.toList) else none
set_option maxHeartbeats 1600000 in
theorem strings_ContainsAny.calls (a0 : ByteArray) (a1 : ByteArray) (r : Bool) (w : World) (hG : Glob w) (h : strings_ContainsAny.f a0 a1 = some r) :
  Calls Tryz.prog 146 #[.string a0, .string a1] w fun e w' => e = .returned (.bool r) ∧ Below w.heap.size w w' := by
 unfold strings_ContainsAny.f at h
 split at h
 case isFalse => cases h
 rename_i hs
 obtain rfl := Option.some.inj h
 obtain rfl : a1 = eqNul := ext_data (hs.1.trans rfl)
 have HC := Lib.hid (index_any a0 w hs.2)
 clear h hs hG
 go_enter Tryz.func146, Tryz.ntmps146
 go_wp2_with fail
 refine HC.out.mono ?_
 rintro e w' ⟨⟨v, rfl, hv⟩, hb⟩
 have HV := Lib.hid hv
 have HB := Lib.hid hb
 clear hv hb
 go_wp2
 go_ret
 refine ⟨?_, HB.out⟩
 have : decide (0 ≤ v) = barL a0.data.toList := by
  rw [Bool.eq_iff_iff, decide_eq_true_iff]
  exact HV.out
 rw [← this]
 rfl
end Go.Proofs.YtddhkfdfhbpblaaGreatDoor.P
namespace Go.Proofs.YtddhkfdfhbpblaaGreatDoor.P
open Go.RowKit Go.Proofs.YtddhkfdfhbpblaaGreatDoorW.PrintWords Go.Proofs.YtddhkfdfhbpblaaGreatDoorW.PrintLast Go.Proofs.YtddhkfdfhbpblaaGreatDoorW.PrintMore
attribute [local go_sem] max2_int min2_int max_two min_two max_three min_three max_four min_four   -- for this text's walks alone
set_option linter.unusedVariables false
set_option linter.unusedSimpArgs false
def pax_clean.f (a0 : ByteArray) : Option (Bool) := (strings_IndexByte.f a0 0).bind fun t122 => (some (decide (t122 < 0)))
set_option maxHeartbeats 8000000 in
set_option maxRecDepth 100000 in
theorem pax_clean.calls (a0 : ByteArray) (r : Bool) (w : World) (h : pax_clean.f a0 = some r) :
  Calls Tryz.prog 165 #[.string a0] w fun e w' => e = .returned (.bool r) ∧ Drawn0 w w' := by
 have H : ((strings_IndexByte.f a0 0).bind fun t122 => (some (decide (t122 < 0)))) = some r := h
 clear h
 obtain ⟨t122, A20, H⟩ := Zk H
 have A2 := Aside0.mk A20
 clear A20
 obtain rfl := Option.some.inj H
 go_enter Tryz.func165, Tryz.ntmps165
 go_wp2_with (first | ((with_reducible refine gate_callee (f := 123) rfl ?_); refine ZL 4 Tryz.func123 #[.string a0, .int .u8 0] ?_; (with_reducible refine (strings_IndexByte.calls a0 0 t122 _ A2.out).mono ?_); rintro e w' ⟨rfl, ⟨nd, rfl⟩⟩; refine ⟨_, rfl, ?_⟩))
 go_ret
 exact ⟨Zr, Zd⟩
end Go.Proofs.YtddhkfdfhbpblaaGreatDoor.P
namespace Go.Proofs.YtddhkfdfhbpblaaGreatDoor.P
open Go.RowKit Go.Proofs.YtddhkfdfhbpblaaGreatDoorW.PrintWords Go.Proofs.YtddhkfdfhbpblaaGreatDoorW.PrintLast Go.Proofs.YtddhkfdfhbpblaaGreatDoorW.PrintMore
attribute [local go_sem] max2_int min2_int max_two min_two max_three min_three max_four min_four   -- for this text's walks alone
set_option linter.unusedVariables false
set_option linter.unusedSimpArgs false
mutual
def pax_value.j0 : Nat → ByteArray → Int → ByteArray → Bool → Option (Bool)
 | 0, _, _, _, _ => none
 | k + 1, x1, x5, x11, x12 => if x12 = true then ((pax_clean.f x1).bind fun t124 => (some t124)) else (if x11.toList = ([117, 105, 100] : List UInt8) then (pax_value.j1 k x1 x5 x11 (x11.toList == ([117, 105, 100] : List UInt8))) else (if x11.toList = ([103, 105, 100] : List UInt8) then (pax_value.j1 k x1 x5 x11 (x11.toList == ([103, 105, 100] : List UInt8))) else (pax_value.j1 k x1 x5 x11 (x11.toList == ([115, 105, 122, 101] : List UInt8)))))
def pax_value.j1 : Nat → ByteArray → Int → ByteArray → Bool → Option (Bool)
 | 0, _, _, _, _ => none
 | k + 1, x1, x5, x11, x19 => if x19 = true then ((dec_Number.f x1).bind fun bt125 => (some (bt125.2 == 0))) else (if x11.toList = ([109, 116, 105, 109, 101] : List UInt8) then ((dec_Time.f k x1).bind fun bt127 => (some (bt127.2.2 == 0))) else (some (x5 == 0)))
end
def pax_value.f (k : Nat) (a0 : ByteArray) (a1 : ByteArray) : Option (Bool) := (utf_Right.f a1).bind fun t123 => (if t123 = true then (if a1.toList = ([] : List UInt8) then (some true) else (if a0.toList = ([112, 97, 116, 104] : List UInt8) then (pax_value.j0 k a1 0 a0 (a0.toList == ([112, 97, 116, 104] : List UInt8))) else (if a0.toList = ([108, 105, 110, 107, 112, 97, 116, 104] : List UInt8) then (pax_value.j0 k a1 0 a0 (a0.toList == ([108, 105, 110, 107, 112, 97, 116, 104] : List UInt8))) else (if a0.toList = ([117, 110, 97, 109, 101] : List UInt8) then (pax_value.j0 k a1 0 a0 (a0.toList == ([117, 110, 97, 109, 101] : List UInt8))) else (pax_value.j0 k a1 0 a0 (a0.toList == ([103, 110, 97, 109, 101] : List UInt8))))))) else (some false))
set_option maxHeartbeats 8000000 in
set_option maxRecDepth 100000 in
theorem pax_value.calls (k : Nat) (a0 : ByteArray) (a1 : ByteArray) (r : Bool) (w : World) (hG : Glob w) (h : pax_value.f k a0 a1 = some r) :
  Calls Tryz.prog 147 #[.string a0, .string a1] w fun e w' => e = .returned (.bool r) ∧ Below w.heap.size w w' := by
 have HG := Aside0.mk hG; clear hG
 have HB := Aside0.mk (Below.refl w.heap.size w)
 have H : ((utf_Right.f a1).bind fun t123 => (if t123 = true then (if a1.toList = ([] : List UInt8) then (some true) else (if a0.toList = ([112, 97, 116, 104] : List UInt8) then (pax_value.j0 k a1 0 a0 (a0.toList == ([112, 97, 116, 104] : List UInt8))) else (if a0.toList = ([108, 105, 110, 107, 112, 97, 116, 104] : List UInt8) then (pax_value.j0 k a1 0 a0 (a0.toList == ([108, 105, 110, 107, 112, 97, 116, 104] : List UInt8))) else (if a0.toList = ([117, 110, 97, 109, 101] : List UInt8) then (pax_value.j0 k a1 0 a0 (a0.toList == ([117, 110, 97, 109, 101] : List UInt8))) else (pax_value.j0 k a1 0 a0 (a0.toList == ([103, 110, 97, 109, 101] : List UInt8))))))) else (some false))) = some r := h
 clear h
 obtain ⟨t123, A30, H⟩ := Zk H
 have A3 := Aside0.mk A30
 clear A30
 by_cases c4 : t123 = true
 ·subst c4
  rw [if_pos rfl] at H
  by_cases c5 : a1.toList = ([] : List UInt8)
  ·rw [if_pos c5] at H
   have c5b0 : (a1.toList == ([] : List UInt8)) = true := beq_iff_eq.mpr c5
   have c5b1 : (a1.toList != ([] : List UInt8)) = false := bne_eq_false_iff_eq.mpr c5
   clear c5
   obtain rfl := Option.some.inj H
   go_enter Tryz.func147, Tryz.ntmps147
   go_wp2_with (first | ((with_reducible refine gate_callee (f := 145) rfl ?_); refine ZL 7 Tryz.func145 #[.string a1] ?_; (with_reducible refine (utf_Right.calls a1 true _ ?side1 A3.out).mono ?_); (case side1 => exact ZG HG HB); rintro e w6 ⟨rfl, hb⟩; refine ⟨_, rfl, ?_⟩; replace HB := Zs HB hb; try clear hb))
   go_ret
   exact ⟨Ze, Zh HB⟩
  ·rw [if_neg c5] at H
   have c5b0 : (a1.toList == ([] : List UInt8)) = false := beq_eq_false_iff_ne.mpr c5
   have c5b1 : (a1.toList != ([] : List UInt8)) = true := bne_iff_ne.mpr c5
   have HC7 := Aside0.mk H; clear H
   go_enter Tryz.func147, Tryz.ntmps147
   go_upto_if 12 with (first | ((with_reducible refine gate_callee (f := 145) rfl ?_); refine ZL 7 Tryz.func145 #[.string a1] ?_; (with_reducible refine (utf_Right.calls a1 true _ ?side1 A3.out).mono ?_); (case side1 => exact ZG HG HB); rintro e w8 ⟨rfl, hb⟩; refine ⟨_, rfl, ?_⟩; replace HB := Zs HB hb; try clear hb))
   (try simp only [Act.put, List.setIfInBounds_toArray, List.set_cons_zero, List.set_cons_succ])
   go_cut [12] (fun v12 wc => ∃ (kq : Nat) (x12_6 : Bool), v12 = .bool x12_6 ∧ Aside0 (pax_value.j0 kq a1 0 a0 x12_6 = some r) ∧ Aside0 (kq ≤ k) ∧ Aside0 (Below w.heap.size w wc))
   case first =>
    have H := HC7.out
    clear HC7
    by_cases c9 : a0.toList = ([112, 97, 116, 104] : List UInt8)
    ·rw [if_pos c9] at H
     have c9b0 : (a0.toList == ([112, 97, 116, 104] : List UInt8)) = true := beq_iff_eq.mpr c9
     have c9b1 : (a0.toList != ([112, 97, 116, 104] : List UInt8)) = false := bne_eq_false_iff_eq.mpr c9
     clear c9
     (first | rw [c9b0] | (simp only [i64_w, i32_w]; rw [c9b0]) | skip)
     have H' := Aside0.mk H
     clear H
     go_wp2
     go_meet
     case rel => exact ⟨_, ((a0.toList == ([112, 97, 116, 104] : List UInt8))), Zr, H', Zl, ⟨Zh HB⟩⟩
    ·rw [if_neg c9] at H
     have c9b0 : (a0.toList == ([112, 97, 116, 104] : List UInt8)) = false := beq_eq_false_iff_ne.mpr c9
     have c9b1 : (a0.toList != ([112, 97, 116, 104] : List UInt8)) = true := bne_iff_ne.mpr c9
     (first | rw [c9b0] | (simp only [i64_w, i32_w]; rw [c9b0]) | skip)
     by_cases c10 : a0.toList = ([108, 105, 110, 107, 112, 97, 116, 104] : List UInt8)
     ·rw [if_pos c10] at H
      have c10b0 : (a0.toList == ([108, 105, 110, 107, 112, 97, 116, 104] : List UInt8)) = true := beq_iff_eq.mpr c10
      have c10b1 : (a0.toList != ([108, 105, 110, 107, 112, 97, 116, 104] : List UInt8)) = false := bne_eq_false_iff_eq.mpr c10
      clear c10
      have H' := Aside0.mk H
      clear H
      go_wp2
      go_meet
      case rel => exact ⟨_, ((a0.toList == ([108, 105, 110, 107, 112, 97, 116, 104] : List UInt8))), Zr, H', Zl, ⟨Zh HB⟩⟩
     ·rw [if_neg c10] at H
      have c10b0 : (a0.toList == ([108, 105, 110, 107, 112, 97, 116, 104] : List UInt8)) = false := beq_eq_false_iff_ne.mpr c10
      have c10b1 : (a0.toList != ([108, 105, 110, 107, 112, 97, 116, 104] : List UInt8)) = true := bne_iff_ne.mpr c10
      by_cases c11 : a0.toList = ([117, 110, 97, 109, 101] : List UInt8)
      ·rw [if_pos c11] at H
       have c11b0 : (a0.toList == ([117, 110, 97, 109, 101] : List UInt8)) = true := beq_iff_eq.mpr c11
       have c11b1 : (a0.toList != ([117, 110, 97, 109, 101] : List UInt8)) = false := bne_eq_false_iff_eq.mpr c11
       clear c11
       have H' := Aside0.mk H
       clear H
       go_wp2
       go_meet
       case rel => exact ⟨_, ((a0.toList == ([117, 110, 97, 109, 101] : List UInt8))), Zr, H', Zl, ⟨Zh HB⟩⟩
      ·rw [if_neg c11] at H
       have c11b0 : (a0.toList == ([117, 110, 97, 109, 101] : List UInt8)) = false := beq_eq_false_iff_ne.mpr c11
       have c11b1 : (a0.toList != ([117, 110, 97, 109, 101] : List UInt8)) = true := bne_iff_ne.mpr c11
       have H' := Aside0.mk H
       clear H
       go_wp2
       go_meet
       case rel => exact ⟨_, ((a0.toList == ([103, 110, 97, 109, 101] : List UInt8))), Zr, H', Zl, ⟨Zh HB⟩⟩
   case rest =>
    clear HC7
    try clear c1
    try clear p2
    try clear c4
    try clear c5
    try clear c5b0
    try clear c5b1
    try clear c9
    try clear c9b0
    try clear c9b1
    try clear c10
    try clear c10b0
    try clear c10b1
    try clear c11
    try clear c11b0
    try clear c11b1
    obtain ⟨kq, x12_6, rfl, HA, HJ6, HB⟩ := hcut
    cases kq with
    | zero => exact absurd HA.out (by simp [pax_value.j0])
    | succ kj6 =>
     have H := HA.out
     clear HA
     simp only [pax_value.j0] at H
     by_cases c12 : x12_6 = true
     ·subst c12
      rw [if_pos rfl] at H
      obtain ⟨t124, A130, H⟩ := Zk H
      have A13 := Aside0.mk A130
      clear A130
      obtain rfl := Option.some.inj H
      go_wp2_with (first | ((with_reducible refine gate_callee (f := 165) rfl ?_); refine ZL 18 Tryz.func165 #[.string a1] ?_; (with_reducible refine (pax_clean.calls a1 t124 _ A13.out).mono ?_); rintro e w' ⟨rfl, ⟨nd, rfl⟩⟩; refine ⟨_, rfl, ?_⟩))
      go_ret
      exact ⟨Ze, Zh HB⟩
     ·replace c12 := Bool.eq_false_iff.mpr c12
      subst c12
      rw [Zf] at H
      have HC14 := Aside0.mk H; clear H
      go_upto_if 19 with (fail)
      go_cut [19] (fun v19 wc => ∃ (kq : Nat) (x19_13 : Bool), v19 = .bool x19_13 ∧ Aside0 (pax_value.j1 kq a1 0 a0 x19_13 = some r) ∧ Aside0 (kq ≤ kj6) ∧ Aside0 (Below w.heap.size w wc))
      case first =>
       have H := HC14.out
       clear HC14
       by_cases c15 : a0.toList = ([117, 105, 100] : List UInt8)
       ·rw [if_pos c15] at H
        have c15b0 : (a0.toList == ([117, 105, 100] : List UInt8)) = true := beq_iff_eq.mpr c15
        have c15b1 : (a0.toList != ([117, 105, 100] : List UInt8)) = false := bne_eq_false_iff_eq.mpr c15
        clear c15
        (first | rw [c15b0] | (simp only [i64_w, i32_w]; rw [c15b0]) | skip)
        have H' := Aside0.mk H
        clear H
        go_wp2
        go_meet
        case rel => exact ⟨_, ((a0.toList == ([117, 105, 100] : List UInt8))), Zr, H', (Zm HJ6), ⟨Zh HB⟩⟩
       ·rw [if_neg c15] at H
        have c15b0 : (a0.toList == ([117, 105, 100] : List UInt8)) = false := beq_eq_false_iff_ne.mpr c15
        have c15b1 : (a0.toList != ([117, 105, 100] : List UInt8)) = true := bne_iff_ne.mpr c15
        (first | rw [c15b0] | (simp only [i64_w, i32_w]; rw [c15b0]) | skip)
        by_cases c16 : a0.toList = ([103, 105, 100] : List UInt8)
        ·rw [if_pos c16] at H
         have c16b0 : (a0.toList == ([103, 105, 100] : List UInt8)) = true := beq_iff_eq.mpr c16
         have c16b1 : (a0.toList != ([103, 105, 100] : List UInt8)) = false := bne_eq_false_iff_eq.mpr c16
         clear c16
         have H' := Aside0.mk H
         clear H
         go_wp2
         go_meet
         case rel => exact ⟨_, ((a0.toList == ([103, 105, 100] : List UInt8))), Zr, H', (Zm HJ6), ⟨Zh HB⟩⟩
        ·rw [if_neg c16] at H
         have c16b0 : (a0.toList == ([103, 105, 100] : List UInt8)) = false := beq_eq_false_iff_ne.mpr c16
         have c16b1 : (a0.toList != ([103, 105, 100] : List UInt8)) = true := bne_iff_ne.mpr c16
         have H' := Aside0.mk H
         clear H
         go_wp2
         go_meet
         case rel => exact ⟨_, ((a0.toList == ([115, 105, 122, 101] : List UInt8))), Zr, H', (Zm HJ6), ⟨Zh HB⟩⟩
      case rest =>
       clear HC14
       try clear c1
       try clear p2
       try clear c4
       try clear c5
       try clear c5b0
       try clear c5b1
       try clear c9
       try clear c9b0
       try clear c9b1
       try clear c10
       try clear c10b0
       try clear c10b1
       try clear c11
       try clear c11b0
       try clear c11b1
       try clear c12
       try clear c14
       try clear c15
       try clear c15b0
       try clear c15b1
       try clear c16
       try clear c16b0
       try clear c16b1
       try clear p2
       obtain ⟨kq, x19_13, rfl, HA, HJ13, HB⟩ := hcut
       cases kq with
       | zero => exact absurd HA.out (by simp [pax_value.j1])
       | succ kj13 =>
        have H := HA.out
        clear HA
        simp only [pax_value.j1] at H
        by_cases c17 : x19_13 = true
        ·subst c17
         rw [if_pos rfl] at H
         obtain ⟨⟨t125, t126⟩, A180, H⟩ := Zk H
         try dsimp only at H
         have A18 := Aside0.mk A180
         clear A180
         obtain rfl := Option.some.inj H
         go_wp2_with (first | ((with_reducible refine gate_callee (f := 158) rfl ?_); refine ZL 25 Tryz.func158 #[.string a1] ?_; (with_reducible refine (dec_Number.calls a1 t125 t126 _ ?side1 A18.out).mono ?_); (case side1 => exact ZG HG HB); rintro e w19 ⟨rfl, hb⟩; refine ⟨_, rfl, ?_⟩; replace HB := Zs HB hb; try clear hb))
         go_ret
         exact ⟨Ze, Zh HB⟩
        ·replace c17 := Bool.eq_false_iff.mpr c17
         subst c17
         rw [Zf] at H
         by_cases c20 : a0.toList = ([109, 116, 105, 109, 101] : List UInt8)
         ·rw [if_pos c20] at H
          have c20b0 : (a0.toList == ([109, 116, 105, 109, 101] : List UInt8)) = true := beq_iff_eq.mpr c20
          have c20b1 : (a0.toList != ([109, 116, 105, 109, 101] : List UInt8)) = false := bne_eq_false_iff_eq.mpr c20
          clear c20
          obtain ⟨⟨t127, t128, t129⟩, A210, H⟩ := Zk H
          try dsimp only at H
          have A21 := Aside0.mk A210
          clear A210
          obtain rfl := Option.some.inj H
          go_wp2_with (first | ((with_reducible refine gate_callee (f := 159) rfl ?_); refine ZL 32 Tryz.func159 #[.string a1] ?_; (with_reducible refine (dec_Time.calls kj13 a1 t127 t128 t129 _ ?side1 A21.out).mono ?_); (case side1 => exact ZG HG HB); rintro e w22 ⟨rfl, hb⟩; refine ⟨_, rfl, ?_⟩; replace HB := Zs HB hb; try clear hb))
          go_ret
          exact ⟨Ze, Zh HB⟩
         ·rw [if_neg c20] at H
          have c20b0 : (a0.toList == ([109, 116, 105, 109, 101] : List UInt8)) = false := beq_eq_false_iff_ne.mpr c20
          have c20b1 : (a0.toList != ([109, 116, 105, 109, 101] : List UInt8)) = true := bne_iff_ne.mpr c20
          obtain rfl := Option.some.inj H
          go_wp2
          go_ret
          exact ⟨Ze, Zh HB⟩
 ·replace c4 := Bool.eq_false_iff.mpr c4
  subst c4
  rw [Zf] at H
  obtain rfl := Option.some.inj H
  go_enter Tryz.func147, Tryz.ntmps147
  go_wp2_with (first | ((with_reducible refine gate_callee (f := 145) rfl ?_); refine ZL 7 Tryz.func145 #[.string a1] ?_; (with_reducible refine (utf_Right.calls a1 false _ ?side1 A3.out).mono ?_); (case side1 => exact ZG HG HB); rintro e w23 ⟨rfl, hb⟩; refine ⟨_, rfl, ?_⟩; replace HB := Zs HB hb; try clear hb))
  go_ret
  exact ⟨Ze, Zh HB⟩
end Go.Proofs.YtddhkfdfhbpblaaGreatDoor.P
namespace Go.Proofs.YtddhkfdfhbpblaaGreatDoor.P
open Go.RowKit Go.Proofs.YtddhkfdfhbpblaaGreatDoorW.PrintWords Go.Proofs.YtddhkfdfhbpblaaGreatDoorW.PrintLast Go.Proofs.YtddhkfdfhbpblaaGreatDoorW.PrintMore
attribute [local go_sem] max2_int min2_int max_two min_two max_three min_three max_four min_four   -- for this text's walks alone
set_option linter.unusedVariables false
set_option linter.unusedSimpArgs false
def pax_Right.f (k : Nat) (a0_0 : ByteArray) (a0_1 : ByteArray) : Option (Bool) := if a0_0.toList = ([] : List UInt8) then (some false) else ((utf_Right.f a0_0).bind fun t131 => (if t131 = true then ((strings_ContainsAny.f a0_0 (⟨#[61, 0]⟩ : ByteArray)).bind fun t132 => (if t132 = true then (some false) else ((pax_value.f k a0_0 a0_1).bind fun t133 => (some t133)))) else (some false)))
set_option maxHeartbeats 8000000 in
set_option maxRecDepth 100000 in
theorem pax_Right.calls (k : Nat) (a0_0 : ByteArray) (a0_1 : ByteArray) (r : Bool) (w : World) (hG : Glob w) (h : pax_Right.f k a0_0 a0_1 = some r) :
  Calls Tryz.prog 124 #[.agg #[.string a0_0, .string a0_1]] w fun e w' => e = .returned (.bool r) ∧ Below w.heap.size w w' := by
 have hu127 := Tryz.underlying127
 have HG := Aside0.mk hG; clear hG
 have HB := Aside0.mk (Below.refl w.heap.size w)
 have H : (if a0_0.toList = ([] : List UInt8) then (some false) else ((utf_Right.f a0_0).bind fun t131 => (if t131 = true then ((strings_ContainsAny.f a0_0 (⟨#[61, 0]⟩ : ByteArray)).bind fun t132 => (if t132 = true then (some false) else ((pax_value.f k a0_0 a0_1).bind fun t133 => (some t133)))) else (some false)))) = some r := h
 clear h
 by_cases c2 : a0_0.toList = ([] : List UInt8)
 ·rw [if_pos c2] at H
  have c2b0 : (a0_0.toList == ([] : List UInt8)) = true := beq_iff_eq.mpr c2
  have c2b1 : (a0_0.toList != ([] : List UInt8)) = false := bne_eq_false_iff_eq.mpr c2
  clear c2
  obtain rfl := Option.some.inj H
  go_enter Tryz.func124, Tryz.ntmps124
  go_wp2_with (first | ((with_reducible refine gate_dst (N := 1) rfl ?_); refine Zbx (N := 1) (cs := #[.string a0_0, .string a0_1]) (t := 127) HB ?_; intro gb130 w3 HB BK130 GE130; have GW130 := GE130; have hcz4 := Zc2 BK130.out; have hfz4 := blk_frozen BK130.out))
  go_ret
  exact ⟨Ze, Zhg HB GE130⟩
 ·rw [if_neg c2] at H
  have c2b0 : (a0_0.toList == ([] : List UInt8)) = false := beq_eq_false_iff_ne.mpr c2
  have c2b1 : (a0_0.toList != ([] : List UInt8)) = true := bne_iff_ne.mpr c2
  obtain ⟨t131, A50, H⟩ := Zk H
  have A5 := Aside0.mk A50
  clear A50
  by_cases c6 : t131 = true
  ·subst c6
   rw [if_pos rfl] at H
   obtain ⟨t132, A70, H⟩ := Zk H
   have A7 := Aside0.mk A70
   clear A70
   by_cases c8 : t132 = true
   ·subst c8
    rw [if_pos rfl] at H
    obtain rfl := Option.some.inj H
    go_enter Tryz.func124, Tryz.ntmps124
    go_wp2_with (first | ((with_reducible refine gate_dst (N := 1) rfl ?_); refine Zbx (N := 1) (cs := #[.string a0_0, .string a0_1]) (t := 127) HB ?_; intro gb130 w9 HB BK130 GE130; have GW130 := GE130; have hcz10 := Zc2 BK130.out; have hfz10 := blk_frozen BK130.out) | (go_at_call 145; (with_reducible refine (utf_Right.calls a0_0 true _ ?side1 A5.out).mono ?_); (case side1 => exact ZGg HG HB GE130); rintro e w11 ⟨rfl, hb⟩; replace BK130 := Zx BK130 hb; replace HB := Zsg HB GE130 hb; try clear hb; have hcz12 := Zc2 BK130.out; have hfz12 := blk_frozen BK130.out) | (go_at_call 146; (with_reducible refine (strings_ContainsAny.calls a0_0 (⟨#[61, 0]⟩ : ByteArray) true _ ?side1 A7.out).mono ?_); (case side1 => exact ZGg HG HB GE130); rintro e w13 ⟨rfl, hb⟩; replace BK130 := Zx BK130 hb; replace HB := Zsg HB GE130 hb; try clear hb))
    go_ret
    exact ⟨Ze, Zhg HB GE130⟩
   ·replace c8 := Bool.eq_false_iff.mpr c8
    subst c8
    rw [Zf] at H
    obtain ⟨t133, A140, H⟩ := Zk H
    have A14 := Aside0.mk A140
    clear A140
    obtain rfl := Option.some.inj H
    go_enter Tryz.func124, Tryz.ntmps124
    go_wp2_with (first | ((with_reducible refine gate_dst (N := 1) rfl ?_); refine Zbx (N := 1) (cs := #[.string a0_0, .string a0_1]) (t := 127) HB ?_; intro gb130 w15 HB BK130 GE130; have GW130 := GE130; have hcz16 := Zc2 BK130.out; have hfz16 := blk_frozen BK130.out) | (go_at_call 145; (with_reducible refine (utf_Right.calls a0_0 true _ ?side1 A5.out).mono ?_); (case side1 => exact ZGg HG HB GE130); rintro e w17 ⟨rfl, hb⟩; replace BK130 := Zx BK130 hb; replace HB := Zsg HB GE130 hb; try clear hb; have hcz18 := Zc2 BK130.out; have hfz18 := blk_frozen BK130.out) | (go_at_call 146; (with_reducible refine (strings_ContainsAny.calls a0_0 (⟨#[61, 0]⟩ : ByteArray) false _ ?side1 A7.out).mono ?_); (case side1 => exact ZGg HG HB GE130); rintro e w19 ⟨rfl, hb⟩; replace BK130 := Zx BK130 hb; replace HB := Zsg HB GE130 hb; try clear hb; have hcz20 := Zc2 BK130.out; have hfz20 := blk_frozen BK130.out) | (go_at_call 147; (with_reducible refine (pax_value.calls k a0_0 a0_1 t133 _ ?side1 A14.out).mono ?_); (case side1 => exact ZGg HG HB GE130); rintro e w21 ⟨rfl, hb⟩; replace BK130 := Zx BK130 hb; replace HB := Zsg HB GE130 hb; try clear hb))
    go_ret
    exact ⟨Ze, Zhg HB GE130⟩
  ·replace c6 := Bool.eq_false_iff.mpr c6
   subst c6
   rw [Zf] at H
   obtain rfl := Option.some.inj H
   go_enter Tryz.func124, Tryz.ntmps124
   go_wp2_with (first | ((with_reducible refine gate_dst (N := 1) rfl ?_); refine Zbx (N := 1) (cs := #[.string a0_0, .string a0_1]) (t := 127) HB ?_; intro gb130 w22 HB BK130 GE130; have GW130 := GE130; have hcz23 := Zc2 BK130.out; have hfz23 := blk_frozen BK130.out) | (go_at_call 145; (with_reducible refine (utf_Right.calls a0_0 false _ ?side1 A5.out).mono ?_); (case side1 => exact ZGg HG HB GE130); rintro e w24 ⟨rfl, hb⟩; replace BK130 := Zx BK130 hb; replace HB := Zsg HB GE130 hb; try clear hb))
   go_ret
   exact ⟨Ze, Zhg HB GE130⟩
end Go.Proofs.YtddhkfdfhbpblaaGreatDoor.P
namespace Go.Proofs.YtddhkfdfhbpblaaGreatDoor.P
open Go.RowKit Go.Proofs.YtddhkfdfhbpblaaGreatDoorW.PrintWords Go.Proofs.YtddhkfdfhbpblaaGreatDoorW.PrintLast Go.Proofs.YtddhkfdfhbpblaaGreatDoorW.PrintMore
attribute [local go_sem] max2_int min2_int max_two min_two max_three min_three max_four min_four   -- for this text's walks alone
set_option linter.unusedVariables false
set_option linter.unusedSimpArgs false
def oakumref07_Keys.f  : Option (List ByteArray) := some (([(⟨#[112, 97, 116, 104]⟩ : ByteArray), (⟨#[108, 105, 110, 107, 112, 97, 116, 104]⟩ : ByteArray), (⟨#[117, 110, 97, 109, 101]⟩ : ByteArray), (⟨#[103, 110, 97, 109, 101]⟩ : ByteArray), (⟨#[117, 105, 100]⟩ : ByteArray), (⟨#[103, 105, 100]⟩ : ByteArray), (⟨#[115, 105, 122, 101]⟩ : ByteArray), (⟨#[109, 116, 105, 109, 101]⟩ : ByteArray)] : List ByteArray))
end Go.Proofs.YtddhkfdfhbpblaaGreatDoor.P
namespace Go.Proofs.YtddhkfdfhbpblaaGreatDoor.P
open Go.RowKit Go.Proofs.YtddhkfdfhbpblaaGreatDoorW.PrintWords Go.Proofs.YtddhkfdfhbpblaaGreatDoorW.PrintLast Go.Proofs.YtddhkfdfhbpblaaGreatDoorW.PrintMore
attribute [local go_sem] max2_int min2_int max_two min_two max_three min_three max_four min_four   -- for this text's walks alone
set_option linter.unusedVariables false
set_option linter.unusedSimpArgs false
def oakumref07_Which.l0 : Nat → ByteArray → List ByteArray → Int → Option (Int)
 | 0, _, _, _ => none
 | k + 1, x0, x3, x4 => if x4 < (x3.length : Int) then (if 0 ≤ x4 then (if (rdOf ByteArray.empty x3 x4).toList = x0.toList then (some x4) else (oakumref07_Which.l0 k x0 x3 (wrap64 (x4 + 1)))) else (none)) else (some (-1))
def oakumref07_Which.f (k : Nat) (a0 : ByteArray) : Option (Int) := (oakumref07_Keys.f).bind fun t301 => (oakumref07_Which.l0 k a0 t301 0)
end Go.Proofs.YtddhkfdfhbpblaaGreatDoor.P
namespace Go.Proofs.YtddhkfdfhbpblaaGreatDoor.P
open Go.RowKit Go.Proofs.YtddhkfdfhbpblaaGreatDoorW.PrintWords Go.Proofs.YtddhkfdfhbpblaaGreatDoorW.PrintLast Go.Proofs.YtddhkfdfhbpblaaGreatDoorW.PrintMore
attribute [local go_sem] max2_int min2_int max_two min_two max_three min_three max_four min_four   -- for this text's walks alone
set_option linter.unusedVariables false
set_option linter.unusedSimpArgs false
mutual
def oakumref07_Right.j0 : Nat → Bool → ByteArray → ByteArray → Option (Bool)
 | 0, _, _, _ => none
 | k + 1, x29, x330000, x330001 => if x29 = true then (some false) else (oakumref07_Right.l0 k 0 x330000 x330001)
def oakumref07_Right.l0 : Nat → Int → ByteArray → ByteArray → Option (Bool)
 | 0, _, _, _ => none
 | k + 1, x3, x330000, x330001 => if x3 < (x330000.size : Int) then (if 0 ≤ x3 then (if (bt x330000 x3) = 61 then (some false) else (oakumref07_Right.l0 k (wrap64 (x3 + 1)) x330000 x330001)) else (none)) else ((oakumref07_Which.f k x330000).bind fun t333 => (if x330001.toList = ([] : List UInt8) then (oakumref07_Right.j2 k t333 true x330000 x330001) else (oakumref07_Right.j2 k t333 (decide (t333 < 0)) x330000 x330001)))
def oakumref07_Right.j2 : Nat → Int → Bool → ByteArray → ByteArray → Option (Bool)
 | 0, _, _, _, _ => none
 | k + 1, x4, x51, x330000, x330001 => if x51 = true then (some true) else (if x4 < 4 then ((oakumref02_Clean.f x330001).bind fun t334 => (some t334)) else (if x4 < 7 then ((oakumref04_Number.f k x330001).bind fun bt335 => (some bt335.2)) else ((oakumref04_Time.f k x330001).bind fun bt337 => (some bt337.2.2))))
end
def oakumref07_Right.f (k : Nat) (a0_0 : ByteArray) (a0_1 : ByteArray) : Option (Bool) := if a0_0.toList = ([] : List UInt8) then (oakumref07_Right.j0 k true a0_0 a0_1) else ((oakumref05_First.f k a0_0).bind fun t330 => (if t330 ≥ 0 then (oakumref07_Right.j0 k true a0_0 a0_1) else ((oakumref05_First.f k a0_1).bind fun t331 => (if t331 ≥ 0 then (oakumref07_Right.j0 k true a0_0 a0_1) else ((oakumref02_Clean.f a0_0).bind fun t332 => (oakumref07_Right.j0 k (!t332) a0_0 a0_1))))))
end Go.Proofs.YtddhkfdfhbpblaaGreatDoor.P
namespace Go.Proofs.YtddhkfdfhbpblaaGreatDoor.P
open Go.RowKit Go.Proofs.YtddhkfdfhbpblaaGreatDoorW.PrintWords Go.Proofs.YtddhkfdfhbpblaaGreatDoorW.PrintLast Go.Proofs.YtddhkfdfhbpblaaGreatDoorW.PrintMore
attribute [local go_sem] max2_int min2_int max_two min_two max_three min_three max_four min_four   -- for this text's walks alone
set_option linter.unusedVariables false
set_option linter.unusedSimpArgs false
def text_Clean.f (a0 : ByteArray) : Option (Bool) := (strings_IndexByte.f a0 0).bind fun t374 => (some (decide (t374 < 0)))
set_option maxHeartbeats 8000000 in
set_option maxRecDepth 100000 in
theorem text_Clean.calls (a0 : ByteArray) (r : Bool) (w : World) (h : text_Clean.f a0 = some r) :
  Calls Tryz.prog 82 #[.string a0] w fun e w' => e = .returned (.bool r) ∧ Drawn0 w w' := by
 have H : ((strings_IndexByte.f a0 0).bind fun t374 => (some (decide (t374 < 0)))) = some r := h
 clear h
 obtain ⟨t374, A20, H⟩ := Zk H
 have A2 := Aside0.mk A20
 clear A20
 obtain rfl := Option.some.inj H
 go_enter Tryz.func82, Tryz.ntmps82
 go_wp2_with (first | ((with_reducible refine gate_callee (f := 123) rfl ?_); refine ZL 4 Tryz.func123 #[.string a0, .int .u8 0] ?_; (with_reducible refine (strings_IndexByte.calls a0 0 t374 _ A2.out).mono ?_); rintro e w' ⟨rfl, ⟨nd, rfl⟩⟩; refine ⟨_, rfl, ?_⟩))
 go_ret
 exact ⟨Zr, Zd⟩
end Go.Proofs.YtddhkfdfhbpblaaGreatDoor.P
namespace Go.Proofs.YtddhkfdfhbpblaaGreatDoor.P
open Go.RowKit Go.Proofs.YtddhkfdfhbpblaaGreatDoorW.PrintWords Go.Proofs.YtddhkfdfhbpblaaGreatDoorW.PrintLast Go.Proofs.YtddhkfdfhbpblaaGreatDoorW.PrintMore
def kPath : List UInt8 := [112, 97, 116, 104]
def kLink : List UInt8 := [108, 105, 110, 107, 112, 97, 116, 104]
def kUname : List UInt8 := [117, 110, 97, 109, 101]
def kGname : List UInt8 := [103, 110, 97, 109, 101]
def kUid : List UInt8 := [117, 105, 100]
def kGid : List UInt8 := [103, 105, 100]
def kSize : List UInt8 := [115, 105, 122, 101]
def kMtime : List UInt8 := [109, 116, 105, 109, 101]
def valOK (key v : List UInt8) : Bool :=
 if v = [] then true
 else if key = kPath ∨ key = kLink ∨ key = kUname ∨ key = kGname then cleanL v
 else if key = kUid ∨ key = kGid ∨ key = kSize then numOK v
 else if key = kMtime then timeOK v
 else true
def pairOK (key v : List UInt8) : Bool := !key.isEmpty && (okU key && (okU v && (!barL key && valOK key v)))
theorem clean_prog (s : ByteArray) : pax_clean.f s = some (cleanL s.data.toList) := by
 unfold pax_clean.f strings_IndexByte.f
 rw [Option.bind_some, show (0 : Int).toNat.toUInt8 = 0 from rfl, index_clean]
theorem value_prog (a v : ByteArray) (hv : v.size ≤ 2097152) (k : Nat) (hk : v.size + 20 ≤ k) : pax_value.f k a v = some (okU v.data.toList && valOK a.data.toList v.data.toList) := by
 obtain ⟨k, rfl⟩ : ∃ j, k = j + 2 := ⟨k - 2, by omega⟩
 unfold pax_value.f
 rw [right_prog v hv, Option.bind_some]
 simp only [Lib.toList_data]
 cases hu : okU v.data.toList with
 | false => rfl
 | true =>
  simp only [if_true, Bool.true_and]
  unfold valOK
  by_cases h0 : v.data.toList = []
  ·rw [if_pos h0, if_pos h0]
  ·rw [if_neg h0, if_neg h0]
   have hj0t : ∀ x11, pax_value.j0 (k + 2) v 0 x11 true = some (cleanL v.data.toList) := by
    intro x11
    simp only [pax_value.j0, if_true]
    rw [clean_prog]; rfl
   by_cases h1 : a.data.toList = kPath
   ·rw [if_pos (show a.data.toList = [112, 97, 116, 104] from h1), show (a.data.toList == [112, 97, 116, 104]) = true from beq_iff_eq.2 h1, if_pos (.inl h1)]
    exact hj0t a
   ·rw [if_neg (show ¬ a.data.toList = [112, 97, 116, 104] from h1)]
    by_cases h2 : a.data.toList = kLink
    ·rw [if_pos (show a.data.toList = [108, 105, 110, 107, 112, 97, 116, 104] from h2), show (a.data.toList == [108, 105, 110, 107, 112, 97, 116, 104]) = true from beq_iff_eq.2 h2, if_pos (.inr (.inl h2))]
     exact hj0t a
    ·rw [if_neg (show ¬ a.data.toList = [108, 105, 110, 107, 112, 97, 116, 104] from h2)]
     by_cases h3 : a.data.toList = kUname
     ·rw [if_pos (show a.data.toList = [117, 110, 97, 109, 101] from h3), show (a.data.toList == [117, 110, 97, 109, 101]) = true from beq_iff_eq.2 h3, if_pos (.inr (.inr (.inl h3)))]
      exact hj0t a
     ·rw [if_neg (show ¬ a.data.toList = [117, 110, 97, 109, 101] from h3)]
      by_cases h4 : a.data.toList = kGname
      ·rw [show (a.data.toList == [103, 110, 97, 109, 101]) = true from beq_iff_eq.2 h4, if_pos (.inr (.inr (.inr h4)))]
       exact hj0t a
      ·rw [show (a.data.toList == [103, 110, 97, 109, 101]) = false from beq_eq_false_iff_ne.2 h4, if_neg (by rintro (h | h | h | h) <;> contradiction)]
       have hnum : pax_value.j1 (k + 1) v 0 a true = some (numOK v.data.toList) := by
        simp only [pax_value.j1, if_true]
        obtain ⟨x, c, e1, e2⟩ := number_prog v (by omega)
        rw [e1, Option.bind_some, e2]
       simp only [pax_value.j0, Bool.false_eq_true, if_false, Lib.toList_data]
       by_cases h5 : a.data.toList = kUid
       ·rw [if_pos (show a.data.toList = [117, 105, 100] from h5), show (a.data.toList == [117, 105, 100]) = true from beq_iff_eq.2 h5, if_pos (.inl h5)]
        exact hnum
       ·rw [if_neg (show ¬ a.data.toList = [117, 105, 100] from h5)]
        by_cases h6 : a.data.toList = kGid
        ·rw [if_pos (show a.data.toList = [103, 105, 100] from h6), show (a.data.toList == [103, 105, 100]) = true from beq_iff_eq.2 h6, if_pos (.inr (.inl h6))]
         exact hnum
        ·rw [if_neg (show ¬ a.data.toList = [103, 105, 100] from h6)]
         by_cases h7 : a.data.toList = kSize
         ·rw [show (a.data.toList == [115, 105, 122, 101]) = true from beq_iff_eq.2 h7, if_pos (.inr (.inr h7))]
          exact hnum
         ·rw [show (a.data.toList == [115, 105, 122, 101]) = false from beq_eq_false_iff_ne.2 h7, if_neg (by rintro (h | h | h) <;> contradiction)]
          simp only [pax_value.j1, Bool.false_eq_true, if_false, Lib.toList_data]
          by_cases h8 : a.data.toList = kMtime
          ·rw [if_pos (show a.data.toList = [109, 116, 105, 109, 101] from h8), if_pos h8]
           obtain ⟨x, n, c, e1, e2⟩ := time_prog v hv k (by omega)
           rw [e1, Option.bind_some, e2]
          ·rw [if_neg (show ¬ a.data.toList = [109, 116, 105, 109, 101] from h8), if_neg h8]
           rfl
theorem pair_prog (a v : ByteArray) (ha : a.size ≤ 2097152) (hv : v.size ≤ 2097152) (k : Nat) (hk : v.size + 20 ≤ k) : pax_Right.f k a v = some (pairOK a.data.toList v.data.toList) := by
 unfold pax_Right.f pairOK
 simp only [Lib.toList_data]
 by_cases h0 : a.data.toList = []
 ·rw [if_pos h0, h0]; rfl
 ·rw [if_neg h0, right_prog a ha, Option.bind_some, show a.data.toList.isEmpty = false by cases h : a.data.toList; exact absurd h h0; rfl]
  cases hu : okU a.data.toList with
  | false => rfl
  | true =>
   simp only [if_true, Bool.true_and, Bool.not_false]
   unfold strings_ContainsAny.f
   rw [if_pos ⟨rfl, by omega⟩, Option.bind_some, value_prog a v hv k hk]
   cases barL a.data.toList <;> cases okU v.data.toList <;> rfl
def whI (l : List UInt8) : Int :=
 if kPath = l then 0 else if kLink = l then 1 else if kUname = l then 2 else if kGname = l then 3 else if kUid = l then 4 else if kGid = l then 5 else if kSize = l then 6 else if kMtime = l then 7 else -1
theorem which_step (s : ByteArray) (L : List ByteArray) (hL : L.length ≤ 100) (k i : Nat) (hi : i < L.length) :
  oakumref07_Which.l0 (k + 1) s L (i : Int) = if (rdOf ByteArray.empty L (i : Int)).data.toList = s.data.toList then some (i : Int) else oakumref07_Which.l0 k s L ((i + 1 : Nat) : Int) := by
 simp only [oakumref07_Which.l0]
 rw [if_pos (by omega), if_pos (by omega), show (i : Int) + 1 = ((i + 1 : Nat) : Int) by omega, w64n _ (by omega), Lib.toList_data, Lib.toList_data]
theorem which_is (s : ByteArray) (k : Nat) (hk : 10 ≤ k) : oakumref07_Which.f k s = some (whI s.data.toList) := by
 obtain ⟨k, rfl⟩ : ∃ j, k = j + 10 := ⟨k - 10, by omega⟩
 unfold oakumref07_Which.f oakumref07_Keys.f whI
 rw [Option.bind_some]
 obtain ⟨L, hL⟩ : ∃ L : List ByteArray, [(⟨#[112, 97, 116, 104]⟩ : ByteArray), (⟨#[108, 105, 110, 107, 112, 97, 116, 104]⟩ : ByteArray), (⟨#[117, 110, 97, 109, 101]⟩ : ByteArray), (⟨#[103, 110, 97, 109, 101]⟩ : ByteArray), (⟨#[117, 105, 100]⟩ : ByteArray), (⟨#[103, 105, 100]⟩ : ByteArray), (⟨#[115, 105, 122, 101]⟩ : ByteArray), (⟨#[109, 116, 105, 109, 101]⟩ : ByteArray)] = L := ⟨_, rfl⟩
 have hl : L.length = 8 := by rw [← hL]; rfl
 have d0 : (rdOf ByteArray.empty L ((0 : Nat) : Int)).data.toList = kPath := by rw [← hL]; rfl
 have d1 : (rdOf ByteArray.empty L ((1 : Nat) : Int)).data.toList = kLink := by rw [← hL]; rfl
 have d2 : (rdOf ByteArray.empty L ((2 : Nat) : Int)).data.toList = kUname := by rw [← hL]; rfl
 have d3 : (rdOf ByteArray.empty L ((3 : Nat) : Int)).data.toList = kGname := by rw [← hL]; rfl
 have d4 : (rdOf ByteArray.empty L ((4 : Nat) : Int)).data.toList = kUid := by rw [← hL]; rfl
 have d5 : (rdOf ByteArray.empty L ((5 : Nat) : Int)).data.toList = kGid := by rw [← hL]; rfl
 have d6 : (rdOf ByteArray.empty L ((6 : Nat) : Int)).data.toList = kSize := by rw [← hL]; rfl
 have d7 : (rdOf ByteArray.empty L ((7 : Nat) : Int)).data.toList = kMtime := by rw [← hL]; rfl
 have t0 := which_step s L (by omega) (k + 9) 0 (by omega)
 have t1 := which_step s L (by omega) (k + 8) 1 (by omega)
 have t2 := which_step s L (by omega) (k + 7) 2 (by omega)
 have t3 := which_step s L (by omega) (k + 6) 3 (by omega)
 have t4 := which_step s L (by omega) (k + 5) 4 (by omega)
 have t5 := which_step s L (by omega) (k + 4) 5 (by omega)
 have t6 := which_step s L (by omega) (k + 3) 6 (by omega)
 have t7 := which_step s L (by omega) (k + 2) 7 (by omega)
 have t8 : oakumref07_Which.l0 (k + 2) s L ((8 : Nat) : Int) = some (-1) := by
  simp only [oakumref07_Which.l0]
  rw [if_neg (by omega)]
 rw [d0] at t0
 rw [d1] at t1
 rw [d2] at t2
 rw [d3] at t3
 rw [d4] at t4
 rw [d5] at t5
 rw [d6] at t6
 rw [d7] at t7
 rw [hL]
 refine t0.trans ?_
 by_cases c0 : kPath = s.data.toList
 ·rw [if_pos c0, if_pos c0]; rfl
 rw [if_neg c0, if_neg c0]
 refine t1.trans ?_
 by_cases c1 : kLink = s.data.toList
 ·rw [if_pos c1, if_pos c1]; rfl
 rw [if_neg c1, if_neg c1]
 refine t2.trans ?_
 by_cases c2 : kUname = s.data.toList
 ·rw [if_pos c2, if_pos c2]; rfl
 rw [if_neg c2, if_neg c2]
 refine t3.trans ?_
 by_cases c3 : kGname = s.data.toList
 ·rw [if_pos c3, if_pos c3]; rfl
 rw [if_neg c3, if_neg c3]
 refine t4.trans ?_
 by_cases c4 : kUid = s.data.toList
 ·rw [if_pos c4, if_pos c4]; rfl
 rw [if_neg c4, if_neg c4]
 refine t5.trans ?_
 by_cases c5 : kGid = s.data.toList
 ·rw [if_pos c5, if_pos c5]; rfl
 rw [if_neg c5, if_neg c5]
 refine t6.trans ?_
 by_cases c6 : kSize = s.data.toList
 ·rw [if_pos c6, if_pos c6]; rfl
 rw [if_neg c6, if_neg c6]
 refine t7.trans ?_
 by_cases c7 : kMtime = s.data.toList
 ·rw [if_pos c7, if_pos c7]; rfl
 rw [if_neg c7, if_neg c7]
 exact t8
end Go.Proofs.YtddhkfdfhbpblaaGreatDoor.P
