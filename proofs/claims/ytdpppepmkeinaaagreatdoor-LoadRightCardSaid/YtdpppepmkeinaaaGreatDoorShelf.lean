/-
  DERIVED: THE SHELF's CONTRACTS AT THIS DUMP, IN PLAIN WORDS (tools/lay-plain.mjs out of 'TryzShelf.lean', which tools/lay-shelf.mjs wrote): THE SAME DECLARATIONS UNDER THE SAME NAMES: 'import', 'namespace', 'open', 'def', 'theorem' AND NOTHING ELSE: no command of the shelf's: FOR A HAND-IN. Each laying: the table of numbers ('.._ren') and one theorem, a field a fact of the dump's own or the kernel's comparison; each contract: ONE APPLICATION.
-/
import Derived.Shelf.Strings.Builder1
import Derived.Shelf.Strings.Trim
import Derived.Shelf.Small.Utf8
import Derived.Shelf.Small.Strs
import Derived.Shelf.Strings.BuilderF
import Derived.Shelf.Strings.BuilderK
import Derived.Shelf.Strings.BuilderRune
import Derived.Shelf.Utf8.AppendRune
import Derived.Shelf.Utf8.AppendRunePlain
import Derived.Shelf.Strconv.Atoi
import Derived.Shelf.Strconv.Itoa0
import Derived.Shelf.Strconv.Itoa1
import Derived.Shelf.LaysM
import Derived.Shelf.Strconv.Itoa2
import Derived.Shelf.Strconv.Itoa3
import Derived.Shelf.Strconv.AtoiErrFast
import Derived.Shelf.Strconv.ParseIntEmpty
import Derived.Shelf.Strconv.AtoiFail
import Derived.Shelf.Strconv.Clone
import Derived.Shelf.Strconv.SyntaxError
import Derived.Shelf.LaysC
import Derived.Shelf.Strconv.ToError
import Derived.Shelf.Strconv.Lower
import Derived.Shelf.Strconv.ParseUint10
import Derived.Shelf.Strconv.ParseUint10Empty
import Derived.Shelf.Strconv.ParseUint10Any
import Derived.Shelf.Strconv.ParseInt10
import Derived.Shelf.Strconv.AtoiLong
import Derived.Shelf.Strconv.AtoiInnerAll
import Derived.Shelf.Strconv.RangeError
import Derived.Shelf.Strconv.ToErrorRange
import Derived.Shelf.Strconv.AtoiAll
import Derived.Shelf.Strconv.ParseUintEmpty
import Derived.Shelf.Strconv.ParseUint10b64
import Derived.Shelf.Strconv.ParseUint10b32
import Derived.Shelf.Strconv.ParseUint10b16
import Derived.Shelf.Strconv.ParseUint10b8
import Derived.Shelf.Strconv.ParseUint10At
import Derived.Ground.MpProg
import Derived.Shelf.Pu.ParseUintPublic10
import Derived.Shelf.Pu.ErrVarParseUint
import Derived.Shelf.Strings.Search1
import Derived.Shelf.Strings.Search2
import Derived.Shelf.Strings.Cut
import Derived.Shelf.Strings.Shaped
import Derived.Shelf.GgClosure.StringsIndexFunc
import Derived.Shelf.GgClosure.StringsTrimFunc
import Derived.Ground.GgwProg
import Derived.Shelf.GgClosure.StringsIndexFuncTop
import Derived.Shelf.GgClosure.StringsRunes
import Derived.Shelf.Strings.Prefix
import Derived.Shelf.Unicode.Decode
import Derived.Shelf.Strings.Runes
import Derived.Shelf.Strings.AsciiSet
import Derived.Shelf.Unicode.DecodeSlow
import Derived.Shelf.Unicode.DecodeAny
import Derived.Shelf.Unicode.DecodeLast
import Derived.Shelf.Strings.FuncGrows
import Derived.Shelf.Strings.BuilderCap
import Derived.Test.YtdpppepmkeinaaaGreatDoorProg
namespace Go.Proofs
open Go.Shelf
def Tryz.lays169_ren : Go.Shelf.Ren := ⟨fun | 169 => 38 | n => n, fun | 70 => 70 | 9 => 9 | 0 => 0 | 72 => 73 | 37 => 71 | 127 => 110 | 3 => 3 | 5 => 5 | n => n, fun | n => n⟩
theorem Tryz.lays169 : Go.Proofs.Lays.n169 Tryz.prog Tryz.lays169_ren := {
  mixed := by kernel_rfl
  f169 := Tryz.func38.trans (congrArg some (by kernel_rfl))
  t0 := Tryz.underlying0
  a0 := Tryz.isAgg0
  z0 := Tryz.sizeOf0
  v0 := Tryz.zeroValue0
  t3 := Tryz.underlying3
  a3 := Tryz.isAgg3
  z3 := Tryz.sizeOf3
  v3 := Tryz.zeroValue3
  t9 := Tryz.underlying9
  a9 := Tryz.isAgg9
  z9 := Tryz.sizeOf9
  v9 := Tryz.zeroValue9
  t37 := Tryz.underlying71
  a37 := Tryz.isAgg71
  z37 := Tryz.sizeOf71
  v37 := Tryz.zeroValue71
  t70 := Tryz.underlying70
  a70 := Tryz.isAgg70
  z70 := Tryz.sizeOf70
  v70 := Tryz.zeroValue70
  t72 := Tryz.underlying73
  a72 := Tryz.isAgg73
  z72 := Tryz.sizeOf73
  v72 := Tryz.zeroValue73
  t127 := Tryz.underlying110
  a127 := Tryz.isAgg110
  z127 := Tryz.sizeOf110
  v127 := Tryz.zeroValue110 }
theorem Tryz.Builder_Extra_169 : Builder.Extra Tryz.prog Tryz.lays169_ren := {
  sizeBuilder := by kernel_rfl
  liesBuilder := by kernel_rfl
  t5 := Tryz.underlying5
  a5 := Tryz.isAgg5
  z5 := Tryz.sizeOf5
  v5 := Tryz.zeroValue5
  infoByte := by kernel_rfl
  cellsByte := by kernel_rfl
  sizeByte := by kernel_rfl
  neB5 := by decide }
open Go.RowKit in
open Go.RowKit in
open Go.RowKit in
open Go.RowKit in
open Go.RowKit in
def Tryz.lays161_ren : Go.Shelf.Ren := ⟨fun | 161 => 107 | 231 => 121 | 227 => 123 | 233 => 124 | 235 => 126 | 228 => 161 | 197 => 53 | 151 => 90 | 260 => 80 | 152 => 129 | 137 => 87 | 119 => 164 | 224 => 165 | 225 => 166 | 217 => 128 | 266 => 163 | n => n, fun | 9 => 9 | 4 => 4 | 3 => 3 | 5 => 5 | 117 => 259 | 116 => 258 | 0 => 0 | 124 => 262 | 105 => 107 | 21 => 21 | 119 => 246 | 46 => 83 | 139 => 249 | 138 => 248 | n => n, fun | 3 => 2 | 4 => 3 | n => n⟩
theorem Tryz.lays161 : Go.Proofs.Lays.n161 Tryz.prog Tryz.lays161_ren := {
  mixed := by kernel_rfl
  f119 := Tryz.func164.trans (congrArg some (by kernel_rfl))
  f137 := Tryz.func87.trans (congrArg some (by kernel_rfl))
  f151 := Tryz.func90.trans (congrArg some (by kernel_rfl))
  f152 := Tryz.func129.trans (congrArg some (by kernel_rfl))
  f161 := Tryz.func107.trans (congrArg some (by kernel_rfl))
  f197 := Tryz.func53.trans (congrArg some (by kernel_rfl))
  f217 := Tryz.func128.trans (congrArg some (by kernel_rfl))
  f224 := Tryz.func165.trans (congrArg some (by kernel_rfl))
  f225 := Tryz.func166.trans (congrArg some (by kernel_rfl))
  f227 := Tryz.func123.trans (congrArg some (by kernel_rfl))
  f228 := Tryz.func161.trans (congrArg some (by kernel_rfl))
  f231 := Tryz.func121.trans (congrArg some (by kernel_rfl))
  f233 := Tryz.func124.trans (congrArg some (by kernel_rfl))
  f235 := Tryz.func126.trans (congrArg some (by kernel_rfl))
  f260 := Tryz.func80.trans (congrArg some (by kernel_rfl))
  f266 := Tryz.func163.trans (congrArg some (by kernel_rfl))
  t0 := Tryz.underlying0
  a0 := Tryz.isAgg0
  z0 := Tryz.sizeOf0
  v0 := Tryz.zeroValue0
  t3 := Tryz.underlying3
  a3 := Tryz.isAgg3
  z3 := Tryz.sizeOf3
  v3 := Tryz.zeroValue3
  t4 := Tryz.underlying4
  a4 := Tryz.isAgg4
  z4 := Tryz.sizeOf4
  v4 := Tryz.zeroValue4
  t5 := Tryz.underlying5
  a5 := Tryz.isAgg5
  z5 := Tryz.sizeOf5
  v5 := Tryz.zeroValue5
  t9 := Tryz.underlying9
  a9 := Tryz.isAgg9
  z9 := Tryz.sizeOf9
  v9 := Tryz.zeroValue9
  t21 := Tryz.underlying21
  a21 := Tryz.isAgg21
  z21 := Tryz.sizeOf21
  v21 := Tryz.zeroValue21
  t46 := Tryz.underlying83
  a46 := Tryz.isAgg83
  z46 := Tryz.sizeOf83
  v46 := Tryz.zeroValue83
  t105 := Tryz.underlying107
  a105 := Tryz.isAgg107
  z105 := Tryz.sizeOf107
  v105 := Tryz.zeroValue107
  t116 := Tryz.underlying258
  a116 := Tryz.isAgg258
  z116 := Tryz.sizeOf258
  t117 := Tryz.underlying259
  a117 := Tryz.isAgg259
  z117 := Tryz.sizeOf259
  v117 := Tryz.zeroValue259
  t119 := Tryz.underlying246
  a119 := Tryz.isAgg246
  z119 := Tryz.sizeOf246
  t124 := Tryz.underlying262
  a124 := Tryz.isAgg262
  z124 := Tryz.sizeOf262
  v124 := Tryz.zeroValue262
  t138 := Tryz.underlying248
  a138 := Tryz.isAgg248
  z138 := Tryz.sizeOf248
  v138 := Tryz.zeroValue248
  t139 := Tryz.underlying249
  a139 := Tryz.isAgg249
  z139 := Tryz.sizeOf249
  v139 := Tryz.zeroValue249
  g3 := by kernel_rfl
  g4 := by kernel_rfl }
open Go.RowKit in
/-- strings.TrimLeft: "TrimLeft returns a slice of the string s with all leading Unicode code points contained in cutset removed.": AT A cutset OF ONE ASCII BYTE. The world is as it was. (LAID: no walk: one application.) -/
theorem Tryz.strings_TrimLeft_one (s : ByteArray) (c : UInt8) (hc : c.toNat < 128) (w : World) :
    Calls Tryz.prog 107 #[.string s, .string ⟨#[c]⟩] w fun e w' => e = .returned (.string ⟨(Lib.trimLeftB s.data.toList c).toArray⟩) ∧ w' = w := Any.strings_TrimLeft_one Tryz.lays161 s c hc w
def Tryz.lays162_ren : Go.Shelf.Ren := ⟨fun | 162 => 108 | 232 => 122 | 227 => 123 | 234 => 125 | 236 => 127 | 228 => 161 | 271 => 162 | 151 => 90 | 120 => 205 | 197 => 53 | 152 => 129 | 260 => 80 | 137 => 87 | 119 => 164 | 224 => 165 | 225 => 166 | 217 => 128 | 266 => 163 | n => n, fun | 9 => 9 | 4 => 4 | 3 => 3 | 5 => 5 | 117 => 259 | 116 => 258 | 0 => 0 | 124 => 262 | 21 => 21 | 105 => 107 | 46 => 83 | 119 => 246 | 139 => 249 | 138 => 248 | n => n, fun | 3 => 2 | 4 => 3 | n => n⟩
theorem Tryz.lays162 : Go.Proofs.Lays.n162 Tryz.prog Tryz.lays162_ren := {
  mixed := by kernel_rfl
  f119 := Tryz.func164.trans (congrArg some (by kernel_rfl))
  f120 := Tryz.func205.trans (congrArg some (by kernel_rfl))
  f137 := Tryz.func87.trans (congrArg some (by kernel_rfl))
  f151 := Tryz.func90.trans (congrArg some (by kernel_rfl))
  f152 := Tryz.func129.trans (congrArg some (by kernel_rfl))
  f162 := Tryz.func108.trans (congrArg some (by kernel_rfl))
  f197 := Tryz.func53.trans (congrArg some (by kernel_rfl))
  f217 := Tryz.func128.trans (congrArg some (by kernel_rfl))
  f224 := Tryz.func165.trans (congrArg some (by kernel_rfl))
  f225 := Tryz.func166.trans (congrArg some (by kernel_rfl))
  f227 := Tryz.func123.trans (congrArg some (by kernel_rfl))
  f228 := Tryz.func161.trans (congrArg some (by kernel_rfl))
  f232 := Tryz.func122.trans (congrArg some (by kernel_rfl))
  f234 := Tryz.func125.trans (congrArg some (by kernel_rfl))
  f236 := Tryz.func127.trans (congrArg some (by kernel_rfl))
  f260 := Tryz.func80.trans (congrArg some (by kernel_rfl))
  f266 := Tryz.func163.trans (congrArg some (by kernel_rfl))
  f271 := Tryz.func162.trans (congrArg some (by kernel_rfl))
  t0 := Tryz.underlying0
  a0 := Tryz.isAgg0
  z0 := Tryz.sizeOf0
  v0 := Tryz.zeroValue0
  t3 := Tryz.underlying3
  a3 := Tryz.isAgg3
  z3 := Tryz.sizeOf3
  v3 := Tryz.zeroValue3
  t4 := Tryz.underlying4
  a4 := Tryz.isAgg4
  z4 := Tryz.sizeOf4
  v4 := Tryz.zeroValue4
  t5 := Tryz.underlying5
  a5 := Tryz.isAgg5
  z5 := Tryz.sizeOf5
  v5 := Tryz.zeroValue5
  t9 := Tryz.underlying9
  a9 := Tryz.isAgg9
  z9 := Tryz.sizeOf9
  v9 := Tryz.zeroValue9
  t21 := Tryz.underlying21
  a21 := Tryz.isAgg21
  z21 := Tryz.sizeOf21
  v21 := Tryz.zeroValue21
  t46 := Tryz.underlying83
  a46 := Tryz.isAgg83
  z46 := Tryz.sizeOf83
  v46 := Tryz.zeroValue83
  t105 := Tryz.underlying107
  a105 := Tryz.isAgg107
  z105 := Tryz.sizeOf107
  v105 := Tryz.zeroValue107
  t116 := Tryz.underlying258
  a116 := Tryz.isAgg258
  z116 := Tryz.sizeOf258
  t117 := Tryz.underlying259
  a117 := Tryz.isAgg259
  z117 := Tryz.sizeOf259
  v117 := Tryz.zeroValue259
  t119 := Tryz.underlying246
  a119 := Tryz.isAgg246
  z119 := Tryz.sizeOf246
  t124 := Tryz.underlying262
  a124 := Tryz.isAgg262
  z124 := Tryz.sizeOf262
  v124 := Tryz.zeroValue262
  t138 := Tryz.underlying248
  a138 := Tryz.isAgg248
  z138 := Tryz.sizeOf248
  v138 := Tryz.zeroValue248
  t139 := Tryz.underlying249
  a139 := Tryz.isAgg249
  z139 := Tryz.sizeOf249
  v139 := Tryz.zeroValue249
  g3 := by kernel_rfl
  g4 := by kernel_rfl }
open Go.RowKit in
/-- strings.TrimRight: "TrimRight returns a slice of the string s, with all trailing Unicode code points contained in cutset removed.": AT A cutset OF ONE ASCII BYTE. The world is as it was. (LAID: no walk: one application.) -/
theorem Tryz.strings_TrimRight_one (s : ByteArray) (c : UInt8) (hc : c.toNat < 128) (w : World) (hs : s.size ≤ 9223372036854775807) :
    Calls Tryz.prog 108 #[.string s, .string ⟨#[c]⟩] w fun e w' => e = .returned (.string ⟨(Lib.trimRightB s.data.toList c).toArray⟩) ∧ w' = w := Any.strings_TrimRight_one Tryz.lays162 s c hc w hs
def Tryz.lays160_ren : Go.Shelf.Ren := ⟨fun | 160 => 86 | 232 => 122 | 231 => 121 | 227 => 123 | 234 => 125 | 233 => 124 | 236 => 127 | 235 => 126 | 228 => 161 | 271 => 162 | 151 => 90 | 197 => 53 | 120 => 205 | 152 => 129 | 260 => 80 | 137 => 87 | 119 => 164 | 224 => 165 | 225 => 166 | 217 => 128 | 266 => 163 | n => n, fun | 9 => 9 | 4 => 4 | 3 => 3 | 5 => 5 | 117 => 259 | 116 => 258 | 0 => 0 | 124 => 262 | 21 => 21 | 105 => 107 | 46 => 83 | 119 => 246 | 139 => 249 | 138 => 248 | n => n, fun | 3 => 2 | 4 => 3 | n => n⟩
theorem Tryz.lays160 : Go.Proofs.Lays.n160 Tryz.prog Tryz.lays160_ren := {
  mixed := by kernel_rfl
  f119 := Tryz.func164.trans (congrArg some (by kernel_rfl))
  f120 := Tryz.func205.trans (congrArg some (by kernel_rfl))
  f137 := Tryz.func87.trans (congrArg some (by kernel_rfl))
  f151 := Tryz.func90.trans (congrArg some (by kernel_rfl))
  f152 := Tryz.func129.trans (congrArg some (by kernel_rfl))
  f160 := Tryz.func86.trans (congrArg some (by kernel_rfl))
  f197 := Tryz.func53.trans (congrArg some (by kernel_rfl))
  f217 := Tryz.func128.trans (congrArg some (by kernel_rfl))
  f224 := Tryz.func165.trans (congrArg some (by kernel_rfl))
  f225 := Tryz.func166.trans (congrArg some (by kernel_rfl))
  f227 := Tryz.func123.trans (congrArg some (by kernel_rfl))
  f228 := Tryz.func161.trans (congrArg some (by kernel_rfl))
  f231 := Tryz.func121.trans (congrArg some (by kernel_rfl))
  f232 := Tryz.func122.trans (congrArg some (by kernel_rfl))
  f233 := Tryz.func124.trans (congrArg some (by kernel_rfl))
  f234 := Tryz.func125.trans (congrArg some (by kernel_rfl))
  f235 := Tryz.func126.trans (congrArg some (by kernel_rfl))
  f236 := Tryz.func127.trans (congrArg some (by kernel_rfl))
  f260 := Tryz.func80.trans (congrArg some (by kernel_rfl))
  f266 := Tryz.func163.trans (congrArg some (by kernel_rfl))
  f271 := Tryz.func162.trans (congrArg some (by kernel_rfl))
  t0 := Tryz.underlying0
  a0 := Tryz.isAgg0
  z0 := Tryz.sizeOf0
  v0 := Tryz.zeroValue0
  t3 := Tryz.underlying3
  a3 := Tryz.isAgg3
  z3 := Tryz.sizeOf3
  v3 := Tryz.zeroValue3
  t4 := Tryz.underlying4
  a4 := Tryz.isAgg4
  z4 := Tryz.sizeOf4
  v4 := Tryz.zeroValue4
  t5 := Tryz.underlying5
  a5 := Tryz.isAgg5
  z5 := Tryz.sizeOf5
  v5 := Tryz.zeroValue5
  t9 := Tryz.underlying9
  a9 := Tryz.isAgg9
  z9 := Tryz.sizeOf9
  v9 := Tryz.zeroValue9
  t21 := Tryz.underlying21
  a21 := Tryz.isAgg21
  z21 := Tryz.sizeOf21
  v21 := Tryz.zeroValue21
  t46 := Tryz.underlying83
  a46 := Tryz.isAgg83
  z46 := Tryz.sizeOf83
  v46 := Tryz.zeroValue83
  t105 := Tryz.underlying107
  a105 := Tryz.isAgg107
  z105 := Tryz.sizeOf107
  v105 := Tryz.zeroValue107
  t116 := Tryz.underlying258
  a116 := Tryz.isAgg258
  z116 := Tryz.sizeOf258
  t117 := Tryz.underlying259
  a117 := Tryz.isAgg259
  z117 := Tryz.sizeOf259
  v117 := Tryz.zeroValue259
  t119 := Tryz.underlying246
  a119 := Tryz.isAgg246
  z119 := Tryz.sizeOf246
  t124 := Tryz.underlying262
  a124 := Tryz.isAgg262
  z124 := Tryz.sizeOf262
  v124 := Tryz.zeroValue262
  t138 := Tryz.underlying248
  a138 := Tryz.isAgg248
  z138 := Tryz.sizeOf248
  v138 := Tryz.zeroValue248
  t139 := Tryz.underlying249
  a139 := Tryz.isAgg249
  z139 := Tryz.sizeOf249
  v139 := Tryz.zeroValue249
  g3 := by kernel_rfl
  g4 := by kernel_rfl }
open Go.RowKit in
/-- strings.Trim: "Trim returns a slice of the string s with all leading and trailing Unicode code points contained in cutset removed.": AT A cutset OF ONE ASCII BYTE. THE WORLD BEHIND IT: as it was, or (where s is not empty) with ONE DRAW MORE off the tape: the statement 'return trimLeftByte(trimRightByte(s, c), c)' draws its order of evaluation. (LAID: no walk: one application.) -/
theorem Tryz.strings_Trim_one (s : ByteArray) (c : UInt8) (hc : c.toNat < 128) (w : World) (hs : s.size ≤ 9223372036854775807) :
    Calls Tryz.prog 86 #[.string s, .string ⟨#[c]⟩] w fun e w' => e = .returned (.string ⟨(Lib.trimB s.data.toList c).toArray⟩) ∧ (w' = w ∨ w' = w.drew) := Any.strings_Trim_one Tryz.lays160 s c hc w hs
def Tryz.lays118_ren : Go.Shelf.Ren := ⟨fun | 118 => 297 | n => n, fun | 21 => 21 | 3 => 3 | 4 => 4 | n => n, fun | n => n⟩
theorem Tryz.lays118 : Go.Proofs.Lays.n118 Tryz.prog Tryz.lays118_ren := {
  mixed := by kernel_rfl
  f118 := Tryz.func297.trans (congrArg some (by kernel_rfl))
  t3 := Tryz.underlying3
  a3 := Tryz.isAgg3
  z3 := Tryz.sizeOf3
  v3 := Tryz.zeroValue3
  t4 := Tryz.underlying4
  a4 := Tryz.isAgg4
  z4 := Tryz.sizeOf4
  v4 := Tryz.zeroValue4
  t21 := Tryz.underlying21
  a21 := Tryz.isAgg21
  z21 := Tryz.sizeOf21
  v21 := Tryz.zeroValue21 }
/-- utf8.RuneLen: "RuneLen returns the number of bytes in the UTF-8 encoding of the rune. It returns -1 if the rune is not a valid value to encode in UTF-8.": IT RETURNS 'Lib.runeLen r'; the world is as it was. (LAID: no walk: one application.) -/
theorem Tryz.utf8_RuneLen (r : Int) (w : World) :
    Calls Tryz.prog 297 #[.int .i32 r] w fun e w' => e = .returned (.int .i64 (Lib.runeLen r)) ∧ w' = w := Any.utf8_RuneLen Tryz.lays118 r w
def Tryz.lays119_ren : Go.Shelf.Ren := ⟨fun | 119 => 164 | n => n, fun | 21 => 21 | 4 => 4 | n => n, fun | n => n⟩
theorem Tryz.lays119 : Go.Proofs.Lays.n119 Tryz.prog Tryz.lays119_ren := {
  mixed := by kernel_rfl
  f119 := Tryz.func164.trans (congrArg some (by kernel_rfl))
  t4 := Tryz.underlying4
  a4 := Tryz.isAgg4
  z4 := Tryz.sizeOf4
  v4 := Tryz.zeroValue4
  t21 := Tryz.underlying21
  a21 := Tryz.isAgg21
  z21 := Tryz.sizeOf21
  v21 := Tryz.zeroValue21 }
/-- utf8.ValidRune: "ValidRune reports whether r can be legally encoded as UTF-8. Code points that are out of range or a surrogate half are illegal.": IT RETURNS 'Lib.validRune r'; the world is as it was. (LAID: no walk: one application.) -/
theorem Tryz.utf8_ValidRune (r : Int) (w : World) :
    Calls Tryz.prog 164 #[.int .i32 r] w fun e w' => e = .returned (.bool (Lib.validRune r)) ∧ w' = w := Any.utf8_ValidRune Tryz.lays119 r w
def Tryz.lays137_ren : Go.Shelf.Ren := ⟨fun | 137 => 87 | 217 => 128 | 266 => 163 | n => n, fun | 9 => 9 | 5 => 5 | 3 => 3 | n => n, fun | n => n⟩
theorem Tryz.lays137 : Go.Proofs.Lays.n137 Tryz.prog Tryz.lays137_ren := {
  mixed := by kernel_rfl
  f137 := Tryz.func87.trans (congrArg some (by kernel_rfl))
  f217 := Tryz.func128.trans (congrArg some (by kernel_rfl))
  f266 := Tryz.func163.trans (congrArg some (by kernel_rfl))
  t3 := Tryz.underlying3
  a3 := Tryz.isAgg3
  z3 := Tryz.sizeOf3
  v3 := Tryz.zeroValue3
  t5 := Tryz.underlying5
  a5 := Tryz.isAgg5
  z5 := Tryz.sizeOf5
  v5 := Tryz.zeroValue5
  t9 := Tryz.underlying9
  a9 := Tryz.isAgg9
  z9 := Tryz.sizeOf9
  v9 := Tryz.zeroValue9 }
open Go.RowKit in
/-- strings.IndexByte: "IndexByte returns the index of the first instance of c in s, or -1 if c is not present in s.": IT RETURNS 'Lib.indexByte s c'; the world is as it was. (LAID: no walk: one application.) -/
theorem Tryz.strings_IndexByte (s : ByteArray) (c : Int) (w : World) :
    Calls Tryz.prog 87 #[.string s, .int .u8 c] w fun e w' => e = .returned (.int .i64 (Lib.indexByte s.data.toList c.toNat.toUInt8)) ∧ w' = w := Any.strings_IndexByte Tryz.lays137 s c w
open Go.RowKit in
open Go.RowKit in
open Go.RowKit in
open Go.RowKit in
open Go.RowKit in
open Go.RowKit in
/-- (*strings.Builder).String: "String returns the accumulated string.": WHATEVER THE BUILDER HOLDS; THE FORM '_k': OVER 'Lib.IsBuilderF' (a builder that 'String()' may have read), AND WITH THE FRAME THAT REACHES ABOVE THE BUILDER: 'Lib.OthersKept': every block that is not b and is no row of uint8's stands as it stood: the iterator of a range among them. (LAID: no walk: one application.) -/
theorem Tryz.Builder_String_any_k (B b : Nat) (l : List UInt8) (w : World) (h : Lib.IsBuilderF 73 5 B b (Lib.byteCells l) w) (hBw : B ≤ w.heap.size) :
    Calls Tryz.prog 38 #[.pointer (some ⟨b, 0, none⟩)] w fun e w' => e = .returned (.string ⟨l.toArray⟩) ∧ (Lib.IsBuilderF 73 5 B b (Lib.byteCells l) w' ∧ Below B w w' ∧ Lib.OthersKept 5 (some b) w w') := Any.Builder_String_any_k Tryz.lays169 Tryz.Builder_Extra_169 B b l w h hBw
open Go.RowKit in
def Tryz.lays242_ren : Go.Shelf.Ren := ⟨fun | 242 => 55 | 278 => 82 | n => n, fun | 37 => 71 | 21 => 21 | 51 => 180 | 4 => 4 | 5 => 5 | 46 => 83 | n => n, fun | n => n⟩
theorem Tryz.lays242 : Go.Proofs.Lays.n242 Tryz.prog Tryz.lays242_ren := {
  mixed := by kernel_rfl
  f242 := Tryz.func55.trans (congrArg some (by kernel_rfl))
  f278 := Tryz.func82.trans (congrArg some (by kernel_rfl))
  t4 := Tryz.underlying4
  a4 := Tryz.isAgg4
  z4 := Tryz.sizeOf4
  v4 := Tryz.zeroValue4
  t5 := Tryz.underlying5
  a5 := Tryz.isAgg5
  z5 := Tryz.sizeOf5
  v5 := Tryz.zeroValue5
  t21 := Tryz.underlying21
  a21 := Tryz.isAgg21
  z21 := Tryz.sizeOf21
  v21 := Tryz.zeroValue21
  t37 := Tryz.underlying71
  a37 := Tryz.isAgg71
  z37 := Tryz.sizeOf71
  v37 := Tryz.zeroValue71
  t46 := Tryz.underlying83
  a46 := Tryz.isAgg83
  z46 := Tryz.sizeOf83
  v46 := Tryz.zeroValue83
  t51 := Tryz.underlying180
  a51 := Tryz.isAgg180
  z51 := Tryz.sizeOf180
  v51 := Tryz.zeroValue180 }
open Go.RowKit in
/-- unicode/utf8.AppendRune: "AppendRune appends the UTF-8 encoding of r to the end of p and returns the extended buffer. If the rune is out of range, it appends the encoding of RuneError.": ONTO A ROW OF BYTES THAT THE CALL OWNS (its head frozen or not): EVERY int32: 'Lib.runeCells r' goes in behind what the row holds; the world: one new block (the bytes as the call's variadic argument), then what 'append' does to the row. (LAID: no walk: one application.) -/
theorem Tryz.utf8_AppendRune_row (B : Nat) (v : Value) (n : Nat) (xs : List Value) (r : Int) (hr0 : -2147483648 ≤ r) (hr1 : r ≤ 2147483647) (w : World) (hown : w.ownsRowF B 5 1 v n xs) (hlen : n + 4 ≤ 140737488355328) (hBw : B ≤ w.heap.size) :
    Calls Tryz.prog 55 #[v, .int .i32 r] w fun e w' => ∃ v', e = .returned v' ∧ w'.ownsRowF B 5 1 v' (n + (Lib.runeCells r).length) (xs ++ Lib.runeCells r) ∧ ∃ o, (w.alloc o).grownBy w' v.ownBlock := Any.utf8_AppendRune_row Tryz.lays242 (by kernel_rfl) B v n xs r hr0 hr1 w hown hlen hBw
open Go.RowKit in
open Go.RowKit in
open Go.RowKit in
open Go.RowKit in
open Go.Lib in
open Go.Lib in
open Go.Lib in
open Go.Lib in
open Go.RowKit Go.Sort Go.Lib in
open Go.RowKit Go.Sort Go.Lib in
open Go.RowKit Go.Sort Go.Lib in
open Go.RowKit Go.Sort Go.Lib in
open Go.RowKit Go.Sort Go.Lib in
def Tryz.laysM171_ren : Go.Shelf.Ren := ⟨fun | 171 => 95 | 243 => 137 | 246 => 175 | 283 => 210 | 284 => 211 | 285 => 212 | 286 => 213 | 129 => 240 | 317 => 239 | 318 => 241 | 319 => 242 | 320 => 243 | 337 => 265 | 338 => 266 | n => n, fun | 3 => 3 | 9 => 9 | 2 => 2 | 4 => 4 | 171 => 356 | 0 => 0 | 53 => 350 | 37 => 71 | 5 => 5 | 173 => 359 | 212 => 386 | 51 => 180 | 20 => 20 | 213 => 387 | 46 => 83 | 232 => 421 | 233 => 422 | n => n, fun | 17 => 7 | 18 => 8 | 19 => 9 | n => n⟩
theorem Tryz.laysM171 : Go.Proofs.LaysM.n171 Tryz.prog Tryz.laysM171_ren := {
  mixed := by kernel_rfl
  f129 := Tryz.func240.trans (congrArg some (by kernel_rfl))
  f171 := Tryz.func95.trans (congrArg some (by kernel_rfl))
  f243 := Tryz.func137.trans (congrArg some (by kernel_rfl))
  f246 := Tryz.func175.trans (congrArg some (by kernel_rfl))
  f283 := Tryz.func210.trans (congrArg some (by kernel_rfl))
  f284 := Tryz.func211.trans (congrArg some (by kernel_rfl))
  f285 := Tryz.func212.trans (congrArg some (by kernel_rfl))
  f286 := Tryz.func213.trans (congrArg some (by kernel_rfl))
  f317 := Tryz.func239.trans (congrArg some (by kernel_rfl))
  f318 := Tryz.func241.trans (congrArg some (by kernel_rfl))
  f319 := Tryz.func242.trans (congrArg some (by kernel_rfl))
  f320 := Tryz.func243.trans (congrArg some (by kernel_rfl))
  f337 := Tryz.func265.trans (congrArg some (by kernel_rfl))
  f338 := Tryz.func266.trans (congrArg some (by kernel_rfl))
  t0 := Tryz.underlying0
  a0 := Tryz.isAgg0
  z0 := Tryz.sizeOf0
  v0 := Tryz.zeroValue0
  t2 := Tryz.underlying2
  a2 := Tryz.isAgg2
  z2 := Tryz.sizeOf2
  v2 := Tryz.zeroValue2
  t3 := Tryz.underlying3
  a3 := Tryz.isAgg3
  z3 := Tryz.sizeOf3
  v3 := Tryz.zeroValue3
  t4 := Tryz.underlying4
  a4 := Tryz.isAgg4
  z4 := Tryz.sizeOf4
  v4 := Tryz.zeroValue4
  t5 := Tryz.underlying5
  a5 := Tryz.isAgg5
  z5 := Tryz.sizeOf5
  v5 := Tryz.zeroValue5
  t9 := Tryz.underlying9
  a9 := Tryz.isAgg9
  z9 := Tryz.sizeOf9
  v9 := Tryz.zeroValue9
  t20 := Tryz.underlying20
  a20 := Tryz.isAgg20
  z20 := Tryz.sizeOf20
  v20 := Tryz.zeroValue20
  t37 := Tryz.underlying71
  a37 := Tryz.isAgg71
  z37 := Tryz.sizeOf71
  v37 := Tryz.zeroValue71
  t46 := Tryz.underlying83
  a46 := Tryz.isAgg83
  z46 := Tryz.sizeOf83
  v46 := Tryz.zeroValue83
  t51 := Tryz.underlying180
  a51 := Tryz.isAgg180
  z51 := Tryz.sizeOf180
  v51 := Tryz.zeroValue180
  t53 := Tryz.underlying350
  a53 := Tryz.isAgg350
  z53 := Tryz.sizeOf350
  v53 := Tryz.zeroValue350
  t171 := Tryz.underlying356
  a171 := Tryz.isAgg356
  z171 := Tryz.sizeOf356
  v171 := Tryz.zeroValue356
  t173 := Tryz.underlying359
  a173 := Tryz.isAgg359
  z173 := Tryz.sizeOf359
  v173 := Tryz.zeroValue359
  t212 := Tryz.underlying386
  a212 := Tryz.isAgg386
  z212 := Tryz.sizeOf386
  v212 := Tryz.zeroValue386
  t213 := Tryz.underlying387
  a213 := Tryz.isAgg387
  z213 := Tryz.sizeOf387
  t232 := Tryz.underlying421
  a232 := Tryz.isAgg421
  z232 := Tryz.sizeOf421
  v232 := Tryz.zeroValue421
  t233 := Tryz.underlying422
  a233 := Tryz.isAgg422
  z233 := Tryz.sizeOf422
  v233 := Tryz.zeroValue422
  g17 := by kernel_rfl
  g18 := by kernel_rfl
  g19 := by kernel_rfl
  i0 := by kernel_rfl
  i2 := by kernel_rfl
  i3 := by kernel_rfl
  i4 := by kernel_rfl
  i5 := by kernel_rfl
  i9 := by kernel_rfl
  i20 := by kernel_rfl
  i37 := by kernel_rfl
  i46 := by kernel_rfl
  i51 := by kernel_rfl
  i53 := by kernel_rfl
  i171 := by kernel_rfl
  i173 := by kernel_rfl
  i212 := by kernel_rfl
  i232 := by kernel_rfl
  i233 := by kernel_rfl
  m17 := by kernel_rfl
  m18 := by kernel_rfl
  m19 := by kernel_rfl }
open Go.RowKit Go.Sort Go.Lib in
/-- strconv.Itoa: "Itoa is equivalent to FormatInt(int64(i), 10).": i's DECIMAL NUMERAL ('Lib.itoa': a '-' where i is negative, then the digits), FOR EVERY int. The world behind the call: the world before it, new blocks behind the heap (the library's 'var a [24]byte'), draws. (LAID: no walk: one application.) -/
theorem Tryz.strconv_Itoa (n : Int) (h0 : -9223372036854775808 ≤ n) (h1 : n ≤ 9223372036854775807) (w : World) (htab : Lib.TabIs Tryz.prog w "internal/strconv.uint64pow10" .u64 Lib.pow10Tab) :
    Calls Tryz.prog 95 #[.int .i64 n] w fun e w' => e = .returned (.string ⟨(Lib.itoa n).toArray⟩) ∧ ∃ k os, w' = grow (w.drewN k) os := Any.strconv_Itoa Tryz.laysM171 n h0 h1 w htab
open Go.RowKit Go.Sort Go.Lib in
open Go.RowKit in
open Go.RowKit in
open Go.RowKit in
open Go.RowKit in
open Go.RowKit in
open Go.RowKit in
def Tryz.laysC245_ren : Go.Shelf.Ren := ⟨fun | 245 => 136 | 279 => 171 | 280 => 172 | 281 => 173 | 282 => 174 | 316 => 208 | 171 => 95 | 205 => 209 | 243 => 137 | 246 => 175 | 283 => 210 | 284 => 211 | 285 => 212 | 286 => 213 | 129 => 240 | 317 => 239 | 318 => 241 | 319 => 242 | 320 => 243 | 337 => 265 | 338 => 266 | n => n, fun | 9 => 9 | 3 => 3 | 75 => 61 | 167 => 306 | 4 => 4 | 168 => 309 | 210 => 354 | 37 => 71 | 0 => 0 | 127 => 110 | 145 => 384 | 143 => 382 | 2 => 2 | 171 => 356 | 53 => 350 | 5 => 5 | 173 => 359 | 212 => 386 | 51 => 180 | 20 => 20 | 213 => 387 | 46 => 83 | 232 => 421 | 233 => 422 | 80 => 84 | n => n, fun | 15 => 5 | 16 => 6 | 17 => 7 | 18 => 8 | 19 => 9 | n => n⟩
theorem Tryz.laysC245 : Go.Proofs.LaysC.n245 Tryz.prog Tryz.laysC245_ren := {
  mixed := by kernel_rfl
  f129 := Tryz.func240.trans (congrArg some (by kernel_rfl))
  f171 := Tryz.func95.trans (congrArg some (by kernel_rfl))
  f205 := Tryz.func209.trans (congrArg some (by kernel_rfl))
  f243 := Tryz.func137.trans (congrArg some (by kernel_rfl))
  f245 := Tryz.func136.trans (congrArg some (by kernel_rfl))
  f246 := Tryz.func175.trans (congrArg some (by kernel_rfl))
  f279 := Tryz.func171.trans (congrArg some (by kernel_rfl))
  f280 := Tryz.func172.trans (congrArg some (by kernel_rfl))
  f281 := Tryz.func173.trans (congrArg some (by kernel_rfl))
  f282 := Tryz.func174.trans (congrArg some (by kernel_rfl))
  f283 := Tryz.func210.trans (congrArg some (by kernel_rfl))
  f284 := Tryz.func211.trans (congrArg some (by kernel_rfl))
  f285 := Tryz.func212.trans (congrArg some (by kernel_rfl))
  f286 := Tryz.func213.trans (congrArg some (by kernel_rfl))
  f316 := Tryz.func208.trans (congrArg some (by kernel_rfl))
  f317 := Tryz.func239.trans (congrArg some (by kernel_rfl))
  f318 := Tryz.func241.trans (congrArg some (by kernel_rfl))
  f319 := Tryz.func242.trans (congrArg some (by kernel_rfl))
  f320 := Tryz.func243.trans (congrArg some (by kernel_rfl))
  f337 := Tryz.func265.trans (congrArg some (by kernel_rfl))
  f338 := Tryz.func266.trans (congrArg some (by kernel_rfl))
  t0 := Tryz.underlying0
  a0 := Tryz.isAgg0
  z0 := Tryz.sizeOf0
  v0 := Tryz.zeroValue0
  t2 := Tryz.underlying2
  a2 := Tryz.isAgg2
  z2 := Tryz.sizeOf2
  v2 := Tryz.zeroValue2
  t3 := Tryz.underlying3
  a3 := Tryz.isAgg3
  z3 := Tryz.sizeOf3
  v3 := Tryz.zeroValue3
  t4 := Tryz.underlying4
  a4 := Tryz.isAgg4
  z4 := Tryz.sizeOf4
  v4 := Tryz.zeroValue4
  t5 := Tryz.underlying5
  a5 := Tryz.isAgg5
  z5 := Tryz.sizeOf5
  v5 := Tryz.zeroValue5
  t9 := Tryz.underlying9
  a9 := Tryz.isAgg9
  z9 := Tryz.sizeOf9
  v9 := Tryz.zeroValue9
  t20 := Tryz.underlying20
  a20 := Tryz.isAgg20
  z20 := Tryz.sizeOf20
  v20 := Tryz.zeroValue20
  t37 := Tryz.underlying71
  a37 := Tryz.isAgg71
  z37 := Tryz.sizeOf71
  v37 := Tryz.zeroValue71
  t46 := Tryz.underlying83
  a46 := Tryz.isAgg83
  z46 := Tryz.sizeOf83
  v46 := Tryz.zeroValue83
  t51 := Tryz.underlying180
  a51 := Tryz.isAgg180
  z51 := Tryz.sizeOf180
  v51 := Tryz.zeroValue180
  t53 := Tryz.underlying350
  a53 := Tryz.isAgg350
  z53 := Tryz.sizeOf350
  v53 := Tryz.zeroValue350
  t75 := Tryz.underlying61
  a75 := Tryz.isAgg61
  z75 := Tryz.sizeOf61
  v75 := Tryz.zeroValue61
  t127 := Tryz.underlying110
  a127 := Tryz.isAgg110
  z127 := Tryz.sizeOf110
  v127 := Tryz.zeroValue110
  t143 := Tryz.underlying382
  a143 := Tryz.isAgg382
  z143 := Tryz.sizeOf382
  v143 := Tryz.zeroValue382
  t145 := Tryz.underlying384
  a145 := Tryz.isAgg384
  z145 := Tryz.sizeOf384
  v145 := Tryz.zeroValue384
  t167 := Tryz.underlying306
  a167 := Tryz.isAgg306
  z167 := Tryz.sizeOf306
  v167 := Tryz.zeroValue306
  t168 := Tryz.underlying309
  a168 := Tryz.isAgg309
  z168 := Tryz.sizeOf309
  v168 := Tryz.zeroValue309
  t171 := Tryz.underlying356
  a171 := Tryz.isAgg356
  z171 := Tryz.sizeOf356
  v171 := Tryz.zeroValue356
  t173 := Tryz.underlying359
  a173 := Tryz.isAgg359
  z173 := Tryz.sizeOf359
  v173 := Tryz.zeroValue359
  t210 := Tryz.underlying354
  a210 := Tryz.isAgg354
  z210 := Tryz.sizeOf354
  v210 := Tryz.zeroValue354
  t212 := Tryz.underlying386
  a212 := Tryz.isAgg386
  z212 := Tryz.sizeOf386
  v212 := Tryz.zeroValue386
  t213 := Tryz.underlying387
  a213 := Tryz.isAgg387
  z213 := Tryz.sizeOf387
  t232 := Tryz.underlying421
  a232 := Tryz.isAgg421
  z232 := Tryz.sizeOf421
  v232 := Tryz.zeroValue421
  t233 := Tryz.underlying422
  a233 := Tryz.isAgg422
  z233 := Tryz.sizeOf422
  v233 := Tryz.zeroValue422
  g15 := by kernel_rfl
  g16 := by kernel_rfl
  g17 := by kernel_rfl
  g18 := by kernel_rfl
  g19 := by kernel_rfl
  t80 := Tryz.underlying84
  a80 := Tryz.isAgg84
  z80 := Tryz.sizeOf84
  v80 := Tryz.zeroValue84
  i0 := by kernel_rfl
  i2 := by kernel_rfl
  i3 := by kernel_rfl
  i4 := by kernel_rfl
  i5 := by kernel_rfl
  i9 := by kernel_rfl
  i20 := by kernel_rfl
  i37 := by kernel_rfl
  i46 := by kernel_rfl
  i51 := by kernel_rfl
  i53 := by kernel_rfl
  i75 := by kernel_rfl
  i80 := by kernel_rfl
  i127 := by kernel_rfl
  i143 := by kernel_rfl
  i145 := by kernel_rfl
  i167 := by kernel_rfl
  i168 := by kernel_rfl
  i171 := by kernel_rfl
  i173 := by kernel_rfl
  i210 := by kernel_rfl
  i212 := by kernel_rfl
  i232 := by kernel_rfl
  i233 := by kernel_rfl
  m15 := by kernel_rfl
  m16 := by kernel_rfl
  m17 := by kernel_rfl
  m18 := by kernel_rfl
  m19 := by kernel_rfl
  c0 := by kernel_rfl
  c2 := by kernel_rfl
  c3 := by kernel_rfl
  c4 := by kernel_rfl
  c5 := by kernel_rfl
  c9 := by kernel_rfl
  c20 := by kernel_rfl
  c37 := by kernel_rfl
  c46 := by kernel_rfl
  c51 := by kernel_rfl
  c53 := by kernel_rfl
  c75 := by kernel_rfl
  c80 := by kernel_rfl
  c127 := by kernel_rfl
  c143 := by kernel_rfl
  c145 := by kernel_rfl
  c167 := by kernel_rfl
  c168 := by kernel_rfl
  c171 := by kernel_rfl
  c173 := by kernel_rfl
  c210 := by kernel_rfl
  c212 := by kernel_rfl
  c213 := by kernel_rfl
  c232 := by kernel_rfl
  c233 := by kernel_rfl }
open Go.RowKit in
/-- strconv.toError, at the inner package's ErrSyntax: 'syntaxError(fn, s)' as an error: A *NumError IN A NEW BLOCK. (LAID: no walk: one application.) -/
theorem Tryz.strconv_toError_syntax (fn s : ByteArray) (base bits : Int) (ev : Value) (w : World) (hlim : s.size ≤ 281474976710656) (hv : w.cell? ⟨5, 0, none⟩ = some ev) (hev : ev = .nilIface ∨ ∃ te pe, ev = .iface te pe) :
    Calls Tryz.prog 136 #[.string fn, .string s, .int .i64 base, .int .i64 bits, .iface 306 (.int .i64 2)] w fun e w' => ∃ N, e = .returned (.iface 309 (.pointer (some ⟨N, 0, none⟩))) ∧ w.heap.size ≤ N ∧ w'.heap[N]? = some (.cells #[.string fn, .string s, ev] 354 (0, 0)) ∧ Below w.heap.size w w' := Any.strconv_toError_syntax Tryz.laysC245 fn s base bits ev w hlim hv hev
def Tryz.lays321_ren : Go.Shelf.Ren := ⟨fun | 321 => 237 | n => n, fun | 5 => 5 | n => n, fun | n => n⟩
theorem Tryz.lays321 : Go.Proofs.Lays.n321 Tryz.prog Tryz.lays321_ren := {
  mixed := by kernel_rfl
  f321 := Tryz.func237.trans (congrArg some (by kernel_rfl))
  t5 := Tryz.underlying5
  a5 := Tryz.isAgg5
  z5 := Tryz.sizeOf5
  v5 := Tryz.zeroValue5 }
open Go.RowKit in
/-- internal/strconv.lower: 'c | ('x' - 'X')': the bit 32 set. The world is as it was. (LAID: no walk: one application.) -/
theorem Tryz.internal_strconv_lower (c : Int) (w : World) :
    Calls Tryz.prog 237 #[.int .u8 c] w fun e w' => e = .returned (.int .u8 (bits .or .u8 c 32)) ∧ w' = w := Any.internal_strconv_lower Tryz.lays321 c w
open Go.RowKit in
open Go.RowKit in
open Go.RowKit in
open Go.RowKit in
open Go.RowKit in
open Go.RowKit in
open Go.RowKit in
def Tryz.laysC172_ren : Go.Shelf.Ren := ⟨fun | 172 => 94 | 244 => 135 | 245 => 136 | 247 => 170 | 279 => 171 | 280 => 172 | 281 => 173 | 282 => 174 | 287 => 207 | 316 => 208 | 171 => 95 | 205 => 209 | 321 => 237 | 322 => 238 | 243 => 137 | 246 => 175 | 283 => 210 | 284 => 211 | 285 => 212 | 286 => 213 | 129 => 240 | 317 => 239 | 318 => 241 | 319 => 242 | 320 => 243 | 337 => 265 | 338 => 266 | n => n, fun | 9 => 9 | 3 => 3 | 75 => 61 | 76 => 75 | 4 => 4 | 5 => 5 | 167 => 306 | 37 => 71 | 0 => 0 | 85 => 307 | 2 => 2 | 168 => 309 | 53 => 350 | 175 => 351 | 46 => 83 | 210 => 354 | 127 => 110 | 145 => 384 | 143 => 382 | 21 => 21 | 171 => 356 | 173 => 359 | 212 => 386 | 51 => 180 | 20 => 20 | 213 => 387 | 232 => 421 | 233 => 422 | 80 => 84 | n => n, fun | 15 => 5 | 16 => 6 | 17 => 7 | 18 => 8 | 19 => 9 | n => n⟩
theorem Tryz.laysC172 : Go.Proofs.LaysC.n172 Tryz.prog Tryz.laysC172_ren := {
  mixed := by kernel_rfl
  f129 := Tryz.func240.trans (congrArg some (by kernel_rfl))
  f171 := Tryz.func95.trans (congrArg some (by kernel_rfl))
  f172 := Tryz.func94.trans (congrArg some (by kernel_rfl))
  f205 := Tryz.func209.trans (congrArg some (by kernel_rfl))
  f243 := Tryz.func137.trans (congrArg some (by kernel_rfl))
  f244 := Tryz.func135.trans (congrArg some (by kernel_rfl))
  f245 := Tryz.func136.trans (congrArg some (by kernel_rfl))
  f246 := Tryz.func175.trans (congrArg some (by kernel_rfl))
  f247 := Tryz.func170.trans (congrArg some (by kernel_rfl))
  f279 := Tryz.func171.trans (congrArg some (by kernel_rfl))
  f280 := Tryz.func172.trans (congrArg some (by kernel_rfl))
  f281 := Tryz.func173.trans (congrArg some (by kernel_rfl))
  f282 := Tryz.func174.trans (congrArg some (by kernel_rfl))
  f283 := Tryz.func210.trans (congrArg some (by kernel_rfl))
  f284 := Tryz.func211.trans (congrArg some (by kernel_rfl))
  f285 := Tryz.func212.trans (congrArg some (by kernel_rfl))
  f286 := Tryz.func213.trans (congrArg some (by kernel_rfl))
  f287 := Tryz.func207.trans (congrArg some (by kernel_rfl))
  f316 := Tryz.func208.trans (congrArg some (by kernel_rfl))
  f317 := Tryz.func239.trans (congrArg some (by kernel_rfl))
  f318 := Tryz.func241.trans (congrArg some (by kernel_rfl))
  f319 := Tryz.func242.trans (congrArg some (by kernel_rfl))
  f320 := Tryz.func243.trans (congrArg some (by kernel_rfl))
  f321 := Tryz.func237.trans (congrArg some (by kernel_rfl))
  f322 := Tryz.func238.trans (congrArg some (by kernel_rfl))
  f337 := Tryz.func265.trans (congrArg some (by kernel_rfl))
  f338 := Tryz.func266.trans (congrArg some (by kernel_rfl))
  t0 := Tryz.underlying0
  a0 := Tryz.isAgg0
  z0 := Tryz.sizeOf0
  v0 := Tryz.zeroValue0
  t2 := Tryz.underlying2
  a2 := Tryz.isAgg2
  z2 := Tryz.sizeOf2
  v2 := Tryz.zeroValue2
  t3 := Tryz.underlying3
  a3 := Tryz.isAgg3
  z3 := Tryz.sizeOf3
  v3 := Tryz.zeroValue3
  t4 := Tryz.underlying4
  a4 := Tryz.isAgg4
  z4 := Tryz.sizeOf4
  v4 := Tryz.zeroValue4
  t5 := Tryz.underlying5
  a5 := Tryz.isAgg5
  z5 := Tryz.sizeOf5
  v5 := Tryz.zeroValue5
  t9 := Tryz.underlying9
  a9 := Tryz.isAgg9
  z9 := Tryz.sizeOf9
  v9 := Tryz.zeroValue9
  t20 := Tryz.underlying20
  a20 := Tryz.isAgg20
  z20 := Tryz.sizeOf20
  v20 := Tryz.zeroValue20
  t21 := Tryz.underlying21
  a21 := Tryz.isAgg21
  z21 := Tryz.sizeOf21
  v21 := Tryz.zeroValue21
  t37 := Tryz.underlying71
  a37 := Tryz.isAgg71
  z37 := Tryz.sizeOf71
  v37 := Tryz.zeroValue71
  t46 := Tryz.underlying83
  a46 := Tryz.isAgg83
  z46 := Tryz.sizeOf83
  v46 := Tryz.zeroValue83
  t51 := Tryz.underlying180
  a51 := Tryz.isAgg180
  z51 := Tryz.sizeOf180
  v51 := Tryz.zeroValue180
  t53 := Tryz.underlying350
  a53 := Tryz.isAgg350
  z53 := Tryz.sizeOf350
  v53 := Tryz.zeroValue350
  t75 := Tryz.underlying61
  a75 := Tryz.isAgg61
  z75 := Tryz.sizeOf61
  v75 := Tryz.zeroValue61
  t76 := Tryz.underlying75
  a76 := Tryz.isAgg75
  z76 := Tryz.sizeOf75
  v76 := Tryz.zeroValue75
  t85 := Tryz.underlying307
  a85 := Tryz.isAgg307
  z85 := Tryz.sizeOf307
  v85 := Tryz.zeroValue307
  t127 := Tryz.underlying110
  a127 := Tryz.isAgg110
  z127 := Tryz.sizeOf110
  v127 := Tryz.zeroValue110
  t143 := Tryz.underlying382
  a143 := Tryz.isAgg382
  z143 := Tryz.sizeOf382
  v143 := Tryz.zeroValue382
  t145 := Tryz.underlying384
  a145 := Tryz.isAgg384
  z145 := Tryz.sizeOf384
  v145 := Tryz.zeroValue384
  t167 := Tryz.underlying306
  a167 := Tryz.isAgg306
  z167 := Tryz.sizeOf306
  v167 := Tryz.zeroValue306
  t168 := Tryz.underlying309
  a168 := Tryz.isAgg309
  z168 := Tryz.sizeOf309
  v168 := Tryz.zeroValue309
  t171 := Tryz.underlying356
  a171 := Tryz.isAgg356
  z171 := Tryz.sizeOf356
  v171 := Tryz.zeroValue356
  t173 := Tryz.underlying359
  a173 := Tryz.isAgg359
  z173 := Tryz.sizeOf359
  v173 := Tryz.zeroValue359
  t175 := Tryz.underlying351
  a175 := Tryz.isAgg351
  z175 := Tryz.sizeOf351
  v175 := Tryz.zeroValue351
  t210 := Tryz.underlying354
  a210 := Tryz.isAgg354
  z210 := Tryz.sizeOf354
  v210 := Tryz.zeroValue354
  t212 := Tryz.underlying386
  a212 := Tryz.isAgg386
  z212 := Tryz.sizeOf386
  v212 := Tryz.zeroValue386
  t213 := Tryz.underlying387
  a213 := Tryz.isAgg387
  z213 := Tryz.sizeOf387
  t232 := Tryz.underlying421
  a232 := Tryz.isAgg421
  z232 := Tryz.sizeOf421
  v232 := Tryz.zeroValue421
  t233 := Tryz.underlying422
  a233 := Tryz.isAgg422
  z233 := Tryz.sizeOf422
  v233 := Tryz.zeroValue422
  g15 := by kernel_rfl
  g16 := by kernel_rfl
  g17 := by kernel_rfl
  g18 := by kernel_rfl
  g19 := by kernel_rfl
  t80 := Tryz.underlying84
  a80 := Tryz.isAgg84
  z80 := Tryz.sizeOf84
  v80 := Tryz.zeroValue84
  i0 := by kernel_rfl
  i2 := by kernel_rfl
  i3 := by kernel_rfl
  i4 := by kernel_rfl
  i5 := by kernel_rfl
  i9 := by kernel_rfl
  i20 := by kernel_rfl
  i21 := by kernel_rfl
  i37 := by kernel_rfl
  i46 := by kernel_rfl
  i51 := by kernel_rfl
  i53 := by kernel_rfl
  i75 := by kernel_rfl
  i76 := by kernel_rfl
  i80 := by kernel_rfl
  i85 := by kernel_rfl
  i127 := by kernel_rfl
  i143 := by kernel_rfl
  i145 := by kernel_rfl
  i167 := by kernel_rfl
  i168 := by kernel_rfl
  i171 := by kernel_rfl
  i173 := by kernel_rfl
  i175 := by kernel_rfl
  i210 := by kernel_rfl
  i212 := by kernel_rfl
  i232 := by kernel_rfl
  i233 := by kernel_rfl
  m15 := by kernel_rfl
  m16 := by kernel_rfl
  m17 := by kernel_rfl
  m18 := by kernel_rfl
  m19 := by kernel_rfl
  c0 := by kernel_rfl
  c2 := by kernel_rfl
  c3 := by kernel_rfl
  c4 := by kernel_rfl
  c5 := by kernel_rfl
  c9 := by kernel_rfl
  c20 := by kernel_rfl
  c21 := by kernel_rfl
  c37 := by kernel_rfl
  c46 := by kernel_rfl
  c51 := by kernel_rfl
  c53 := by kernel_rfl
  c75 := by kernel_rfl
  c76 := by kernel_rfl
  c80 := by kernel_rfl
  c85 := by kernel_rfl
  c127 := by kernel_rfl
  c143 := by kernel_rfl
  c145 := by kernel_rfl
  c167 := by kernel_rfl
  c168 := by kernel_rfl
  c171 := by kernel_rfl
  c173 := by kernel_rfl
  c175 := by kernel_rfl
  c210 := by kernel_rfl
  c212 := by kernel_rfl
  c213 := by kernel_rfl
  c232 := by kernel_rfl
  c233 := by kernel_rfl }
open Go.RowKit in
/-- strconv.Atoi, AT EVERY STRING THAT SPELLS AN int ('Lib.atoiAll .. = .ok v'; of whatever length: leading zeros count): v, AND NO ERROR. The world: as it was, or with the one new row that '[]byte(..)' lays. (LAID: no walk: one application.) -/
theorem Tryz.strconv_Atoi_ok (s : ByteArray) (hmax : s.size ≤ 9223372036854775806) (v : Int) (h : Lib.atoiAll s.data.toList = .ok v) (w : World) :
    Calls Tryz.prog 94 #[.string s] w fun e w' => e = .returned (.tuple #[.int .i64 v, .nilIface]) ∧ (w' = w ∨ ∃ t, w' = Lib.bytesWorld w 5 t) := Any.strconv_Atoi_ok Tryz.laysC172 s hmax v h w
open Go.RowKit in
/-- strconv.Atoi, AT EVERY STRING THAT IS NO DECIMAL NUMERAL (no number, and not too great): 0, AND AN ERROR THAT IS NOT nil: a *NumError in a new block N: {Func: "Atoi", Num: s's bytes, Err: what the variable ErrSyntax holds}. Of what was there nothing has turned. (LAID: no walk: one application.) -/
theorem Tryz.strconv_Atoi_syntax (s : ByteArray) (hlim : s.size ≤ 281474976710656) (h1 : ∀ v, Lib.atoiAll s.data.toList ≠ .ok v) (h2 : Lib.atoiAll s.data.toList ≠ .range) (ev : Value) (w : World) (hv : w.cell? ⟨5, 0, none⟩ = some ev) (hev : ev = .nilIface ∨ ∃ te pe, ev = .iface te pe) :
    Calls Tryz.prog 94 #[.string s] w fun e w' => ∃ N, e = .returned (.tuple #[.int .i64 (0), .iface 309 (.pointer (some ⟨N, 0, none⟩))]) ∧ w.heap.size ≤ N ∧ w'.heap[N]? = some (.cells #[.string ⟨#[65, 116, 111, 105]⟩, .string s, ev] 354 (0, 0)) ∧ Below w.heap.size w w' := by
  cases h : Lib.atoiAll s.data.toList with
  | ok v => exact absurd h (h1 v)
  | range => exact absurd h h2
  | _ => exact Any.strconv_Atoi_syntax Tryz.laysC172 s hlim h ev w hv hev
open Go.RowKit in
/-- strconv.Atoi, AT EVERY NUMERAL THAT NO int HOLDS ('.range'): THE GREATEST OR THE LEAST int, BY THE SIGN ('Lib.atoiSat'), AND AN ERROR THAT IS NOT nil: a *NumError in a new block N: {Func: "Atoi", Num: s's bytes, Err: what the variable ErrRange holds}. Of what was there nothing has turned. (LAID: no walk: one application.) -/
theorem Tryz.strconv_Atoi_range (s : ByteArray) (hlim : s.size ≤ 281474976710656) (h : Lib.atoiAll s.data.toList = .range) (ev : Value) (w : World) (hv : w.cell? ⟨6, 0, none⟩ = some ev) (hev : ev = .nilIface ∨ ∃ te pe, ev = .iface te pe) :
    Calls Tryz.prog 94 #[.string s] w fun e w' => ∃ N, e = .returned (.tuple #[.int .i64 (Lib.atoiSat s.data.toList), .iface 309 (.pointer (some ⟨N, 0, none⟩))]) ∧ w.heap.size ≤ N ∧ w'.heap[N]? = some (.cells #[.string ⟨#[65, 116, 111, 105]⟩, .string s, ev] 354 (0, 0)) ∧ Below w.heap.size w w' := Any.strconv_Atoi_range Tryz.laysC172 s hlim h ev w hv hev
open Go.RowKit in
open Go.RowKit in
open Go.RowKit in
open Go.RowKit in
open Go.RowKit in
open Go.RowKit in
open Go.RowKit in
open Go.RowKit in
open Go.RowKit in
open Go.RowKit in
open Go.RowKit in
open Go.RowKit in
open Go.RowKit in
open Go.RowKit in
open Go.RowKit in
open Go.RowKit in
open Go.RowKit in
open Go.RowKit in
open Go.RowKit in
open Go.RowKit in
open Go.RowKit in
open Go.RowKit in
open Go.RowKit in
open Go.RowKit in
open Go.RowKit in
open Go.RowKit Go.Lib in
open Go.RowKit Go.Lib in
open Go.RowKit Go.Lib in
open Go.RowKit Go.Lib in
open Go.RowKit Go.Lib in
open Go.RowKit Go.Lib in
open Go.RowKit Go.Lib in
def Tryz.lays145_ren : Go.Shelf.Ren := ⟨fun | 145 => 104 | 220 => 145 | 219 => 184 | 217 => 128 | 225 => 166 | 224 => 165 | 267 => 221 | 266 => 163 | 314 => 248 | n => n, fun | 9 => 9 | 4 => 4 | 59 => 208 | 3 => 3 | 5 => 5 | 46 => 83 | 146 => 391 | 51 => 180 | n => n, fun | 1 => 4 | n => n⟩
theorem Tryz.lays145 : Go.Proofs.Lays.n145 Tryz.prog Tryz.lays145_ren := {
  mixed := by kernel_rfl
  f145 := Tryz.func104.trans (congrArg some (by kernel_rfl))
  f217 := Tryz.func128.trans (congrArg some (by kernel_rfl))
  f219 := Tryz.func184.trans (congrArg some (by kernel_rfl))
  f220 := Tryz.func145.trans (congrArg some (by kernel_rfl))
  f224 := Tryz.func165.trans (congrArg some (by kernel_rfl))
  f225 := Tryz.func166.trans (congrArg some (by kernel_rfl))
  f266 := Tryz.func163.trans (congrArg some (by kernel_rfl))
  f267 := Tryz.func221.trans (congrArg some (by kernel_rfl))
  f314 := Tryz.func248.trans (congrArg some (by kernel_rfl))
  t3 := Tryz.underlying3
  a3 := Tryz.isAgg3
  z3 := Tryz.sizeOf3
  v3 := Tryz.zeroValue3
  t4 := Tryz.underlying4
  a4 := Tryz.isAgg4
  z4 := Tryz.sizeOf4
  v4 := Tryz.zeroValue4
  t5 := Tryz.underlying5
  a5 := Tryz.isAgg5
  z5 := Tryz.sizeOf5
  v5 := Tryz.zeroValue5
  t9 := Tryz.underlying9
  a9 := Tryz.isAgg9
  z9 := Tryz.sizeOf9
  v9 := Tryz.zeroValue9
  t46 := Tryz.underlying83
  a46 := Tryz.isAgg83
  z46 := Tryz.sizeOf83
  v46 := Tryz.zeroValue83
  t51 := Tryz.underlying180
  a51 := Tryz.isAgg180
  z51 := Tryz.sizeOf180
  v51 := Tryz.zeroValue180
  t59 := Tryz.underlying208
  a59 := Tryz.isAgg208
  z59 := Tryz.sizeOf208
  v59 := Tryz.zeroValue208
  t146 := Tryz.underlying391
  a146 := Tryz.isAgg391
  z146 := Tryz.sizeOf391
  v146 := Tryz.zeroValue391
  g1 := by kernel_rfl }
open Go.RowKit Go.Lib in
/-- strings.Cut: "Cut slices s around the first instance of sep, returning the text before and after sep. The found result reports whether sep appears in s. If sep does not appear in s, cut returns s, "", false.": IT RETURNS 'Lib.cut s sep'; the world is as it was but for the count of draws. (LAID: no walk: one application.) -/
theorem Tryz.strings_Cut (s sep : ByteArray) (m : Int) (w : World) (hs : s.size < 4294967281) (hm : w.cell? ⟨4, 0, none⟩ = some (.int .i64 m)) :
    Calls Tryz.prog 104 #[.string s, .string sep] w fun e w' => e = .returned (.tuple #[.string ⟨(Lib.cut s.data.toList sep.data.toList).1.toArray⟩, .string ⟨(Lib.cut s.data.toList sep.data.toList).2.1.toArray⟩, .bool (Lib.cut s.data.toList sep.data.toList).2.2]) ∧ ∃ n, w' = w.drewN n := Any.strings_Cut Tryz.lays145 s sep m w hs hm
open Go.RowKit Go.Lib in
open Go.RowKit Go.Lib in
def Tryz.laysM145_ren : Go.Shelf.Ren := ⟨fun | 145 => 104 | 220 => 145 | 219 => 184 | 217 => 128 | 225 => 166 | 224 => 165 | 267 => 221 | 266 => 163 | 314 => 248 | n => n, fun | 9 => 9 | 4 => 4 | 59 => 208 | 3 => 3 | 5 => 5 | 46 => 83 | 146 => 391 | 51 => 180 | n => n, fun | 1 => 4 | n => n⟩
theorem Tryz.laysM145 : Go.Proofs.LaysM.n145 Tryz.prog Tryz.laysM145_ren := {
  mixed := by kernel_rfl
  f145 := Tryz.func104.trans (congrArg some (by kernel_rfl))
  f217 := Tryz.func128.trans (congrArg some (by kernel_rfl))
  f219 := Tryz.func184.trans (congrArg some (by kernel_rfl))
  f220 := Tryz.func145.trans (congrArg some (by kernel_rfl))
  f224 := Tryz.func165.trans (congrArg some (by kernel_rfl))
  f225 := Tryz.func166.trans (congrArg some (by kernel_rfl))
  f266 := Tryz.func163.trans (congrArg some (by kernel_rfl))
  f267 := Tryz.func221.trans (congrArg some (by kernel_rfl))
  f314 := Tryz.func248.trans (congrArg some (by kernel_rfl))
  t3 := Tryz.underlying3
  a3 := Tryz.isAgg3
  z3 := Tryz.sizeOf3
  v3 := Tryz.zeroValue3
  t4 := Tryz.underlying4
  a4 := Tryz.isAgg4
  z4 := Tryz.sizeOf4
  v4 := Tryz.zeroValue4
  t5 := Tryz.underlying5
  a5 := Tryz.isAgg5
  z5 := Tryz.sizeOf5
  v5 := Tryz.zeroValue5
  t9 := Tryz.underlying9
  a9 := Tryz.isAgg9
  z9 := Tryz.sizeOf9
  v9 := Tryz.zeroValue9
  t46 := Tryz.underlying83
  a46 := Tryz.isAgg83
  z46 := Tryz.sizeOf83
  v46 := Tryz.zeroValue83
  t51 := Tryz.underlying180
  a51 := Tryz.isAgg180
  z51 := Tryz.sizeOf180
  v51 := Tryz.zeroValue180
  t59 := Tryz.underlying208
  a59 := Tryz.isAgg208
  z59 := Tryz.sizeOf208
  v59 := Tryz.zeroValue208
  t146 := Tryz.underlying391
  a146 := Tryz.isAgg391
  z146 := Tryz.sizeOf391
  v146 := Tryz.zeroValue391
  g1 := by kernel_rfl
  i3 := by kernel_rfl
  i4 := by kernel_rfl
  i5 := by kernel_rfl
  i9 := by kernel_rfl
  i46 := by kernel_rfl
  i51 := by kernel_rfl
  i59 := by kernel_rfl
  i146 := by kernel_rfl
  m1 := by kernel_rfl
  s1_3 := fun w h => Go.Proofs.cell_of_shapedOpen_int (zero := #[.int .i64 0]) (t := 3) h (of_decide_eq_true (by kernel_rfl)) (by kernel_rfl) rfl (by kernel_rfl) (by kernel_rfl) Tryz.underlying3 }
open Go.RowKit Go.Lib in
open Go.RowKit Go.Lib in
def Tryz.lays272_ren : Go.Shelf.Ren := ⟨fun | 272 => 270 | 315 => 206 | n => n, fun | 9 => 9 | 40 => 82 | 4 => 4 | 3 => 3 | 0 => 0 | 21 => 21 | n => n, fun | n => n⟩
theorem Tryz.lays272 : Go.Proofs.Lays.n272 Tryz.prog Tryz.lays272_ren := {
  mixed := by kernel_rfl
  f272 := Tryz.func270.trans (congrArg some (by kernel_rfl))
  f315 := Tryz.func206.trans (congrArg some (by kernel_rfl))
  t0 := Tryz.underlying0
  a0 := Tryz.isAgg0
  z0 := Tryz.sizeOf0
  v0 := Tryz.zeroValue0
  t3 := Tryz.underlying3
  a3 := Tryz.isAgg3
  z3 := Tryz.sizeOf3
  v3 := Tryz.zeroValue3
  t4 := Tryz.underlying4
  a4 := Tryz.isAgg4
  z4 := Tryz.sizeOf4
  v4 := Tryz.zeroValue4
  t9 := Tryz.underlying9
  a9 := Tryz.isAgg9
  z9 := Tryz.sizeOf9
  v9 := Tryz.zeroValue9
  t21 := Tryz.underlying21
  a21 := Tryz.isAgg21
  z21 := Tryz.sizeOf21
  v21 := Tryz.zeroValue21
  t40 := Tryz.underlying82
  a40 := Tryz.isAgg82
  z40 := Tryz.sizeOf82
  v40 := Tryz.zeroValue82 }
open Go.RowKit Go.Lib in
open Go.RowKit Go.Lib in
def Tryz.laysGw17_ren : Go.Shelf.Ren := ⟨fun | 17 => 134 | 15 => 169 | 20 => 206 | n => n, fun | 9 => 9 | 23 => 82 | 4 => 4 | 3 => 3 | 0 => 0 | 21 => 21 | n => n, fun | n => n⟩
theorem Tryz.laysGw17 : Go.Proofs.LaysGw.n17 Tryz.prog Tryz.laysGw17_ren := {
  mixed := by kernel_rfl
  f15 := Tryz.func169.trans (congrArg some (by kernel_rfl))
  f17 := Tryz.func134.trans (congrArg some (by kernel_rfl))
  f20 := Tryz.func206.trans (congrArg some (by kernel_rfl))
  t0 := Tryz.underlying0
  a0 := Tryz.isAgg0
  z0 := Tryz.sizeOf0
  v0 := Tryz.zeroValue0
  i0 := by kernel_rfl
  t3 := Tryz.underlying3
  a3 := Tryz.isAgg3
  z3 := Tryz.sizeOf3
  v3 := Tryz.zeroValue3
  i3 := by kernel_rfl
  t4 := Tryz.underlying4
  a4 := Tryz.isAgg4
  z4 := Tryz.sizeOf4
  v4 := Tryz.zeroValue4
  i4 := by kernel_rfl
  t9 := Tryz.underlying9
  a9 := Tryz.isAgg9
  z9 := Tryz.sizeOf9
  v9 := Tryz.zeroValue9
  i9 := by kernel_rfl
  t21 := Tryz.underlying21
  a21 := Tryz.isAgg21
  z21 := Tryz.sizeOf21
  v21 := Tryz.zeroValue21
  i21 := by kernel_rfl
  t23 := Tryz.underlying82
  a23 := Tryz.isAgg82
  z23 := Tryz.sizeOf82
  v23 := Tryz.zeroValue82
  i23 := by kernel_rfl }
open Go.RowKit Go.Lib in
open Go.RowKit Go.Lib in
open Go.RowKit Go.Lib in
open Go.RowKit Go.Lib in
open Go.RowKit Go.Lib in
def Tryz.lays206_ren : Go.Shelf.Ren := ⟨fun | 206 => 168 | n => n, fun | 9 => 9 | 4 => 4 | 3 => 3 | n => n, fun | n => n⟩
theorem Tryz.lays206 : Go.Proofs.Lays.n206 Tryz.prog Tryz.lays206_ren := {
  mixed := by kernel_rfl
  f206 := Tryz.func168.trans (congrArg some (by kernel_rfl))
  t3 := Tryz.underlying3
  a3 := Tryz.isAgg3
  z3 := Tryz.sizeOf3
  v3 := Tryz.zeroValue3
  t4 := Tryz.underlying4
  a4 := Tryz.isAgg4
  z4 := Tryz.sizeOf4
  v4 := Tryz.zeroValue4
  t9 := Tryz.underlying9
  a9 := Tryz.isAgg9
  z9 := Tryz.sizeOf9
  v9 := Tryz.zeroValue9 }
open Go.RowKit Go.Lib in
/-- internal/stringslite.HasPrefix (what strings.HasPrefix calls). (LAID: no walk: one application.) -/
theorem Tryz.stringslite_HasPrefix (s p : ByteArray) (w : World) :
    Calls Tryz.prog 168 #[.string s, .string p] w fun e w' => e = .returned (.bool (Lib.hasPrefix s.data.toList p.data.toList)) ∧ w' = w := Any.stringslite_HasPrefix Tryz.lays206 s p w
def Tryz.lays99_ren : Go.Shelf.Ren := ⟨fun | 99 => 132 | 206 => 168 | n => n, fun | 9 => 9 | 4 => 4 | 3 => 3 | n => n, fun | n => n⟩
theorem Tryz.lays99 : Go.Proofs.Lays.n99 Tryz.prog Tryz.lays99_ren := {
  mixed := by kernel_rfl
  f99 := Tryz.func132.trans (congrArg some (by kernel_rfl))
  f206 := Tryz.func168.trans (congrArg some (by kernel_rfl))
  t3 := Tryz.underlying3
  a3 := Tryz.isAgg3
  z3 := Tryz.sizeOf3
  v3 := Tryz.zeroValue3
  t4 := Tryz.underlying4
  a4 := Tryz.isAgg4
  z4 := Tryz.sizeOf4
  v4 := Tryz.zeroValue4
  t9 := Tryz.underlying9
  a9 := Tryz.isAgg9
  z9 := Tryz.sizeOf9
  v9 := Tryz.zeroValue9 }
open Go.RowKit Go.Lib in
/-- strings.HasPrefix: "HasPrefix reports whether the string s begins with prefix.": IT RETURNS 'Lib.hasPrefix s prefix'; the world is as it was. (LAID: no walk: one application.) -/
theorem Tryz.strings_HasPrefix (s p : ByteArray) (w : World) :
    Calls Tryz.prog 132 #[.string s, .string p] w fun e w' => e = .returned (.bool (Lib.hasPrefix s.data.toList p.data.toList)) ∧ w' = w := Any.strings_HasPrefix Tryz.lays99 s p w
open Go.RowKit Go.Lib in
def Tryz.lays101_ren : Go.Shelf.Ren := ⟨fun | 101 => 131 | 208 => 167 | 206 => 168 | n => n, fun | 9 => 9 | 4 => 4 | 3 => 3 | n => n, fun | n => n⟩
theorem Tryz.lays101 : Go.Proofs.Lays.n101 Tryz.prog Tryz.lays101_ren := {
  mixed := by kernel_rfl
  f101 := Tryz.func131.trans (congrArg some (by kernel_rfl))
  f206 := Tryz.func168.trans (congrArg some (by kernel_rfl))
  f208 := Tryz.func167.trans (congrArg some (by kernel_rfl))
  t3 := Tryz.underlying3
  a3 := Tryz.isAgg3
  z3 := Tryz.sizeOf3
  v3 := Tryz.zeroValue3
  t4 := Tryz.underlying4
  a4 := Tryz.isAgg4
  z4 := Tryz.sizeOf4
  v4 := Tryz.zeroValue4
  t9 := Tryz.underlying9
  a9 := Tryz.isAgg9
  z9 := Tryz.sizeOf9
  v9 := Tryz.zeroValue9 }
open Go.RowKit Go.Lib in
/-- strings.TrimPrefix: "TrimPrefix returns s without the provided leading prefix string. If s doesn't start with prefix, s is returned unchanged.": IT RETURNS 'Lib.trimPrefix s prefix'; the world is as it was. (LAID: no walk: one application.) -/
theorem Tryz.strings_TrimPrefix (s p : ByteArray) (w : World) :
    Calls Tryz.prog 131 #[.string s, .string p] w fun e w' => e = .returned (.string ⟨(Lib.trimPrefix s.data.toList p.data.toList).toArray⟩) ∧ w' = w := Any.strings_TrimPrefix Tryz.lays101 s p w
def Tryz.lays197_ren : Go.Shelf.Ren := ⟨fun | 197 => 53 | 260 => 80 | n => n, fun | 9 => 9 | 21 => 21 | 3 => 3 | 4 => 4 | 5 => 5 | 105 => 107 | 119 => 246 | 0 => 0 | 46 => 83 | 139 => 249 | 138 => 248 | n => n, fun | 3 => 2 | 4 => 3 | n => n⟩
theorem Tryz.lays197 : Go.Proofs.Lays.n197 Tryz.prog Tryz.lays197_ren := {
  mixed := by kernel_rfl
  f197 := Tryz.func53.trans (congrArg some (by kernel_rfl))
  f260 := Tryz.func80.trans (congrArg some (by kernel_rfl))
  t0 := Tryz.underlying0
  a0 := Tryz.isAgg0
  z0 := Tryz.sizeOf0
  v0 := Tryz.zeroValue0
  t3 := Tryz.underlying3
  a3 := Tryz.isAgg3
  z3 := Tryz.sizeOf3
  v3 := Tryz.zeroValue3
  t4 := Tryz.underlying4
  a4 := Tryz.isAgg4
  z4 := Tryz.sizeOf4
  v4 := Tryz.zeroValue4
  t5 := Tryz.underlying5
  a5 := Tryz.isAgg5
  z5 := Tryz.sizeOf5
  v5 := Tryz.zeroValue5
  t9 := Tryz.underlying9
  a9 := Tryz.isAgg9
  z9 := Tryz.sizeOf9
  v9 := Tryz.zeroValue9
  t21 := Tryz.underlying21
  a21 := Tryz.isAgg21
  z21 := Tryz.sizeOf21
  v21 := Tryz.zeroValue21
  t46 := Tryz.underlying83
  a46 := Tryz.isAgg83
  z46 := Tryz.sizeOf83
  v46 := Tryz.zeroValue83
  t105 := Tryz.underlying107
  a105 := Tryz.isAgg107
  z105 := Tryz.sizeOf107
  v105 := Tryz.zeroValue107
  t119 := Tryz.underlying246
  a119 := Tryz.isAgg246
  z119 := Tryz.sizeOf246
  t138 := Tryz.underlying248
  a138 := Tryz.isAgg248
  z138 := Tryz.sizeOf248
  v138 := Tryz.zeroValue248
  t139 := Tryz.underlying249
  a139 := Tryz.isAgg249
  z139 := Tryz.sizeOf249
  v139 := Tryz.zeroValue249
  g3 := by kernel_rfl
  g4 := by kernel_rfl }
open Go.RowKit Go.Lib in
open Go.RowKit Go.Lib in
def Tryz.lays151_ren : Go.Shelf.Ren := ⟨fun | 151 => 90 | 152 => 129 | 137 => 87 | 119 => 164 | 224 => 165 | 225 => 166 | 217 => 128 | 266 => 163 | n => n, fun | 9 => 9 | 21 => 21 | 4 => 4 | 3 => 3 | 5 => 5 | 0 => 0 | 46 => 83 | n => n, fun | n => n⟩
theorem Tryz.lays151 : Go.Proofs.Lays.n151 Tryz.prog Tryz.lays151_ren := {
  mixed := by kernel_rfl
  f119 := Tryz.func164.trans (congrArg some (by kernel_rfl))
  f137 := Tryz.func87.trans (congrArg some (by kernel_rfl))
  f151 := Tryz.func90.trans (congrArg some (by kernel_rfl))
  f152 := Tryz.func129.trans (congrArg some (by kernel_rfl))
  f217 := Tryz.func128.trans (congrArg some (by kernel_rfl))
  f224 := Tryz.func165.trans (congrArg some (by kernel_rfl))
  f225 := Tryz.func166.trans (congrArg some (by kernel_rfl))
  f266 := Tryz.func163.trans (congrArg some (by kernel_rfl))
  t0 := Tryz.underlying0
  a0 := Tryz.isAgg0
  z0 := Tryz.sizeOf0
  v0 := Tryz.zeroValue0
  t3 := Tryz.underlying3
  a3 := Tryz.isAgg3
  z3 := Tryz.sizeOf3
  v3 := Tryz.zeroValue3
  t4 := Tryz.underlying4
  a4 := Tryz.isAgg4
  z4 := Tryz.sizeOf4
  v4 := Tryz.zeroValue4
  t5 := Tryz.underlying5
  a5 := Tryz.isAgg5
  z5 := Tryz.sizeOf5
  v5 := Tryz.zeroValue5
  t9 := Tryz.underlying9
  a9 := Tryz.isAgg9
  z9 := Tryz.sizeOf9
  v9 := Tryz.zeroValue9
  t21 := Tryz.underlying21
  a21 := Tryz.isAgg21
  z21 := Tryz.sizeOf21
  v21 := Tryz.zeroValue21
  t46 := Tryz.underlying83
  a46 := Tryz.isAgg83
  z46 := Tryz.sizeOf83
  v46 := Tryz.zeroValue83 }
open Go.RowKit Go.Lib in
theorem Tryz.strings_ContainsRune_ascii (s : ByteArray) (r : Int) (w : World) (h0 : 0 ≤ r) (h1 : r < 128) :
    Calls Tryz.prog 90 #[.string s, .int .i32 r] w fun e w' => e = .returned (.bool (decide (0 ≤ Lib.indexByte s.data.toList r.toNat.toUInt8))) ∧ w' = w := Any.strings_ContainsRune_ascii Tryz.lays151 s r w h0 h1
open Go.RowKit Go.Lib in
open Go.RowKit Go.Lib in
open Go.RowKit Go.Lib in
open Go.RowKit Go.Lib in
/-- **unicode/utf8.DecodeRuneInString AT EVERY STRING.** (LAID: no walk: one application.) -/
theorem Tryz.utf8_DecodeRuneInString (s : ByteArray) (w : World) (hT : Lib.Utf8Tabs 2 3 w) :
    Calls Tryz.prog 53 #[.string s] w fun e w' => e = .returned (.tuple #[.int .i32 (Lib.decodeGo s).1, .int .i64 (Lib.decodeGo s).2]) ∧ Below w.heap.size w w' := Any.utf8_DecodeRuneInString Tryz.lays197 s w hT
open Go.RowKit Go.Lib in
open Go.RowKit Go.Lib in
open Go.RowKit Go.Lib in
theorem Tryz.strings_TrimLeftFunc_grows (g : Nat) (lb : Array Value) (eg : ∀ args w, (callFunc g args).run Tryz.prog w = .ok (.enter g args) w) (p : Nat → Bool) (s : ByteArray) (w : World) (hp : PredGrows Tryz.prog g lb p w) :
    Calls Tryz.prog 270 #[.string s, .func (.func g) #[] lb] w fun e w' => e = .returned (.string (Lib.trimLeftF p s)) ∧ Below w.heap.size w w' := Any.strings_TrimLeftFunc_grows Tryz.lays272 g lb eg p s w hp
open Go.RowKit Go.Lib in
open Go.RowKit Go.Lib in
theorem Tryz.strings_ContainsFunc_grows (g : Nat) (lb : Array Value) (eg : ∀ args w, (callFunc g args).run Tryz.prog w = .ok (.enter g args) w) (p : Nat → Bool) (s : ByteArray) (w : World) (hp : PredGrows Tryz.prog g lb p w) :
    Calls Tryz.prog 134 #[.string s, .func (.func g) #[] lb] w fun e w' => e = .returned (.bool (decide (0 ≤ Lib.idxFunc p true s))) ∧ Below w.heap.size w w' := Any.strings_ContainsFunc_grows Tryz.laysGw17 g lb eg p s w hp
end Go.Proofs
