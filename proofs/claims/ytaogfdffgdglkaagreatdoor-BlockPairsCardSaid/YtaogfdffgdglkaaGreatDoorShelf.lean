/-
  DERIVED: THE SHELF's CONTRACTS AT THIS DUMP, IN PLAIN WORDS (tools/lay-plain.mjs out of 'TryzShelf.lean', which tools/lay-shelf.mjs wrote): THE SAME DECLARATIONS UNDER THE SAME NAMES: 'import', 'namespace', 'open', 'def', 'theorem' AND NOTHING ELSE: no command of the shelf's: FOR A HAND-IN. Each laying: the table of numbers ('.._ren') and one theorem, a field a fact of the dump's own or the kernel's comparison; each contract: ONE APPLICATION.
-/
import Derived.Shelf.Strings.Builder1
import Derived.Shelf.Strings.Trim
import Derived.Shelf.Small.Utf8
import Derived.Shelf.Small.Strs
import Derived.Shelf.Strings.BuilderF
import Derived.Shelf.Strings.BuilderK
import Derived.Shelf.Strings.BuilderRune
import Derived.Shelf.Utf8.AppendRune
import Derived.Shelf.Utf8.AppendRunePlain
import Derived.Shelf.Strconv.Atoi
import Derived.Shelf.Strconv.Itoa0
import Derived.Shelf.Strconv.Itoa1
import Derived.Shelf.LaysM
import Derived.Shelf.Strconv.Itoa2
import Derived.Shelf.Strconv.Itoa3
import Derived.Shelf.Strconv.AtoiErrFast
import Derived.Shelf.Strconv.ParseIntEmpty
import Derived.Shelf.Strconv.AtoiFail
import Derived.Shelf.Strconv.Clone
import Derived.Shelf.Strconv.SyntaxError
import Derived.Shelf.LaysC
import Derived.Shelf.Strconv.ToError
import Derived.Shelf.Strconv.Lower
import Derived.Shelf.Strconv.ParseUint10
import Derived.Shelf.Strconv.ParseUint10Empty
import Derived.Shelf.Strconv.ParseUint10Any
import Derived.Shelf.Strconv.ParseInt10
import Derived.Shelf.Strconv.AtoiLong
import Derived.Shelf.Strconv.AtoiInnerAll
import Derived.Shelf.Strconv.RangeError
import Derived.Shelf.Strconv.ToErrorRange
import Derived.Shelf.Strconv.AtoiAll
import Derived.Shelf.Strconv.ParseUintEmpty
import Derived.Shelf.Strconv.ParseUint10b64
import Derived.Shelf.Strconv.ParseUint10b32
import Derived.Shelf.Strconv.ParseUint10b16
import Derived.Shelf.Strconv.ParseUint10b8
import Derived.Shelf.Strconv.ParseUint10At
import Derived.Ground.MpProg
import Derived.Shelf.Pu.ParseUintPublic10
import Derived.Shelf.Pu.ErrVarParseUint
import Derived.Shelf.Strings.Search1
import Derived.Shelf.Strings.Search2
import Derived.Shelf.Strings.Cut
import Derived.Shelf.Strings.Shaped
import Derived.Shelf.GgClosure.StringsIndexFunc
import Derived.Shelf.GgClosure.StringsTrimFunc
import Derived.Ground.GgwProg
import Derived.Shelf.GgClosure.StringsIndexFuncTop
import Derived.Shelf.GgClosure.StringsRunes
import Derived.Shelf.Strings.Prefix
import Derived.Shelf.Unicode.Decode
import Derived.Shelf.Strings.Runes
import Derived.Shelf.Strings.AsciiSet
import Derived.Shelf.Unicode.DecodeSlow
import Derived.Shelf.Unicode.DecodeAny
import Derived.Shelf.Unicode.DecodeLast
import Derived.Shelf.Strings.FuncGrows
import Derived.Shelf.Strings.BuilderCap
import Derived.Test.YtaogfdffgdglkaaGreatDoorProg
namespace Go.Proofs
open Go.Shelf
def Tryz.lays169_ren : Go.Shelf.Ren := ⟨fun | 169 => 38 | n => n, fun | 70 => 89 | 9 => 9 | 0 => 0 | 72 => 92 | 37 => 90 | 127 => 134 | 3 => 3 | 5 => 5 | n => n, fun | n => n⟩
theorem Tryz.lays169 : Go.Proofs.Lays.n169 Tryz.prog Tryz.lays169_ren := {
  mixed := by kernel_rfl
  f169 := Tryz.func38.trans (congrArg some (by kernel_rfl))
  t0 := Tryz.underlying0
  a0 := Tryz.isAgg0
  z0 := Tryz.sizeOf0
  v0 := Tryz.zeroValue0
  t3 := Tryz.underlying3
  a3 := Tryz.isAgg3
  z3 := Tryz.sizeOf3
  v3 := Tryz.zeroValue3
  t9 := Tryz.underlying9
  a9 := Tryz.isAgg9
  z9 := Tryz.sizeOf9
  v9 := Tryz.zeroValue9
  t37 := Tryz.underlying90
  a37 := Tryz.isAgg90
  z37 := Tryz.sizeOf90
  v37 := Tryz.zeroValue90
  t70 := Tryz.underlying89
  a70 := Tryz.isAgg89
  z70 := Tryz.sizeOf89
  v70 := Tryz.zeroValue89
  t72 := Tryz.underlying92
  a72 := Tryz.isAgg92
  z72 := Tryz.sizeOf92
  v72 := Tryz.zeroValue92
  t127 := Tryz.underlying134
  a127 := Tryz.isAgg134
  z127 := Tryz.sizeOf134
  v127 := Tryz.zeroValue134 }
theorem Tryz.Builder_Extra_169 : Builder.Extra Tryz.prog Tryz.lays169_ren := {
  sizeBuilder := by kernel_rfl
  liesBuilder := by kernel_rfl
  t5 := Tryz.underlying5
  a5 := Tryz.isAgg5
  z5 := Tryz.sizeOf5
  v5 := Tryz.zeroValue5
  infoByte := by kernel_rfl
  cellsByte := by kernel_rfl
  sizeByte := by kernel_rfl
  neB5 := by decide }
open Go.RowKit in
open Go.RowKit in
open Go.RowKit in
open Go.RowKit in
open Go.RowKit in
def Tryz.lays161_ren : Go.Shelf.Ren := ⟨fun | 161 => 60 | 231 => 92 | 227 => 93 | 233 => 94 | 235 => 95 | 228 => 127 | 197 => 55 | 151 => 128 | 260 => 89 | 152 => 153 | 137 => 170 | 119 => 171 | 224 => 150 | 225 => 149 | 217 => 148 | 266 => 168 | n => n, fun | 9 => 9 | 4 => 4 | 3 => 3 | 5 => 5 | 117 => 186 | 116 => 185 | 0 => 0 | 124 => 189 | 105 => 124 | 21 => 21 | 119 => 233 | 46 => 102 | 139 => 236 | 138 => 235 | n => n, fun | 3 => 1 | 4 => 2 | n => n⟩
theorem Tryz.lays161 : Go.Proofs.Lays.n161 Tryz.prog Tryz.lays161_ren := {
  mixed := by kernel_rfl
  f119 := Tryz.func171.trans (congrArg some (by kernel_rfl))
  f137 := Tryz.func170.trans (congrArg some (by kernel_rfl))
  f151 := Tryz.func128.trans (congrArg some (by kernel_rfl))
  f152 := Tryz.func153.trans (congrArg some (by kernel_rfl))
  f161 := Tryz.func60.trans (congrArg some (by kernel_rfl))
  f197 := Tryz.func55.trans (congrArg some (by kernel_rfl))
  f217 := Tryz.func148.trans (congrArg some (by kernel_rfl))
  f224 := Tryz.func150.trans (congrArg some (by kernel_rfl))
  f225 := Tryz.func149.trans (congrArg some (by kernel_rfl))
  f227 := Tryz.func93.trans (congrArg some (by kernel_rfl))
  f228 := Tryz.func127.trans (congrArg some (by kernel_rfl))
  f231 := Tryz.func92.trans (congrArg some (by kernel_rfl))
  f233 := Tryz.func94.trans (congrArg some (by kernel_rfl))
  f235 := Tryz.func95.trans (congrArg some (by kernel_rfl))
  f260 := Tryz.func89.trans (congrArg some (by kernel_rfl))
  f266 := Tryz.func168.trans (congrArg some (by kernel_rfl))
  t0 := Tryz.underlying0
  a0 := Tryz.isAgg0
  z0 := Tryz.sizeOf0
  v0 := Tryz.zeroValue0
  t3 := Tryz.underlying3
  a3 := Tryz.isAgg3
  z3 := Tryz.sizeOf3
  v3 := Tryz.zeroValue3
  t4 := Tryz.underlying4
  a4 := Tryz.isAgg4
  z4 := Tryz.sizeOf4
  v4 := Tryz.zeroValue4
  t5 := Tryz.underlying5
  a5 := Tryz.isAgg5
  z5 := Tryz.sizeOf5
  v5 := Tryz.zeroValue5
  t9 := Tryz.underlying9
  a9 := Tryz.isAgg9
  z9 := Tryz.sizeOf9
  v9 := Tryz.zeroValue9
  t21 := Tryz.underlying21
  a21 := Tryz.isAgg21
  z21 := Tryz.sizeOf21
  v21 := Tryz.zeroValue21
  t46 := Tryz.underlying102
  a46 := Tryz.isAgg102
  z46 := Tryz.sizeOf102
  v46 := Tryz.zeroValue102
  t105 := Tryz.underlying124
  a105 := Tryz.isAgg124
  z105 := Tryz.sizeOf124
  v105 := Tryz.zeroValue124
  t116 := Tryz.underlying185
  a116 := Tryz.isAgg185
  z116 := Tryz.sizeOf185
  t117 := Tryz.underlying186
  a117 := Tryz.isAgg186
  z117 := Tryz.sizeOf186
  v117 := Tryz.zeroValue186
  t119 := Tryz.underlying233
  a119 := Tryz.isAgg233
  z119 := Tryz.sizeOf233
  t124 := Tryz.underlying189
  a124 := Tryz.isAgg189
  z124 := Tryz.sizeOf189
  v124 := Tryz.zeroValue189
  t138 := Tryz.underlying235
  a138 := Tryz.isAgg235
  z138 := Tryz.sizeOf235
  v138 := Tryz.zeroValue235
  t139 := Tryz.underlying236
  a139 := Tryz.isAgg236
  z139 := Tryz.sizeOf236
  v139 := Tryz.zeroValue236
  g3 := by kernel_rfl
  g4 := by kernel_rfl }
open Go.RowKit in
/-- strings.TrimLeft: "TrimLeft returns a slice of the string s with all leading Unicode code points contained in cutset removed.": AT A cutset OF ONE ASCII BYTE. The world is as it was. (LAID: no walk: one application.) -/
theorem Tryz.strings_TrimLeft_one (s : ByteArray) (c : UInt8) (hc : c.toNat < 128) (w : World) :
    Calls Tryz.prog 60 #[.string s, .string ⟨#[c]⟩] w fun e w' => e = .returned (.string ⟨(Lib.trimLeftB s.data.toList c).toArray⟩) ∧ w' = w := Any.strings_TrimLeft_one Tryz.lays161 s c hc w
def Tryz.lays162_ren : Go.Shelf.Ren := ⟨fun | 162 => 61 | 232 => 96 | 227 => 93 | 234 => 97 | 236 => 98 | 228 => 127 | 271 => 129 | 151 => 128 | 120 => 154 | 197 => 55 | 152 => 153 | 260 => 89 | 137 => 170 | 119 => 171 | 224 => 150 | 225 => 149 | 217 => 148 | 266 => 168 | n => n, fun | 9 => 9 | 4 => 4 | 3 => 3 | 5 => 5 | 117 => 186 | 116 => 185 | 0 => 0 | 124 => 189 | 21 => 21 | 105 => 124 | 46 => 102 | 119 => 233 | 139 => 236 | 138 => 235 | n => n, fun | 3 => 1 | 4 => 2 | n => n⟩
theorem Tryz.lays162 : Go.Proofs.Lays.n162 Tryz.prog Tryz.lays162_ren := {
  mixed := by kernel_rfl
  f119 := Tryz.func171.trans (congrArg some (by kernel_rfl))
  f120 := Tryz.func154.trans (congrArg some (by kernel_rfl))
  f137 := Tryz.func170.trans (congrArg some (by kernel_rfl))
  f151 := Tryz.func128.trans (congrArg some (by kernel_rfl))
  f152 := Tryz.func153.trans (congrArg some (by kernel_rfl))
  f162 := Tryz.func61.trans (congrArg some (by kernel_rfl))
  f197 := Tryz.func55.trans (congrArg some (by kernel_rfl))
  f217 := Tryz.func148.trans (congrArg some (by kernel_rfl))
  f224 := Tryz.func150.trans (congrArg some (by kernel_rfl))
  f225 := Tryz.func149.trans (congrArg some (by kernel_rfl))
  f227 := Tryz.func93.trans (congrArg some (by kernel_rfl))
  f228 := Tryz.func127.trans (congrArg some (by kernel_rfl))
  f232 := Tryz.func96.trans (congrArg some (by kernel_rfl))
  f234 := Tryz.func97.trans (congrArg some (by kernel_rfl))
  f236 := Tryz.func98.trans (congrArg some (by kernel_rfl))
  f260 := Tryz.func89.trans (congrArg some (by kernel_rfl))
  f266 := Tryz.func168.trans (congrArg some (by kernel_rfl))
  f271 := Tryz.func129.trans (congrArg some (by kernel_rfl))
  t0 := Tryz.underlying0
  a0 := Tryz.isAgg0
  z0 := Tryz.sizeOf0
  v0 := Tryz.zeroValue0
  t3 := Tryz.underlying3
  a3 := Tryz.isAgg3
  z3 := Tryz.sizeOf3
  v3 := Tryz.zeroValue3
  t4 := Tryz.underlying4
  a4 := Tryz.isAgg4
  z4 := Tryz.sizeOf4
  v4 := Tryz.zeroValue4
  t5 := Tryz.underlying5
  a5 := Tryz.isAgg5
  z5 := Tryz.sizeOf5
  v5 := Tryz.zeroValue5
  t9 := Tryz.underlying9
  a9 := Tryz.isAgg9
  z9 := Tryz.sizeOf9
  v9 := Tryz.zeroValue9
  t21 := Tryz.underlying21
  a21 := Tryz.isAgg21
  z21 := Tryz.sizeOf21
  v21 := Tryz.zeroValue21
  t46 := Tryz.underlying102
  a46 := Tryz.isAgg102
  z46 := Tryz.sizeOf102
  v46 := Tryz.zeroValue102
  t105 := Tryz.underlying124
  a105 := Tryz.isAgg124
  z105 := Tryz.sizeOf124
  v105 := Tryz.zeroValue124
  t116 := Tryz.underlying185
  a116 := Tryz.isAgg185
  z116 := Tryz.sizeOf185
  t117 := Tryz.underlying186
  a117 := Tryz.isAgg186
  z117 := Tryz.sizeOf186
  v117 := Tryz.zeroValue186
  t119 := Tryz.underlying233
  a119 := Tryz.isAgg233
  z119 := Tryz.sizeOf233
  t124 := Tryz.underlying189
  a124 := Tryz.isAgg189
  z124 := Tryz.sizeOf189
  v124 := Tryz.zeroValue189
  t138 := Tryz.underlying235
  a138 := Tryz.isAgg235
  z138 := Tryz.sizeOf235
  v138 := Tryz.zeroValue235
  t139 := Tryz.underlying236
  a139 := Tryz.isAgg236
  z139 := Tryz.sizeOf236
  v139 := Tryz.zeroValue236
  g3 := by kernel_rfl
  g4 := by kernel_rfl }
open Go.RowKit in
/-- strings.TrimRight: "TrimRight returns a slice of the string s, with all trailing Unicode code points contained in cutset removed.": AT A cutset OF ONE ASCII BYTE. The world is as it was. (LAID: no walk: one application.) -/
theorem Tryz.strings_TrimRight_one (s : ByteArray) (c : UInt8) (hc : c.toNat < 128) (w : World) (hs : s.size ≤ 9223372036854775807) :
    Calls Tryz.prog 61 #[.string s, .string ⟨#[c]⟩] w fun e w' => e = .returned (.string ⟨(Lib.trimRightB s.data.toList c).toArray⟩) ∧ w' = w := Any.strings_TrimRight_one Tryz.lays162 s c hc w hs
def Tryz.lays160_ren : Go.Shelf.Ren := ⟨fun | 160 => 190 | 232 => 96 | 231 => 92 | 227 => 93 | 234 => 97 | 233 => 94 | 236 => 98 | 235 => 95 | 228 => 127 | 271 => 129 | 151 => 128 | 197 => 55 | 120 => 154 | 152 => 153 | 260 => 89 | 137 => 170 | 119 => 171 | 224 => 150 | 225 => 149 | 217 => 148 | 266 => 168 | n => n, fun | 9 => 9 | 4 => 4 | 3 => 3 | 5 => 5 | 117 => 186 | 116 => 185 | 0 => 0 | 124 => 189 | 21 => 21 | 105 => 124 | 46 => 102 | 119 => 233 | 139 => 236 | 138 => 235 | n => n, fun | 3 => 1 | 4 => 2 | n => n⟩
theorem Tryz.lays160 : Go.Proofs.Lays.n160 Tryz.prog Tryz.lays160_ren := {
  mixed := by kernel_rfl
  f119 := Tryz.func171.trans (congrArg some (by kernel_rfl))
  f120 := Tryz.func154.trans (congrArg some (by kernel_rfl))
  f137 := Tryz.func170.trans (congrArg some (by kernel_rfl))
  f151 := Tryz.func128.trans (congrArg some (by kernel_rfl))
  f152 := Tryz.func153.trans (congrArg some (by kernel_rfl))
  f160 := Tryz.func190.trans (congrArg some (by kernel_rfl))
  f197 := Tryz.func55.trans (congrArg some (by kernel_rfl))
  f217 := Tryz.func148.trans (congrArg some (by kernel_rfl))
  f224 := Tryz.func150.trans (congrArg some (by kernel_rfl))
  f225 := Tryz.func149.trans (congrArg some (by kernel_rfl))
  f227 := Tryz.func93.trans (congrArg some (by kernel_rfl))
  f228 := Tryz.func127.trans (congrArg some (by kernel_rfl))
  f231 := Tryz.func92.trans (congrArg some (by kernel_rfl))
  f232 := Tryz.func96.trans (congrArg some (by kernel_rfl))
  f233 := Tryz.func94.trans (congrArg some (by kernel_rfl))
  f234 := Tryz.func97.trans (congrArg some (by kernel_rfl))
  f235 := Tryz.func95.trans (congrArg some (by kernel_rfl))
  f236 := Tryz.func98.trans (congrArg some (by kernel_rfl))
  f260 := Tryz.func89.trans (congrArg some (by kernel_rfl))
  f266 := Tryz.func168.trans (congrArg some (by kernel_rfl))
  f271 := Tryz.func129.trans (congrArg some (by kernel_rfl))
  t0 := Tryz.underlying0
  a0 := Tryz.isAgg0
  z0 := Tryz.sizeOf0
  v0 := Tryz.zeroValue0
  t3 := Tryz.underlying3
  a3 := Tryz.isAgg3
  z3 := Tryz.sizeOf3
  v3 := Tryz.zeroValue3
  t4 := Tryz.underlying4
  a4 := Tryz.isAgg4
  z4 := Tryz.sizeOf4
  v4 := Tryz.zeroValue4
  t5 := Tryz.underlying5
  a5 := Tryz.isAgg5
  z5 := Tryz.sizeOf5
  v5 := Tryz.zeroValue5
  t9 := Tryz.underlying9
  a9 := Tryz.isAgg9
  z9 := Tryz.sizeOf9
  v9 := Tryz.zeroValue9
  t21 := Tryz.underlying21
  a21 := Tryz.isAgg21
  z21 := Tryz.sizeOf21
  v21 := Tryz.zeroValue21
  t46 := Tryz.underlying102
  a46 := Tryz.isAgg102
  z46 := Tryz.sizeOf102
  v46 := Tryz.zeroValue102
  t105 := Tryz.underlying124
  a105 := Tryz.isAgg124
  z105 := Tryz.sizeOf124
  v105 := Tryz.zeroValue124
  t116 := Tryz.underlying185
  a116 := Tryz.isAgg185
  z116 := Tryz.sizeOf185
  t117 := Tryz.underlying186
  a117 := Tryz.isAgg186
  z117 := Tryz.sizeOf186
  v117 := Tryz.zeroValue186
  t119 := Tryz.underlying233
  a119 := Tryz.isAgg233
  z119 := Tryz.sizeOf233
  t124 := Tryz.underlying189
  a124 := Tryz.isAgg189
  z124 := Tryz.sizeOf189
  v124 := Tryz.zeroValue189
  t138 := Tryz.underlying235
  a138 := Tryz.isAgg235
  z138 := Tryz.sizeOf235
  v138 := Tryz.zeroValue235
  t139 := Tryz.underlying236
  a139 := Tryz.isAgg236
  z139 := Tryz.sizeOf236
  v139 := Tryz.zeroValue236
  g3 := by kernel_rfl
  g4 := by kernel_rfl }
open Go.RowKit in
/-- strings.Trim: "Trim returns a slice of the string s with all leading and trailing Unicode code points contained in cutset removed.": AT A cutset OF ONE ASCII BYTE. THE WORLD BEHIND IT: as it was, or (where s is not empty) with ONE DRAW MORE off the tape: the statement 'return trimLeftByte(trimRightByte(s, c), c)' draws its order of evaluation. (LAID: no walk: one application.) -/
theorem Tryz.strings_Trim_one (s : ByteArray) (c : UInt8) (hc : c.toNat < 128) (w : World) (hs : s.size ≤ 9223372036854775807) :
    Calls Tryz.prog 190 #[.string s, .string ⟨#[c]⟩] w fun e w' => e = .returned (.string ⟨(Lib.trimB s.data.toList c).toArray⟩) ∧ (w' = w ∨ w' = w.drew) := Any.strings_Trim_one Tryz.lays160 s c hc w hs
def Tryz.lays118_ren : Go.Shelf.Ren := ⟨fun | 118 => 219 | n => n, fun | 21 => 21 | 3 => 3 | 4 => 4 | n => n, fun | n => n⟩
theorem Tryz.lays118 : Go.Proofs.Lays.n118 Tryz.prog Tryz.lays118_ren := {
  mixed := by kernel_rfl
  f118 := Tryz.func219.trans (congrArg some (by kernel_rfl))
  t3 := Tryz.underlying3
  a3 := Tryz.isAgg3
  z3 := Tryz.sizeOf3
  v3 := Tryz.zeroValue3
  t4 := Tryz.underlying4
  a4 := Tryz.isAgg4
  z4 := Tryz.sizeOf4
  v4 := Tryz.zeroValue4
  t21 := Tryz.underlying21
  a21 := Tryz.isAgg21
  z21 := Tryz.sizeOf21
  v21 := Tryz.zeroValue21 }
/-- utf8.RuneLen: "RuneLen returns the number of bytes in the UTF-8 encoding of the rune. It returns -1 if the rune is not a valid value to encode in UTF-8.": IT RETURNS 'Lib.runeLen r'; the world is as it was. (LAID: no walk: one application.) -/
theorem Tryz.utf8_RuneLen (r : Int) (w : World) :
    Calls Tryz.prog 219 #[.int .i32 r] w fun e w' => e = .returned (.int .i64 (Lib.runeLen r)) ∧ w' = w := Any.utf8_RuneLen Tryz.lays118 r w
def Tryz.lays119_ren : Go.Shelf.Ren := ⟨fun | 119 => 171 | n => n, fun | 21 => 21 | 4 => 4 | n => n, fun | n => n⟩
theorem Tryz.lays119 : Go.Proofs.Lays.n119 Tryz.prog Tryz.lays119_ren := {
  mixed := by kernel_rfl
  f119 := Tryz.func171.trans (congrArg some (by kernel_rfl))
  t4 := Tryz.underlying4
  a4 := Tryz.isAgg4
  z4 := Tryz.sizeOf4
  v4 := Tryz.zeroValue4
  t21 := Tryz.underlying21
  a21 := Tryz.isAgg21
  z21 := Tryz.sizeOf21
  v21 := Tryz.zeroValue21 }
/-- utf8.ValidRune: "ValidRune reports whether r can be legally encoded as UTF-8. Code points that are out of range or a surrogate half are illegal.": IT RETURNS 'Lib.validRune r'; the world is as it was. (LAID: no walk: one application.) -/
theorem Tryz.utf8_ValidRune (r : Int) (w : World) :
    Calls Tryz.prog 171 #[.int .i32 r] w fun e w' => e = .returned (.bool (Lib.validRune r)) ∧ w' = w := Any.utf8_ValidRune Tryz.lays119 r w
def Tryz.lays137_ren : Go.Shelf.Ren := ⟨fun | 137 => 170 | 217 => 148 | 266 => 168 | n => n, fun | 9 => 9 | 5 => 5 | 3 => 3 | n => n, fun | n => n⟩
theorem Tryz.lays137 : Go.Proofs.Lays.n137 Tryz.prog Tryz.lays137_ren := {
  mixed := by kernel_rfl
  f137 := Tryz.func170.trans (congrArg some (by kernel_rfl))
  f217 := Tryz.func148.trans (congrArg some (by kernel_rfl))
  f266 := Tryz.func168.trans (congrArg some (by kernel_rfl))
  t3 := Tryz.underlying3
  a3 := Tryz.isAgg3
  z3 := Tryz.sizeOf3
  v3 := Tryz.zeroValue3
  t5 := Tryz.underlying5
  a5 := Tryz.isAgg5
  z5 := Tryz.sizeOf5
  v5 := Tryz.zeroValue5
  t9 := Tryz.underlying9
  a9 := Tryz.isAgg9
  z9 := Tryz.sizeOf9
  v9 := Tryz.zeroValue9 }
open Go.RowKit in
/-- strings.IndexByte: "IndexByte returns the index of the first instance of c in s, or -1 if c is not present in s.": IT RETURNS 'Lib.indexByte s c'; the world is as it was. (LAID: no walk: one application.) -/
theorem Tryz.strings_IndexByte (s : ByteArray) (c : Int) (w : World) :
    Calls Tryz.prog 170 #[.string s, .int .u8 c] w fun e w' => e = .returned (.int .i64 (Lib.indexByte s.data.toList c.toNat.toUInt8)) ∧ w' = w := Any.strings_IndexByte Tryz.lays137 s c w
open Go.RowKit in
open Go.RowKit in
open Go.RowKit in
open Go.RowKit in
open Go.RowKit in
open Go.RowKit in
/-- (*strings.Builder).String: "String returns the accumulated string.": WHATEVER THE BUILDER HOLDS; THE FORM '_k': OVER 'Lib.IsBuilderF' (a builder that 'String()' may have read), AND WITH THE FRAME THAT REACHES ABOVE THE BUILDER: 'Lib.OthersKept': every block that is not b and is no row of uint8's stands as it stood: the iterator of a range among them. (LAID: no walk: one application.) -/
theorem Tryz.Builder_String_any_k (B b : Nat) (l : List UInt8) (w : World) (h : Lib.IsBuilderF 92 5 B b (Lib.byteCells l) w) (hBw : B ≤ w.heap.size) :
    Calls Tryz.prog 38 #[.pointer (some ⟨b, 0, none⟩)] w fun e w' => e = .returned (.string ⟨l.toArray⟩) ∧ (Lib.IsBuilderF 92 5 B b (Lib.byteCells l) w' ∧ Below B w w' ∧ Lib.OthersKept 5 (some b) w w') := Any.Builder_String_any_k Tryz.lays169 Tryz.Builder_Extra_169 B b l w h hBw
open Go.RowKit in
def Tryz.lays242_ren : Go.Shelf.Ren := ⟨fun | 242 => 63 | 278 => 100 | n => n, fun | 37 => 90 | 21 => 21 | 51 => 191 | 4 => 4 | 5 => 5 | 46 => 102 | n => n, fun | n => n⟩
theorem Tryz.lays242 : Go.Proofs.Lays.n242 Tryz.prog Tryz.lays242_ren := {
  mixed := by kernel_rfl
  f242 := Tryz.func63.trans (congrArg some (by kernel_rfl))
  f278 := Tryz.func100.trans (congrArg some (by kernel_rfl))
  t4 := Tryz.underlying4
  a4 := Tryz.isAgg4
  z4 := Tryz.sizeOf4
  v4 := Tryz.zeroValue4
  t5 := Tryz.underlying5
  a5 := Tryz.isAgg5
  z5 := Tryz.sizeOf5
  v5 := Tryz.zeroValue5
  t21 := Tryz.underlying21
  a21 := Tryz.isAgg21
  z21 := Tryz.sizeOf21
  v21 := Tryz.zeroValue21
  t37 := Tryz.underlying90
  a37 := Tryz.isAgg90
  z37 := Tryz.sizeOf90
  v37 := Tryz.zeroValue90
  t46 := Tryz.underlying102
  a46 := Tryz.isAgg102
  z46 := Tryz.sizeOf102
  v46 := Tryz.zeroValue102
  t51 := Tryz.underlying191
  a51 := Tryz.isAgg191
  z51 := Tryz.sizeOf191
  v51 := Tryz.zeroValue191 }
open Go.RowKit in
/-- unicode/utf8.AppendRune: "AppendRune appends the UTF-8 encoding of r to the end of p and returns the extended buffer. If the rune is out of range, it appends the encoding of RuneError.": ONTO A ROW OF BYTES THAT THE CALL OWNS (its head frozen or not): EVERY int32: 'Lib.runeCells r' goes in behind what the row holds; the world: one new block (the bytes as the call's variadic argument), then what 'append' does to the row. (LAID: no walk: one application.) -/
theorem Tryz.utf8_AppendRune_row (B : Nat) (v : Value) (n : Nat) (xs : List Value) (r : Int) (hr0 : -2147483648 ≤ r) (hr1 : r ≤ 2147483647) (w : World) (hown : w.ownsRowF B 5 1 v n xs) (hlen : n + 4 ≤ 140737488355328) (hBw : B ≤ w.heap.size) :
    Calls Tryz.prog 63 #[v, .int .i32 r] w fun e w' => ∃ v', e = .returned v' ∧ w'.ownsRowF B 5 1 v' (n + (Lib.runeCells r).length) (xs ++ Lib.runeCells r) ∧ ∃ o, (w.alloc o).grownBy w' v.ownBlock := Any.utf8_AppendRune_row Tryz.lays242 (by kernel_rfl) B v n xs r hr0 hr1 w hown hlen hBw
open Go.RowKit in
open Go.RowKit in
open Go.RowKit in
open Go.RowKit in
open Go.Lib in
open Go.Lib in
open Go.Lib in
open Go.Lib in
open Go.RowKit Go.Sort Go.Lib in
open Go.RowKit Go.Sort Go.Lib in
open Go.RowKit Go.Sort Go.Lib in
open Go.RowKit Go.Sort Go.Lib in
open Go.RowKit Go.Sort Go.Lib in
def Tryz.laysM171_ren : Go.Shelf.Ren := ⟨fun | 171 => 197 | 243 => 213 | 246 => 226 | 283 => 232 | 284 => 233 | 285 => 234 | 286 => 235 | 129 => 240 | 317 => 239 | 318 => 241 | 319 => 242 | 320 => 243 | 337 => 244 | 338 => 245 | n => n, fun | 3 => 3 | 9 => 9 | 2 => 2 | 4 => 4 | 171 => 345 | 0 => 0 | 53 => 338 | 37 => 90 | 5 => 5 | 173 => 348 | 212 => 355 | 51 => 191 | 20 => 20 | 213 => 356 | 46 => 102 | 232 => 359 | 233 => 360 | n => n, fun | 17 => 6 | 18 => 7 | 19 => 8 | n => n⟩
theorem Tryz.laysM171 : Go.Proofs.LaysM.n171 Tryz.prog Tryz.laysM171_ren := {
  mixed := by kernel_rfl
  f129 := Tryz.func240.trans (congrArg some (by kernel_rfl))
  f171 := Tryz.func197.trans (congrArg some (by kernel_rfl))
  f243 := Tryz.func213.trans (congrArg some (by kernel_rfl))
  f246 := Tryz.func226.trans (congrArg some (by kernel_rfl))
  f283 := Tryz.func232.trans (congrArg some (by kernel_rfl))
  f284 := Tryz.func233.trans (congrArg some (by kernel_rfl))
  f285 := Tryz.func234.trans (congrArg some (by kernel_rfl))
  f286 := Tryz.func235.trans (congrArg some (by kernel_rfl))
  f317 := Tryz.func239.trans (congrArg some (by kernel_rfl))
  f318 := Tryz.func241.trans (congrArg some (by kernel_rfl))
  f319 := Tryz.func242.trans (congrArg some (by kernel_rfl))
  f320 := Tryz.func243.trans (congrArg some (by kernel_rfl))
  f337 := Tryz.func244.trans (congrArg some (by kernel_rfl))
  f338 := Tryz.func245.trans (congrArg some (by kernel_rfl))
  t0 := Tryz.underlying0
  a0 := Tryz.isAgg0
  z0 := Tryz.sizeOf0
  v0 := Tryz.zeroValue0
  t2 := Tryz.underlying2
  a2 := Tryz.isAgg2
  z2 := Tryz.sizeOf2
  v2 := Tryz.zeroValue2
  t3 := Tryz.underlying3
  a3 := Tryz.isAgg3
  z3 := Tryz.sizeOf3
  v3 := Tryz.zeroValue3
  t4 := Tryz.underlying4
  a4 := Tryz.isAgg4
  z4 := Tryz.sizeOf4
  v4 := Tryz.zeroValue4
  t5 := Tryz.underlying5
  a5 := Tryz.isAgg5
  z5 := Tryz.sizeOf5
  v5 := Tryz.zeroValue5
  t9 := Tryz.underlying9
  a9 := Tryz.isAgg9
  z9 := Tryz.sizeOf9
  v9 := Tryz.zeroValue9
  t20 := Tryz.underlying20
  a20 := Tryz.isAgg20
  z20 := Tryz.sizeOf20
  v20 := Tryz.zeroValue20
  t37 := Tryz.underlying90
  a37 := Tryz.isAgg90
  z37 := Tryz.sizeOf90
  v37 := Tryz.zeroValue90
  t46 := Tryz.underlying102
  a46 := Tryz.isAgg102
  z46 := Tryz.sizeOf102
  v46 := Tryz.zeroValue102
  t51 := Tryz.underlying191
  a51 := Tryz.isAgg191
  z51 := Tryz.sizeOf191
  v51 := Tryz.zeroValue191
  t53 := Tryz.underlying338
  a53 := Tryz.isAgg338
  z53 := Tryz.sizeOf338
  v53 := Tryz.zeroValue338
  t171 := Tryz.underlying345
  a171 := Tryz.isAgg345
  z171 := Tryz.sizeOf345
  v171 := Tryz.zeroValue345
  t173 := Tryz.underlying348
  a173 := Tryz.isAgg348
  z173 := Tryz.sizeOf348
  v173 := Tryz.zeroValue348
  t212 := Tryz.underlying355
  a212 := Tryz.isAgg355
  z212 := Tryz.sizeOf355
  v212 := Tryz.zeroValue355
  t213 := Tryz.underlying356
  a213 := Tryz.isAgg356
  z213 := Tryz.sizeOf356
  t232 := Tryz.underlying359
  a232 := Tryz.isAgg359
  z232 := Tryz.sizeOf359
  v232 := Tryz.zeroValue359
  t233 := Tryz.underlying360
  a233 := Tryz.isAgg360
  z233 := Tryz.sizeOf360
  v233 := Tryz.zeroValue360
  g17 := by kernel_rfl
  g18 := by kernel_rfl
  g19 := by kernel_rfl
  i0 := by kernel_rfl
  i2 := by kernel_rfl
  i3 := by kernel_rfl
  i4 := by kernel_rfl
  i5 := by kernel_rfl
  i9 := by kernel_rfl
  i20 := by kernel_rfl
  i37 := by kernel_rfl
  i46 := by kernel_rfl
  i51 := by kernel_rfl
  i53 := by kernel_rfl
  i171 := by kernel_rfl
  i173 := by kernel_rfl
  i212 := by kernel_rfl
  i232 := by kernel_rfl
  i233 := by kernel_rfl
  m17 := by kernel_rfl
  m18 := by kernel_rfl
  m19 := by kernel_rfl }
open Go.RowKit Go.Sort Go.Lib in
/-- strconv.Itoa: "Itoa is equivalent to FormatInt(int64(i), 10).": i's DECIMAL NUMERAL ('Lib.itoa': a '-' where i is negative, then the digits), FOR EVERY int. The world behind the call: the world before it, new blocks behind the heap (the library's 'var a [24]byte'), draws. (LAID: no walk: one application.) -/
theorem Tryz.strconv_Itoa (n : Int) (h0 : -9223372036854775808 ≤ n) (h1 : n ≤ 9223372036854775807) (w : World) (htab : Lib.TabIs Tryz.prog w "internal/strconv.uint64pow10" .u64 Lib.pow10Tab) :
    Calls Tryz.prog 197 #[.int .i64 n] w fun e w' => e = .returned (.string ⟨(Lib.itoa n).toArray⟩) ∧ ∃ k os, w' = grow (w.drewN k) os := Any.strconv_Itoa Tryz.laysM171 n h0 h1 w htab
open Go.RowKit Go.Sort Go.Lib in
open Go.RowKit in
open Go.RowKit in
open Go.RowKit in
open Go.RowKit in
open Go.RowKit in
open Go.RowKit in
def Tryz.laysC245_ren : Go.Shelf.Ren := ⟨fun | 245 => 212 | 279 => 222 | 280 => 223 | 281 => 224 | 282 => 225 | 316 => 230 | 171 => 197 | 205 => 231 | 243 => 213 | 246 => 226 | 283 => 232 | 284 => 233 | 285 => 234 | 286 => 235 | 129 => 240 | 317 => 239 | 318 => 241 | 319 => 242 | 320 => 243 | 337 => 244 | 338 => 245 | n => n, fun | 9 => 9 | 3 => 3 | 75 => 51 | 167 => 329 | 4 => 4 | 168 => 332 | 210 => 343 | 37 => 90 | 0 => 0 | 127 => 134 | 145 => 353 | 143 => 351 | 2 => 2 | 171 => 345 | 53 => 338 | 5 => 5 | 173 => 348 | 212 => 355 | 51 => 191 | 20 => 20 | 213 => 356 | 46 => 102 | 232 => 359 | 233 => 360 | 80 => 103 | n => n, fun | 15 => 4 | 16 => 5 | 17 => 6 | 18 => 7 | 19 => 8 | n => n⟩
theorem Tryz.laysC245 : Go.Proofs.LaysC.n245 Tryz.prog Tryz.laysC245_ren := {
  mixed := by kernel_rfl
  f129 := Tryz.func240.trans (congrArg some (by kernel_rfl))
  f171 := Tryz.func197.trans (congrArg some (by kernel_rfl))
  f205 := Tryz.func231.trans (congrArg some (by kernel_rfl))
  f243 := Tryz.func213.trans (congrArg some (by kernel_rfl))
  f245 := Tryz.func212.trans (congrArg some (by kernel_rfl))
  f246 := Tryz.func226.trans (congrArg some (by kernel_rfl))
  f279 := Tryz.func222.trans (congrArg some (by kernel_rfl))
  f280 := Tryz.func223.trans (congrArg some (by kernel_rfl))
  f281 := Tryz.func224.trans (congrArg some (by kernel_rfl))
  f282 := Tryz.func225.trans (congrArg some (by kernel_rfl))
  f283 := Tryz.func232.trans (congrArg some (by kernel_rfl))
  f284 := Tryz.func233.trans (congrArg some (by kernel_rfl))
  f285 := Tryz.func234.trans (congrArg some (by kernel_rfl))
  f286 := Tryz.func235.trans (congrArg some (by kernel_rfl))
  f316 := Tryz.func230.trans (congrArg some (by kernel_rfl))
  f317 := Tryz.func239.trans (congrArg some (by kernel_rfl))
  f318 := Tryz.func241.trans (congrArg some (by kernel_rfl))
  f319 := Tryz.func242.trans (congrArg some (by kernel_rfl))
  f320 := Tryz.func243.trans (congrArg some (by kernel_rfl))
  f337 := Tryz.func244.trans (congrArg some (by kernel_rfl))
  f338 := Tryz.func245.trans (congrArg some (by kernel_rfl))
  t0 := Tryz.underlying0
  a0 := Tryz.isAgg0
  z0 := Tryz.sizeOf0
  v0 := Tryz.zeroValue0
  t2 := Tryz.underlying2
  a2 := Tryz.isAgg2
  z2 := Tryz.sizeOf2
  v2 := Tryz.zeroValue2
  t3 := Tryz.underlying3
  a3 := Tryz.isAgg3
  z3 := Tryz.sizeOf3
  v3 := Tryz.zeroValue3
  t4 := Tryz.underlying4
  a4 := Tryz.isAgg4
  z4 := Tryz.sizeOf4
  v4 := Tryz.zeroValue4
  t5 := Tryz.underlying5
  a5 := Tryz.isAgg5
  z5 := Tryz.sizeOf5
  v5 := Tryz.zeroValue5
  t9 := Tryz.underlying9
  a9 := Tryz.isAgg9
  z9 := Tryz.sizeOf9
  v9 := Tryz.zeroValue9
  t20 := Tryz.underlying20
  a20 := Tryz.isAgg20
  z20 := Tryz.sizeOf20
  v20 := Tryz.zeroValue20
  t37 := Tryz.underlying90
  a37 := Tryz.isAgg90
  z37 := Tryz.sizeOf90
  v37 := Tryz.zeroValue90
  t46 := Tryz.underlying102
  a46 := Tryz.isAgg102
  z46 := Tryz.sizeOf102
  v46 := Tryz.zeroValue102
  t51 := Tryz.underlying191
  a51 := Tryz.isAgg191
  z51 := Tryz.sizeOf191
  v51 := Tryz.zeroValue191
  t53 := Tryz.underlying338
  a53 := Tryz.isAgg338
  z53 := Tryz.sizeOf338
  v53 := Tryz.zeroValue338
  t75 := Tryz.underlying51
  a75 := Tryz.isAgg51
  z75 := Tryz.sizeOf51
  v75 := Tryz.zeroValue51
  t127 := Tryz.underlying134
  a127 := Tryz.isAgg134
  z127 := Tryz.sizeOf134
  v127 := Tryz.zeroValue134
  t143 := Tryz.underlying351
  a143 := Tryz.isAgg351
  z143 := Tryz.sizeOf351
  v143 := Tryz.zeroValue351
  t145 := Tryz.underlying353
  a145 := Tryz.isAgg353
  z145 := Tryz.sizeOf353
  v145 := Tryz.zeroValue353
  t167 := Tryz.underlying329
  a167 := Tryz.isAgg329
  z167 := Tryz.sizeOf329
  v167 := Tryz.zeroValue329
  t168 := Tryz.underlying332
  a168 := Tryz.isAgg332
  z168 := Tryz.sizeOf332
  v168 := Tryz.zeroValue332
  t171 := Tryz.underlying345
  a171 := Tryz.isAgg345
  z171 := Tryz.sizeOf345
  v171 := Tryz.zeroValue345
  t173 := Tryz.underlying348
  a173 := Tryz.isAgg348
  z173 := Tryz.sizeOf348
  v173 := Tryz.zeroValue348
  t210 := Tryz.underlying343
  a210 := Tryz.isAgg343
  z210 := Tryz.sizeOf343
  v210 := Tryz.zeroValue343
  t212 := Tryz.underlying355
  a212 := Tryz.isAgg355
  z212 := Tryz.sizeOf355
  v212 := Tryz.zeroValue355
  t213 := Tryz.underlying356
  a213 := Tryz.isAgg356
  z213 := Tryz.sizeOf356
  t232 := Tryz.underlying359
  a232 := Tryz.isAgg359
  z232 := Tryz.sizeOf359
  v232 := Tryz.zeroValue359
  t233 := Tryz.underlying360
  a233 := Tryz.isAgg360
  z233 := Tryz.sizeOf360
  v233 := Tryz.zeroValue360
  g15 := by kernel_rfl
  g16 := by kernel_rfl
  g17 := by kernel_rfl
  g18 := by kernel_rfl
  g19 := by kernel_rfl
  t80 := Tryz.underlying103
  a80 := Tryz.isAgg103
  z80 := Tryz.sizeOf103
  v80 := Tryz.zeroValue103
  i0 := by kernel_rfl
  i2 := by kernel_rfl
  i3 := by kernel_rfl
  i4 := by kernel_rfl
  i5 := by kernel_rfl
  i9 := by kernel_rfl
  i20 := by kernel_rfl
  i37 := by kernel_rfl
  i46 := by kernel_rfl
  i51 := by kernel_rfl
  i53 := by kernel_rfl
  i75 := by kernel_rfl
  i80 := by kernel_rfl
  i127 := by kernel_rfl
  i143 := by kernel_rfl
  i145 := by kernel_rfl
  i167 := by kernel_rfl
  i168 := by kernel_rfl
  i171 := by kernel_rfl
  i173 := by kernel_rfl
  i210 := by kernel_rfl
  i212 := by kernel_rfl
  i232 := by kernel_rfl
  i233 := by kernel_rfl
  m15 := by kernel_rfl
  m16 := by kernel_rfl
  m17 := by kernel_rfl
  m18 := by kernel_rfl
  m19 := by kernel_rfl
  c0 := by kernel_rfl
  c2 := by kernel_rfl
  c3 := by kernel_rfl
  c4 := by kernel_rfl
  c5 := by kernel_rfl
  c9 := by kernel_rfl
  c20 := by kernel_rfl
  c37 := by kernel_rfl
  c46 := by kernel_rfl
  c51 := by kernel_rfl
  c53 := by kernel_rfl
  c75 := by kernel_rfl
  c80 := by kernel_rfl
  c127 := by kernel_rfl
  c143 := by kernel_rfl
  c145 := by kernel_rfl
  c167 := by kernel_rfl
  c168 := by kernel_rfl
  c171 := by kernel_rfl
  c173 := by kernel_rfl
  c210 := by kernel_rfl
  c212 := by kernel_rfl
  c213 := by kernel_rfl
  c232 := by kernel_rfl
  c233 := by kernel_rfl }
open Go.RowKit in
/-- strconv.toError, at the inner package's ErrSyntax: 'syntaxError(fn, s)' as an error: A *NumError IN A NEW BLOCK. (LAID: no walk: one application.) -/
theorem Tryz.strconv_toError_syntax (fn s : ByteArray) (base bits : Int) (ev : Value) (w : World) (hlim : s.size ≤ 281474976710656) (hv : w.cell? ⟨4, 0, none⟩ = some ev) (hev : ev = .nilIface ∨ ∃ te pe, ev = .iface te pe) :
    Calls Tryz.prog 212 #[.string fn, .string s, .int .i64 base, .int .i64 bits, .iface 329 (.int .i64 2)] w fun e w' => ∃ N, e = .returned (.iface 332 (.pointer (some ⟨N, 0, none⟩))) ∧ w.heap.size ≤ N ∧ w'.heap[N]? = some (.cells #[.string fn, .string s, ev] 343 (0, 0)) ∧ Below w.heap.size w w' := Any.strconv_toError_syntax Tryz.laysC245 fn s base bits ev w hlim hv hev
def Tryz.lays321_ren : Go.Shelf.Ren := ⟨fun | 321 => 237 | n => n, fun | 5 => 5 | n => n, fun | n => n⟩
theorem Tryz.lays321 : Go.Proofs.Lays.n321 Tryz.prog Tryz.lays321_ren := {
  mixed := by kernel_rfl
  f321 := Tryz.func237.trans (congrArg some (by kernel_rfl))
  t5 := Tryz.underlying5
  a5 := Tryz.isAgg5
  z5 := Tryz.sizeOf5
  v5 := Tryz.zeroValue5 }
open Go.RowKit in
/-- internal/strconv.lower: 'c | ('x' - 'X')': the bit 32 set. The world is as it was. (LAID: no walk: one application.) -/
theorem Tryz.internal_strconv_lower (c : Int) (w : World) :
    Calls Tryz.prog 237 #[.int .u8 c] w fun e w' => e = .returned (.int .u8 (bits .or .u8 c 32)) ∧ w' = w := Any.internal_strconv_lower Tryz.lays321 c w
open Go.RowKit in
open Go.RowKit in
open Go.RowKit in
open Go.RowKit in
open Go.RowKit in
open Go.RowKit in
open Go.RowKit in
def Tryz.laysC172_ren : Go.Shelf.Ren := ⟨fun | 172 => 196 | 244 => 211 | 245 => 212 | 247 => 221 | 279 => 222 | 280 => 223 | 281 => 224 | 282 => 225 | 287 => 229 | 316 => 230 | 171 => 197 | 205 => 231 | 321 => 237 | 322 => 238 | 243 => 213 | 246 => 226 | 283 => 232 | 284 => 233 | 285 => 234 | 286 => 235 | 129 => 240 | 317 => 239 | 318 => 241 | 319 => 242 | 320 => 243 | 337 => 244 | 338 => 245 | n => n, fun | 9 => 9 | 3 => 3 | 75 => 51 | 76 => 94 | 4 => 4 | 5 => 5 | 167 => 329 | 37 => 90 | 0 => 0 | 85 => 330 | 2 => 2 | 168 => 332 | 53 => 338 | 175 => 339 | 46 => 102 | 210 => 343 | 127 => 134 | 145 => 353 | 143 => 351 | 21 => 21 | 171 => 345 | 173 => 348 | 212 => 355 | 51 => 191 | 20 => 20 | 213 => 356 | 232 => 359 | 233 => 360 | 80 => 103 | n => n, fun | 15 => 4 | 16 => 5 | 17 => 6 | 18 => 7 | 19 => 8 | n => n⟩
theorem Tryz.laysC172 : Go.Proofs.LaysC.n172 Tryz.prog Tryz.laysC172_ren := {
  mixed := by kernel_rfl
  f129 := Tryz.func240.trans (congrArg some (by kernel_rfl))
  f171 := Tryz.func197.trans (congrArg some (by kernel_rfl))
  f172 := Tryz.func196.trans (congrArg some (by kernel_rfl))
  f205 := Tryz.func231.trans (congrArg some (by kernel_rfl))
  f243 := Tryz.func213.trans (congrArg some (by kernel_rfl))
  f244 := Tryz.func211.trans (congrArg some (by kernel_rfl))
  f245 := Tryz.func212.trans (congrArg some (by kernel_rfl))
  f246 := Tryz.func226.trans (congrArg some (by kernel_rfl))
  f247 := Tryz.func221.trans (congrArg some (by kernel_rfl))
  f279 := Tryz.func222.trans (congrArg some (by kernel_rfl))
  f280 := Tryz.func223.trans (congrArg some (by kernel_rfl))
  f281 := Tryz.func224.trans (congrArg some (by kernel_rfl))
  f282 := Tryz.func225.trans (congrArg some (by kernel_rfl))
  f283 := Tryz.func232.trans (congrArg some (by kernel_rfl))
  f284 := Tryz.func233.trans (congrArg some (by kernel_rfl))
  f285 := Tryz.func234.trans (congrArg some (by kernel_rfl))
  f286 := Tryz.func235.trans (congrArg some (by kernel_rfl))
  f287 := Tryz.func229.trans (congrArg some (by kernel_rfl))
  f316 := Tryz.func230.trans (congrArg some (by kernel_rfl))
  f317 := Tryz.func239.trans (congrArg some (by kernel_rfl))
  f318 := Tryz.func241.trans (congrArg some (by kernel_rfl))
  f319 := Tryz.func242.trans (congrArg some (by kernel_rfl))
  f320 := Tryz.func243.trans (congrArg some (by kernel_rfl))
  f321 := Tryz.func237.trans (congrArg some (by kernel_rfl))
  f322 := Tryz.func238.trans (congrArg some (by kernel_rfl))
  f337 := Tryz.func244.trans (congrArg some (by kernel_rfl))
  f338 := Tryz.func245.trans (congrArg some (by kernel_rfl))
  t0 := Tryz.underlying0
  a0 := Tryz.isAgg0
  z0 := Tryz.sizeOf0
  v0 := Tryz.zeroValue0
  t2 := Tryz.underlying2
  a2 := Tryz.isAgg2
  z2 := Tryz.sizeOf2
  v2 := Tryz.zeroValue2
  t3 := Tryz.underlying3
  a3 := Tryz.isAgg3
  z3 := Tryz.sizeOf3
  v3 := Tryz.zeroValue3
  t4 := Tryz.underlying4
  a4 := Tryz.isAgg4
  z4 := Tryz.sizeOf4
  v4 := Tryz.zeroValue4
  t5 := Tryz.underlying5
  a5 := Tryz.isAgg5
  z5 := Tryz.sizeOf5
  v5 := Tryz.zeroValue5
  t9 := Tryz.underlying9
  a9 := Tryz.isAgg9
  z9 := Tryz.sizeOf9
  v9 := Tryz.zeroValue9
  t20 := Tryz.underlying20
  a20 := Tryz.isAgg20
  z20 := Tryz.sizeOf20
  v20 := Tryz.zeroValue20
  t21 := Tryz.underlying21
  a21 := Tryz.isAgg21
  z21 := Tryz.sizeOf21
  v21 := Tryz.zeroValue21
  t37 := Tryz.underlying90
  a37 := Tryz.isAgg90
  z37 := Tryz.sizeOf90
  v37 := Tryz.zeroValue90
  t46 := Tryz.underlying102
  a46 := Tryz.isAgg102
  z46 := Tryz.sizeOf102
  v46 := Tryz.zeroValue102
  t51 := Tryz.underlying191
  a51 := Tryz.isAgg191
  z51 := Tryz.sizeOf191
  v51 := Tryz.zeroValue191
  t53 := Tryz.underlying338
  a53 := Tryz.isAgg338
  z53 := Tryz.sizeOf338
  v53 := Tryz.zeroValue338
  t75 := Tryz.underlying51
  a75 := Tryz.isAgg51
  z75 := Tryz.sizeOf51
  v75 := Tryz.zeroValue51
  t76 := Tryz.underlying94
  a76 := Tryz.isAgg94
  z76 := Tryz.sizeOf94
  v76 := Tryz.zeroValue94
  t85 := Tryz.underlying330
  a85 := Tryz.isAgg330
  z85 := Tryz.sizeOf330
  v85 := Tryz.zeroValue330
  t127 := Tryz.underlying134
  a127 := Tryz.isAgg134
  z127 := Tryz.sizeOf134
  v127 := Tryz.zeroValue134
  t143 := Tryz.underlying351
  a143 := Tryz.isAgg351
  z143 := Tryz.sizeOf351
  v143 := Tryz.zeroValue351
  t145 := Tryz.underlying353
  a145 := Tryz.isAgg353
  z145 := Tryz.sizeOf353
  v145 := Tryz.zeroValue353
  t167 := Tryz.underlying329
  a167 := Tryz.isAgg329
  z167 := Tryz.sizeOf329
  v167 := Tryz.zeroValue329
  t168 := Tryz.underlying332
  a168 := Tryz.isAgg332
  z168 := Tryz.sizeOf332
  v168 := Tryz.zeroValue332
  t171 := Tryz.underlying345
  a171 := Tryz.isAgg345
  z171 := Tryz.sizeOf345
  v171 := Tryz.zeroValue345
  t173 := Tryz.underlying348
  a173 := Tryz.isAgg348
  z173 := Tryz.sizeOf348
  v173 := Tryz.zeroValue348
  t175 := Tryz.underlying339
  a175 := Tryz.isAgg339
  z175 := Tryz.sizeOf339
  v175 := Tryz.zeroValue339
  t210 := Tryz.underlying343
  a210 := Tryz.isAgg343
  z210 := Tryz.sizeOf343
  v210 := Tryz.zeroValue343
  t212 := Tryz.underlying355
  a212 := Tryz.isAgg355
  z212 := Tryz.sizeOf355
  v212 := Tryz.zeroValue355
  t213 := Tryz.underlying356
  a213 := Tryz.isAgg356
  z213 := Tryz.sizeOf356
  t232 := Tryz.underlying359
  a232 := Tryz.isAgg359
  z232 := Tryz.sizeOf359
  v232 := Tryz.zeroValue359
  t233 := Tryz.underlying360
  a233 := Tryz.isAgg360
  z233 := Tryz.sizeOf360
  v233 := Tryz.zeroValue360
  g15 := by kernel_rfl
  g16 := by kernel_rfl
  g17 := by kernel_rfl
  g18 := by kernel_rfl
  g19 := by kernel_rfl
  t80 := Tryz.underlying103
  a80 := Tryz.isAgg103
  z80 := Tryz.sizeOf103
  v80 := Tryz.zeroValue103
  i0 := by kernel_rfl
  i2 := by kernel_rfl
  i3 := by kernel_rfl
  i4 := by kernel_rfl
  i5 := by kernel_rfl
  i9 := by kernel_rfl
  i20 := by kernel_rfl
  i21 := by kernel_rfl
  i37 := by kernel_rfl
  i46 := by kernel_rfl
  i51 := by kernel_rfl
  i53 := by kernel_rfl
  i75 := by kernel_rfl
  i76 := by kernel_rfl
  i80 := by kernel_rfl
  i85 := by kernel_rfl
  i127 := by kernel_rfl
  i143 := by kernel_rfl
  i145 := by kernel_rfl
  i167 := by kernel_rfl
  i168 := by kernel_rfl
  i171 := by kernel_rfl
  i173 := by kernel_rfl
  i175 := by kernel_rfl
  i210 := by kernel_rfl
  i212 := by kernel_rfl
  i232 := by kernel_rfl
  i233 := by kernel_rfl
  m15 := by kernel_rfl
  m16 := by kernel_rfl
  m17 := by kernel_rfl
  m18 := by kernel_rfl
  m19 := by kernel_rfl
  c0 := by kernel_rfl
  c2 := by kernel_rfl
  c3 := by kernel_rfl
  c4 := by kernel_rfl
  c5 := by kernel_rfl
  c9 := by kernel_rfl
  c20 := by kernel_rfl
  c21 := by kernel_rfl
  c37 := by kernel_rfl
  c46 := by kernel_rfl
  c51 := by kernel_rfl
  c53 := by kernel_rfl
  c75 := by kernel_rfl
  c76 := by kernel_rfl
  c80 := by kernel_rfl
  c85 := by kernel_rfl
  c127 := by kernel_rfl
  c143 := by kernel_rfl
  c145 := by kernel_rfl
  c167 := by kernel_rfl
  c168 := by kernel_rfl
  c171 := by kernel_rfl
  c173 := by kernel_rfl
  c175 := by kernel_rfl
  c210 := by kernel_rfl
  c212 := by kernel_rfl
  c213 := by kernel_rfl
  c232 := by kernel_rfl
  c233 := by kernel_rfl }
open Go.RowKit in
/-- strconv.Atoi, AT EVERY STRING THAT SPELLS AN int ('Lib.atoiAll .. = .ok v'; of whatever length: leading zeros count): v, AND NO ERROR. The world: as it was, or with the one new row that '[]byte(..)' lays. (LAID: no walk: one application.) -/
theorem Tryz.strconv_Atoi_ok (s : ByteArray) (hmax : s.size ≤ 9223372036854775806) (v : Int) (h : Lib.atoiAll s.data.toList = .ok v) (w : World) :
    Calls Tryz.prog 196 #[.string s] w fun e w' => e = .returned (.tuple #[.int .i64 v, .nilIface]) ∧ (w' = w ∨ ∃ t, w' = Lib.bytesWorld w 5 t) := Any.strconv_Atoi_ok Tryz.laysC172 s hmax v h w
open Go.RowKit in
/-- strconv.Atoi, AT EVERY STRING THAT IS NO DECIMAL NUMERAL (no number, and not too great): 0, AND AN ERROR THAT IS NOT nil: a *NumError in a new block N: {Func: "Atoi", Num: s's bytes, Err: what the variable ErrSyntax holds}. Of what was there nothing has turned. (LAID: no walk: one application.) -/
theorem Tryz.strconv_Atoi_syntax (s : ByteArray) (hlim : s.size ≤ 281474976710656) (h1 : ∀ v, Lib.atoiAll s.data.toList ≠ .ok v) (h2 : Lib.atoiAll s.data.toList ≠ .range) (ev : Value) (w : World) (hv : w.cell? ⟨4, 0, none⟩ = some ev) (hev : ev = .nilIface ∨ ∃ te pe, ev = .iface te pe) :
    Calls Tryz.prog 196 #[.string s] w fun e w' => ∃ N, e = .returned (.tuple #[.int .i64 (0), .iface 332 (.pointer (some ⟨N, 0, none⟩))]) ∧ w.heap.size ≤ N ∧ w'.heap[N]? = some (.cells #[.string ⟨#[65, 116, 111, 105]⟩, .string s, ev] 343 (0, 0)) ∧ Below w.heap.size w w' := by
  cases h : Lib.atoiAll s.data.toList with
  | ok v => exact absurd h (h1 v)
  | range => exact absurd h h2
  | _ => exact Any.strconv_Atoi_syntax Tryz.laysC172 s hlim h ev w hv hev
open Go.RowKit in
/-- strconv.Atoi, AT EVERY NUMERAL THAT NO int HOLDS ('.range'): THE GREATEST OR THE LEAST int, BY THE SIGN ('Lib.atoiSat'), AND AN ERROR THAT IS NOT nil: a *NumError in a new block N: {Func: "Atoi", Num: s's bytes, Err: what the variable ErrRange holds}. Of what was there nothing has turned. (LAID: no walk: one application.) -/
theorem Tryz.strconv_Atoi_range (s : ByteArray) (hlim : s.size ≤ 281474976710656) (h : Lib.atoiAll s.data.toList = .range) (ev : Value) (w : World) (hv : w.cell? ⟨5, 0, none⟩ = some ev) (hev : ev = .nilIface ∨ ∃ te pe, ev = .iface te pe) :
    Calls Tryz.prog 196 #[.string s] w fun e w' => ∃ N, e = .returned (.tuple #[.int .i64 (Lib.atoiSat s.data.toList), .iface 332 (.pointer (some ⟨N, 0, none⟩))]) ∧ w.heap.size ≤ N ∧ w'.heap[N]? = some (.cells #[.string ⟨#[65, 116, 111, 105]⟩, .string s, ev] 343 (0, 0)) ∧ Below w.heap.size w w' := Any.strconv_Atoi_range Tryz.laysC172 s hlim h ev w hv hev
open Go.RowKit in
open Go.RowKit in
open Go.RowKit in
open Go.RowKit in
open Go.RowKit in
open Go.RowKit in
open Go.RowKit in
open Go.RowKit in
open Go.RowKit in
open Go.RowKit in
open Go.RowKit in
open Go.RowKit in
open Go.RowKit in
open Go.RowKit in
open Go.RowKit in
open Go.RowKit in
open Go.RowKit in
open Go.RowKit in
open Go.RowKit in
open Go.RowKit in
open Go.RowKit in
open Go.RowKit in
open Go.RowKit in
open Go.RowKit in
open Go.RowKit in
open Go.RowKit Go.Lib in
open Go.RowKit Go.Lib in
open Go.RowKit Go.Lib in
open Go.RowKit Go.Lib in
open Go.RowKit Go.Lib in
open Go.RowKit Go.Lib in
def Tryz.lays220_ren : Go.Shelf.Ren := ⟨fun | 220 => 90 | 219 => 125 | 217 => 148 | 225 => 149 | 224 => 150 | 267 => 151 | 266 => 168 | 314 => 169 | n => n, fun | 9 => 9 | 4 => 4 | 3 => 3 | 5 => 5 | 46 => 102 | 146 => 271 | 51 => 191 | n => n, fun | 1 => 3 | n => n⟩
theorem Tryz.lays220 : Go.Proofs.Lays.n220 Tryz.prog Tryz.lays220_ren := {
  mixed := by kernel_rfl
  f217 := Tryz.func148.trans (congrArg some (by kernel_rfl))
  f219 := Tryz.func125.trans (congrArg some (by kernel_rfl))
  f220 := Tryz.func90.trans (congrArg some (by kernel_rfl))
  f224 := Tryz.func150.trans (congrArg some (by kernel_rfl))
  f225 := Tryz.func149.trans (congrArg some (by kernel_rfl))
  f266 := Tryz.func168.trans (congrArg some (by kernel_rfl))
  f267 := Tryz.func151.trans (congrArg some (by kernel_rfl))
  f314 := Tryz.func169.trans (congrArg some (by kernel_rfl))
  t3 := Tryz.underlying3
  a3 := Tryz.isAgg3
  z3 := Tryz.sizeOf3
  v3 := Tryz.zeroValue3
  t4 := Tryz.underlying4
  a4 := Tryz.isAgg4
  z4 := Tryz.sizeOf4
  v4 := Tryz.zeroValue4
  t5 := Tryz.underlying5
  a5 := Tryz.isAgg5
  z5 := Tryz.sizeOf5
  v5 := Tryz.zeroValue5
  t9 := Tryz.underlying9
  a9 := Tryz.isAgg9
  z9 := Tryz.sizeOf9
  v9 := Tryz.zeroValue9
  t46 := Tryz.underlying102
  a46 := Tryz.isAgg102
  z46 := Tryz.sizeOf102
  v46 := Tryz.zeroValue102
  t51 := Tryz.underlying191
  a51 := Tryz.isAgg191
  z51 := Tryz.sizeOf191
  v51 := Tryz.zeroValue191
  t146 := Tryz.underlying271
  a146 := Tryz.isAgg271
  z146 := Tryz.sizeOf271
  v146 := Tryz.zeroValue271
  g1 := by kernel_rfl }
open Go.RowKit Go.Lib in
/-- internal/stringslite.Cut (what strings.Cut calls): IT RETURNS 'Lib.cut s sep'; the world is as it was but for the count of draws. (LAID: no walk: one application.) -/
theorem Tryz.stringslite_Cut (s sep : ByteArray) (m : Int) (w : World) (hs : s.size < 4294967281) (hm : w.cell? ⟨3, 0, none⟩ = some (.int .i64 m)) :
    Calls Tryz.prog 90 #[.string s, .string sep] w fun e w' => e = .returned (.tuple #[.string ⟨(Lib.cut s.data.toList sep.data.toList).1.toArray⟩, .string ⟨(Lib.cut s.data.toList sep.data.toList).2.1.toArray⟩, .bool (Lib.cut s.data.toList sep.data.toList).2.2]) ∧ ∃ n, w' = w.drewN n := Any.stringslite_Cut Tryz.lays220 s sep m w hs hm
def Tryz.lays145_ren : Go.Shelf.Ren := ⟨fun | 145 => 57 | 220 => 90 | 219 => 125 | 217 => 148 | 225 => 149 | 224 => 150 | 267 => 151 | 266 => 168 | 314 => 169 | n => n, fun | 9 => 9 | 4 => 4 | 59 => 127 | 3 => 3 | 5 => 5 | 46 => 102 | 146 => 271 | 51 => 191 | n => n, fun | 1 => 3 | n => n⟩
theorem Tryz.lays145 : Go.Proofs.Lays.n145 Tryz.prog Tryz.lays145_ren := {
  mixed := by kernel_rfl
  f145 := Tryz.func57.trans (congrArg some (by kernel_rfl))
  f217 := Tryz.func148.trans (congrArg some (by kernel_rfl))
  f219 := Tryz.func125.trans (congrArg some (by kernel_rfl))
  f220 := Tryz.func90.trans (congrArg some (by kernel_rfl))
  f224 := Tryz.func150.trans (congrArg some (by kernel_rfl))
  f225 := Tryz.func149.trans (congrArg some (by kernel_rfl))
  f266 := Tryz.func168.trans (congrArg some (by kernel_rfl))
  f267 := Tryz.func151.trans (congrArg some (by kernel_rfl))
  f314 := Tryz.func169.trans (congrArg some (by kernel_rfl))
  t3 := Tryz.underlying3
  a3 := Tryz.isAgg3
  z3 := Tryz.sizeOf3
  v3 := Tryz.zeroValue3
  t4 := Tryz.underlying4
  a4 := Tryz.isAgg4
  z4 := Tryz.sizeOf4
  v4 := Tryz.zeroValue4
  t5 := Tryz.underlying5
  a5 := Tryz.isAgg5
  z5 := Tryz.sizeOf5
  v5 := Tryz.zeroValue5
  t9 := Tryz.underlying9
  a9 := Tryz.isAgg9
  z9 := Tryz.sizeOf9
  v9 := Tryz.zeroValue9
  t46 := Tryz.underlying102
  a46 := Tryz.isAgg102
  z46 := Tryz.sizeOf102
  v46 := Tryz.zeroValue102
  t51 := Tryz.underlying191
  a51 := Tryz.isAgg191
  z51 := Tryz.sizeOf191
  v51 := Tryz.zeroValue191
  t59 := Tryz.underlying127
  a59 := Tryz.isAgg127
  z59 := Tryz.sizeOf127
  v59 := Tryz.zeroValue127
  t146 := Tryz.underlying271
  a146 := Tryz.isAgg271
  z146 := Tryz.sizeOf271
  v146 := Tryz.zeroValue271
  g1 := by kernel_rfl }
open Go.RowKit Go.Lib in
/-- strings.Cut: "Cut slices s around the first instance of sep, returning the text before and after sep. The found result reports whether sep appears in s. If sep does not appear in s, cut returns s, "", false.": IT RETURNS 'Lib.cut s sep'; the world is as it was but for the count of draws. (LAID: no walk: one application.) -/
theorem Tryz.strings_Cut (s sep : ByteArray) (m : Int) (w : World) (hs : s.size < 4294967281) (hm : w.cell? ⟨3, 0, none⟩ = some (.int .i64 m)) :
    Calls Tryz.prog 57 #[.string s, .string sep] w fun e w' => e = .returned (.tuple #[.string ⟨(Lib.cut s.data.toList sep.data.toList).1.toArray⟩, .string ⟨(Lib.cut s.data.toList sep.data.toList).2.1.toArray⟩, .bool (Lib.cut s.data.toList sep.data.toList).2.2]) ∧ ∃ n, w' = w.drewN n := Any.strings_Cut Tryz.lays145 s sep m w hs hm
open Go.RowKit Go.Lib in
open Go.RowKit Go.Lib in
def Tryz.laysM145_ren : Go.Shelf.Ren := ⟨fun | 145 => 57 | 220 => 90 | 219 => 125 | 217 => 148 | 225 => 149 | 224 => 150 | 267 => 151 | 266 => 168 | 314 => 169 | n => n, fun | 9 => 9 | 4 => 4 | 59 => 127 | 3 => 3 | 5 => 5 | 46 => 102 | 146 => 271 | 51 => 191 | n => n, fun | 1 => 3 | n => n⟩
theorem Tryz.laysM145 : Go.Proofs.LaysM.n145 Tryz.prog Tryz.laysM145_ren := {
  mixed := by kernel_rfl
  f145 := Tryz.func57.trans (congrArg some (by kernel_rfl))
  f217 := Tryz.func148.trans (congrArg some (by kernel_rfl))
  f219 := Tryz.func125.trans (congrArg some (by kernel_rfl))
  f220 := Tryz.func90.trans (congrArg some (by kernel_rfl))
  f224 := Tryz.func150.trans (congrArg some (by kernel_rfl))
  f225 := Tryz.func149.trans (congrArg some (by kernel_rfl))
  f266 := Tryz.func168.trans (congrArg some (by kernel_rfl))
  f267 := Tryz.func151.trans (congrArg some (by kernel_rfl))
  f314 := Tryz.func169.trans (congrArg some (by kernel_rfl))
  t3 := Tryz.underlying3
  a3 := Tryz.isAgg3
  z3 := Tryz.sizeOf3
  v3 := Tryz.zeroValue3
  t4 := Tryz.underlying4
  a4 := Tryz.isAgg4
  z4 := Tryz.sizeOf4
  v4 := Tryz.zeroValue4
  t5 := Tryz.underlying5
  a5 := Tryz.isAgg5
  z5 := Tryz.sizeOf5
  v5 := Tryz.zeroValue5
  t9 := Tryz.underlying9
  a9 := Tryz.isAgg9
  z9 := Tryz.sizeOf9
  v9 := Tryz.zeroValue9
  t46 := Tryz.underlying102
  a46 := Tryz.isAgg102
  z46 := Tryz.sizeOf102
  v46 := Tryz.zeroValue102
  t51 := Tryz.underlying191
  a51 := Tryz.isAgg191
  z51 := Tryz.sizeOf191
  v51 := Tryz.zeroValue191
  t59 := Tryz.underlying127
  a59 := Tryz.isAgg127
  z59 := Tryz.sizeOf127
  v59 := Tryz.zeroValue127
  t146 := Tryz.underlying271
  a146 := Tryz.isAgg271
  z146 := Tryz.sizeOf271
  v146 := Tryz.zeroValue271
  g1 := by kernel_rfl
  i3 := by kernel_rfl
  i4 := by kernel_rfl
  i5 := by kernel_rfl
  i9 := by kernel_rfl
  i46 := by kernel_rfl
  i51 := by kernel_rfl
  i59 := by kernel_rfl
  i146 := by kernel_rfl
  m1 := by kernel_rfl
  s1_3 := fun w h => Go.Proofs.cell_of_shapedOpen_int (zero := #[.int .i64 0]) (t := 3) h (of_decide_eq_true (by kernel_rfl)) (by kernel_rfl) rfl (by kernel_rfl) (by kernel_rfl) Tryz.underlying3 }
open Go.RowKit Go.Lib in
theorem Tryz.strings_Cut_shaped (s sep : ByteArray) (w : World) (h : w.ShapedOpen Tryz.prog) (hs : s.size < 4294967281) :
    Calls Tryz.prog 57 #[.string s, .string sep] w fun e w' => e = .returned (.tuple #[.string ⟨(Lib.cut s.data.toList sep.data.toList).1.toArray⟩, .string ⟨(Lib.cut s.data.toList sep.data.toList).2.1.toArray⟩, .bool (Lib.cut s.data.toList sep.data.toList).2.2]) ∧ ∃ n, w' = w.drewN n := Any.strings_Cut_shaped Tryz.laysM145 s sep w h hs
open Go.RowKit Go.Lib in
def Tryz.lays272_ren : Go.Shelf.Ren := ⟨fun | 272 => 174 | 315 => 130 | n => n, fun | 9 => 9 | 40 => 101 | 4 => 4 | 3 => 3 | 0 => 0 | 21 => 21 | n => n, fun | n => n⟩
theorem Tryz.lays272 : Go.Proofs.Lays.n272 Tryz.prog Tryz.lays272_ren := {
  mixed := by kernel_rfl
  f272 := Tryz.func174.trans (congrArg some (by kernel_rfl))
  f315 := Tryz.func130.trans (congrArg some (by kernel_rfl))
  t0 := Tryz.underlying0
  a0 := Tryz.isAgg0
  z0 := Tryz.sizeOf0
  v0 := Tryz.zeroValue0
  t3 := Tryz.underlying3
  a3 := Tryz.isAgg3
  z3 := Tryz.sizeOf3
  v3 := Tryz.zeroValue3
  t4 := Tryz.underlying4
  a4 := Tryz.isAgg4
  z4 := Tryz.sizeOf4
  v4 := Tryz.zeroValue4
  t9 := Tryz.underlying9
  a9 := Tryz.isAgg9
  z9 := Tryz.sizeOf9
  v9 := Tryz.zeroValue9
  t21 := Tryz.underlying21
  a21 := Tryz.isAgg21
  z21 := Tryz.sizeOf21
  v21 := Tryz.zeroValue21
  t40 := Tryz.underlying101
  a40 := Tryz.isAgg101
  z40 := Tryz.sizeOf101
  v40 := Tryz.zeroValue101 }
open Go.RowKit Go.Lib in
open Go.RowKit Go.Lib in
def Tryz.laysGw17_ren : Go.Shelf.Ren := ⟨fun | 17 => 65 | 15 => 101 | 20 => 130 | n => n, fun | 9 => 9 | 23 => 101 | 4 => 4 | 3 => 3 | 0 => 0 | 21 => 21 | n => n, fun | n => n⟩
theorem Tryz.laysGw17 : Go.Proofs.LaysGw.n17 Tryz.prog Tryz.laysGw17_ren := {
  mixed := by kernel_rfl
  f15 := Tryz.func101.trans (congrArg some (by kernel_rfl))
  f17 := Tryz.func65.trans (congrArg some (by kernel_rfl))
  f20 := Tryz.func130.trans (congrArg some (by kernel_rfl))
  t0 := Tryz.underlying0
  a0 := Tryz.isAgg0
  z0 := Tryz.sizeOf0
  v0 := Tryz.zeroValue0
  i0 := by kernel_rfl
  t3 := Tryz.underlying3
  a3 := Tryz.isAgg3
  z3 := Tryz.sizeOf3
  v3 := Tryz.zeroValue3
  i3 := by kernel_rfl
  t4 := Tryz.underlying4
  a4 := Tryz.isAgg4
  z4 := Tryz.sizeOf4
  v4 := Tryz.zeroValue4
  i4 := by kernel_rfl
  t9 := Tryz.underlying9
  a9 := Tryz.isAgg9
  z9 := Tryz.sizeOf9
  v9 := Tryz.zeroValue9
  i9 := by kernel_rfl
  t21 := Tryz.underlying21
  a21 := Tryz.isAgg21
  z21 := Tryz.sizeOf21
  v21 := Tryz.zeroValue21
  i21 := by kernel_rfl
  t23 := Tryz.underlying101
  a23 := Tryz.isAgg101
  z23 := Tryz.sizeOf101
  v23 := Tryz.zeroValue101
  i23 := by kernel_rfl }
open Go.RowKit Go.Lib in
open Go.RowKit Go.Lib in
open Go.RowKit Go.Lib in
open Go.RowKit Go.Lib in
open Go.RowKit Go.Lib in
def Tryz.lays206_ren : Go.Shelf.Ren := ⟨fun | 206 => 152 | n => n, fun | 9 => 9 | 4 => 4 | 3 => 3 | n => n, fun | n => n⟩
theorem Tryz.lays206 : Go.Proofs.Lays.n206 Tryz.prog Tryz.lays206_ren := {
  mixed := by kernel_rfl
  f206 := Tryz.func152.trans (congrArg some (by kernel_rfl))
  t3 := Tryz.underlying3
  a3 := Tryz.isAgg3
  z3 := Tryz.sizeOf3
  v3 := Tryz.zeroValue3
  t4 := Tryz.underlying4
  a4 := Tryz.isAgg4
  z4 := Tryz.sizeOf4
  v4 := Tryz.zeroValue4
  t9 := Tryz.underlying9
  a9 := Tryz.isAgg9
  z9 := Tryz.sizeOf9
  v9 := Tryz.zeroValue9 }
open Go.RowKit Go.Lib in
/-- internal/stringslite.HasPrefix (what strings.HasPrefix calls). (LAID: no walk: one application.) -/
theorem Tryz.stringslite_HasPrefix (s p : ByteArray) (w : World) :
    Calls Tryz.prog 152 #[.string s, .string p] w fun e w' => e = .returned (.bool (Lib.hasPrefix s.data.toList p.data.toList)) ∧ w' = w := Any.stringslite_HasPrefix Tryz.lays206 s p w
def Tryz.lays99_ren : Go.Shelf.Ren := ⟨fun | 99 => 209 | 206 => 152 | n => n, fun | 9 => 9 | 4 => 4 | 3 => 3 | n => n, fun | n => n⟩
theorem Tryz.lays99 : Go.Proofs.Lays.n99 Tryz.prog Tryz.lays99_ren := {
  mixed := by kernel_rfl
  f99 := Tryz.func209.trans (congrArg some (by kernel_rfl))
  f206 := Tryz.func152.trans (congrArg some (by kernel_rfl))
  t3 := Tryz.underlying3
  a3 := Tryz.isAgg3
  z3 := Tryz.sizeOf3
  v3 := Tryz.zeroValue3
  t4 := Tryz.underlying4
  a4 := Tryz.isAgg4
  z4 := Tryz.sizeOf4
  v4 := Tryz.zeroValue4
  t9 := Tryz.underlying9
  a9 := Tryz.isAgg9
  z9 := Tryz.sizeOf9
  v9 := Tryz.zeroValue9 }
open Go.RowKit Go.Lib in
/-- strings.HasPrefix: "HasPrefix reports whether the string s begins with prefix.": IT RETURNS 'Lib.hasPrefix s prefix'; the world is as it was. (LAID: no walk: one application.) -/
theorem Tryz.strings_HasPrefix (s p : ByteArray) (w : World) :
    Calls Tryz.prog 209 #[.string s, .string p] w fun e w' => e = .returned (.bool (Lib.hasPrefix s.data.toList p.data.toList)) ∧ w' = w := Any.strings_HasPrefix Tryz.lays99 s p w
open Go.RowKit Go.Lib in
def Tryz.lays101_ren : Go.Shelf.Ren := ⟨fun | 101 => 208 | 208 => 220 | 206 => 152 | n => n, fun | 9 => 9 | 4 => 4 | 3 => 3 | n => n, fun | n => n⟩
theorem Tryz.lays101 : Go.Proofs.Lays.n101 Tryz.prog Tryz.lays101_ren := {
  mixed := by kernel_rfl
  f101 := Tryz.func208.trans (congrArg some (by kernel_rfl))
  f206 := Tryz.func152.trans (congrArg some (by kernel_rfl))
  f208 := Tryz.func220.trans (congrArg some (by kernel_rfl))
  t3 := Tryz.underlying3
  a3 := Tryz.isAgg3
  z3 := Tryz.sizeOf3
  v3 := Tryz.zeroValue3
  t4 := Tryz.underlying4
  a4 := Tryz.isAgg4
  z4 := Tryz.sizeOf4
  v4 := Tryz.zeroValue4
  t9 := Tryz.underlying9
  a9 := Tryz.isAgg9
  z9 := Tryz.sizeOf9
  v9 := Tryz.zeroValue9 }
open Go.RowKit Go.Lib in
/-- strings.TrimPrefix: "TrimPrefix returns s without the provided leading prefix string. If s doesn't start with prefix, s is returned unchanged.": IT RETURNS 'Lib.trimPrefix s prefix'; the world is as it was. (LAID: no walk: one application.) -/
theorem Tryz.strings_TrimPrefix (s p : ByteArray) (w : World) :
    Calls Tryz.prog 208 #[.string s, .string p] w fun e w' => e = .returned (.string ⟨(Lib.trimPrefix s.data.toList p.data.toList).toArray⟩) ∧ w' = w := Any.strings_TrimPrefix Tryz.lays101 s p w
def Tryz.lays197_ren : Go.Shelf.Ren := ⟨fun | 197 => 55 | 260 => 89 | n => n, fun | 9 => 9 | 21 => 21 | 3 => 3 | 4 => 4 | 5 => 5 | 105 => 124 | 119 => 233 | 0 => 0 | 46 => 102 | 139 => 236 | 138 => 235 | n => n, fun | 3 => 1 | 4 => 2 | n => n⟩
theorem Tryz.lays197 : Go.Proofs.Lays.n197 Tryz.prog Tryz.lays197_ren := {
  mixed := by kernel_rfl
  f197 := Tryz.func55.trans (congrArg some (by kernel_rfl))
  f260 := Tryz.func89.trans (congrArg some (by kernel_rfl))
  t0 := Tryz.underlying0
  a0 := Tryz.isAgg0
  z0 := Tryz.sizeOf0
  v0 := Tryz.zeroValue0
  t3 := Tryz.underlying3
  a3 := Tryz.isAgg3
  z3 := Tryz.sizeOf3
  v3 := Tryz.zeroValue3
  t4 := Tryz.underlying4
  a4 := Tryz.isAgg4
  z4 := Tryz.sizeOf4
  v4 := Tryz.zeroValue4
  t5 := Tryz.underlying5
  a5 := Tryz.isAgg5
  z5 := Tryz.sizeOf5
  v5 := Tryz.zeroValue5
  t9 := Tryz.underlying9
  a9 := Tryz.isAgg9
  z9 := Tryz.sizeOf9
  v9 := Tryz.zeroValue9
  t21 := Tryz.underlying21
  a21 := Tryz.isAgg21
  z21 := Tryz.sizeOf21
  v21 := Tryz.zeroValue21
  t46 := Tryz.underlying102
  a46 := Tryz.isAgg102
  z46 := Tryz.sizeOf102
  v46 := Tryz.zeroValue102
  t105 := Tryz.underlying124
  a105 := Tryz.isAgg124
  z105 := Tryz.sizeOf124
  v105 := Tryz.zeroValue124
  t119 := Tryz.underlying233
  a119 := Tryz.isAgg233
  z119 := Tryz.sizeOf233
  t138 := Tryz.underlying235
  a138 := Tryz.isAgg235
  z138 := Tryz.sizeOf235
  v138 := Tryz.zeroValue235
  t139 := Tryz.underlying236
  a139 := Tryz.isAgg236
  z139 := Tryz.sizeOf236
  v139 := Tryz.zeroValue236
  g3 := by kernel_rfl
  g4 := by kernel_rfl }
open Go.RowKit Go.Lib in
open Go.RowKit Go.Lib in
def Tryz.lays151_ren : Go.Shelf.Ren := ⟨fun | 151 => 128 | 152 => 153 | 137 => 170 | 119 => 171 | 224 => 150 | 225 => 149 | 217 => 148 | 266 => 168 | n => n, fun | 9 => 9 | 21 => 21 | 4 => 4 | 3 => 3 | 5 => 5 | 0 => 0 | 46 => 102 | n => n, fun | n => n⟩
theorem Tryz.lays151 : Go.Proofs.Lays.n151 Tryz.prog Tryz.lays151_ren := {
  mixed := by kernel_rfl
  f119 := Tryz.func171.trans (congrArg some (by kernel_rfl))
  f137 := Tryz.func170.trans (congrArg some (by kernel_rfl))
  f151 := Tryz.func128.trans (congrArg some (by kernel_rfl))
  f152 := Tryz.func153.trans (congrArg some (by kernel_rfl))
  f217 := Tryz.func148.trans (congrArg some (by kernel_rfl))
  f224 := Tryz.func150.trans (congrArg some (by kernel_rfl))
  f225 := Tryz.func149.trans (congrArg some (by kernel_rfl))
  f266 := Tryz.func168.trans (congrArg some (by kernel_rfl))
  t0 := Tryz.underlying0
  a0 := Tryz.isAgg0
  z0 := Tryz.sizeOf0
  v0 := Tryz.zeroValue0
  t3 := Tryz.underlying3
  a3 := Tryz.isAgg3
  z3 := Tryz.sizeOf3
  v3 := Tryz.zeroValue3
  t4 := Tryz.underlying4
  a4 := Tryz.isAgg4
  z4 := Tryz.sizeOf4
  v4 := Tryz.zeroValue4
  t5 := Tryz.underlying5
  a5 := Tryz.isAgg5
  z5 := Tryz.sizeOf5
  v5 := Tryz.zeroValue5
  t9 := Tryz.underlying9
  a9 := Tryz.isAgg9
  z9 := Tryz.sizeOf9
  v9 := Tryz.zeroValue9
  t21 := Tryz.underlying21
  a21 := Tryz.isAgg21
  z21 := Tryz.sizeOf21
  v21 := Tryz.zeroValue21
  t46 := Tryz.underlying102
  a46 := Tryz.isAgg102
  z46 := Tryz.sizeOf102
  v46 := Tryz.zeroValue102 }
open Go.RowKit Go.Lib in
theorem Tryz.strings_ContainsRune_ascii (s : ByteArray) (r : Int) (w : World) (h0 : 0 ≤ r) (h1 : r < 128) :
    Calls Tryz.prog 128 #[.string s, .int .i32 r] w fun e w' => e = .returned (.bool (decide (0 ≤ Lib.indexByte s.data.toList r.toNat.toUInt8))) ∧ w' = w := Any.strings_ContainsRune_ascii Tryz.lays151 s r w h0 h1
open Go.RowKit Go.Lib in
open Go.RowKit Go.Lib in
open Go.RowKit Go.Lib in
open Go.RowKit Go.Lib in
/-- **unicode/utf8.DecodeRuneInString AT EVERY STRING.** (LAID: no walk: one application.) -/
theorem Tryz.utf8_DecodeRuneInString (s : ByteArray) (w : World) (hT : Lib.Utf8Tabs 1 2 w) :
    Calls Tryz.prog 55 #[.string s] w fun e w' => e = .returned (.tuple #[.int .i32 (Lib.decodeGo s).1, .int .i64 (Lib.decodeGo s).2]) ∧ Below w.heap.size w w' := Any.utf8_DecodeRuneInString Tryz.lays197 s w hT
open Go.RowKit Go.Lib in
open Go.RowKit Go.Lib in
open Go.RowKit Go.Lib in
theorem Tryz.strings_TrimLeftFunc_grows (g : Nat) (lb : Array Value) (eg : ∀ args w, (callFunc g args).run Tryz.prog w = .ok (.enter g args) w) (p : Nat → Bool) (s : ByteArray) (w : World) (hp : PredGrows Tryz.prog g lb p w) :
    Calls Tryz.prog 174 #[.string s, .func (.func g) #[] lb] w fun e w' => e = .returned (.string (Lib.trimLeftF p s)) ∧ Below w.heap.size w w' := Any.strings_TrimLeftFunc_grows Tryz.lays272 g lb eg p s w hp
open Go.RowKit Go.Lib in
open Go.RowKit Go.Lib in
theorem Tryz.strings_ContainsFunc_grows (g : Nat) (lb : Array Value) (eg : ∀ args w, (callFunc g args).run Tryz.prog w = .ok (.enter g args) w) (p : Nat → Bool) (s : ByteArray) (w : World) (hp : PredGrows Tryz.prog g lb p w) :
    Calls Tryz.prog 65 #[.string s, .func (.func g) #[] lb] w fun e w' => e = .returned (.bool (decide (0 ≤ Lib.idxFunc p true s))) ∧ Below w.heap.size w w' := Any.strings_ContainsFunc_grows Tryz.laysGw17 g lb eg p s w hp
end Go.Proofs
