/- The contracts of Go's library that this seat's program can use, laid at its translation (by the kit's one command, in plain words). -/
import Derived.Shelf.Strings.SlTrimAscii
import Derived.Shelf.Strings.Builder1
import Derived.Shelf.Strings.Builder2
import Derived.Shelf.Strings.Trim
import Derived.Shelf.Small.Utf8
import Derived.Shelf.Small.Strs
import Derived.Shelf.Strings.BuilderF
import Derived.Shelf.Strings.BuilderK
import Derived.Shelf.Strings.Builder2Cap
import Derived.Shelf.Strconv.Atoi
import Derived.Shelf.Strconv.Itoa0
import Derived.Shelf.Strconv.Itoa1
import Derived.Shelf.LaysM
import Derived.Shelf.Strconv.Itoa2
import Derived.Shelf.Strconv.Itoa3
import Derived.Shelf.Strconv.AtoiErrFast
import Derived.Shelf.Strconv.ParseIntEmpty
import Derived.Shelf.Strconv.AtoiFail
import Derived.Shelf.Strconv.Clone
import Derived.Shelf.Strconv.SyntaxError
import Derived.Shelf.LaysC
import Derived.Shelf.Strconv.ToError
import Derived.Shelf.Strconv.Lower
import Derived.Shelf.Strconv.ParseUint10
import Derived.Shelf.Strconv.ParseUint10Empty
import Derived.Shelf.Strconv.ParseUint10Any
import Derived.Shelf.Strconv.ParseInt10
import Derived.Shelf.Strconv.AtoiLong
import Derived.Shelf.Strconv.AtoiInnerAll
import Derived.Shelf.Strconv.RangeError
import Derived.Shelf.Strconv.ToErrorRange
import Derived.Shelf.Strconv.AtoiAll
import Derived.Shelf.Strconv.ErrVarAll
import Derived.Shelf.Strconv.ParseUintEmpty
import Derived.Shelf.Strconv.ParseUint10b64
import Derived.Shelf.Strconv.ParseUint10b32
import Derived.Shelf.Strconv.ParseUint10b16
import Derived.Shelf.Strconv.ParseUint10b8
import Derived.Shelf.Strconv.ParseUint10At
import Derived.Ground.MpProg
import Derived.Shelf.Pu.ParseUintPublic10
import Derived.Shelf.Pu.ErrVarParseUint
import Derived.Shelf.Strings.Search1
import Derived.Shelf.GgClosure.StringsIndexFunc
import Derived.Ground.GgwProg
import Derived.Shelf.GgClosure.StringsIndexFuncTop
import Derived.Shelf.GgClosure.StringsRunes
import Derived.Shelf.Strings.Prefix
import Derived.Shelf.Unicode.Decode
import Derived.Shelf.Strings.Runes
import Derived.Shelf.Strings.AsciiSet
import Derived.Shelf.Bits.Mul64
import Derived.Shelf.Strings.Repeat
import Derived.Shelf.Unicode.DecodeSlow
import Derived.Shelf.Unicode.DecodeAny
import Derived.Shelf.Unicode.DecodeLast
import Derived.Shelf.Strings.FuncGrows
import Derived.Shelf.Strings.BuilderCap
import Derived.Test.YtnomgomdobiohaaGreatDoorProg
namespace Go.Proofs
open Go.Shelf
def Tryz.lays240_ren : Go.Shelf.Ren := ⟨fun | 240 => 45 | 276 => 66 | n => n, fun | 0 => 0 | 4 => 4 | 9 => 9 | 20 => 20 | 37 => 42 | 70 => 41 | 72 => 44 | 164 => 89 | n => n, fun  | n => n⟩
def Tryz.lays166_ren : Go.Shelf.Ren := ⟨fun | 166 => 21 | 240 => 45 | 276 => 66 | n => n, fun | 0 => 0 | 3 => 3 | 4 => 4 | 5 => 5 | 9 => 9 | 20 => 20 | 37 => 42 | 70 => 41 | 72 => 44 | 75 => 46 | 80 => 53 | 164 => 89 | n => n, fun  | n => n⟩
theorem Tryz.lays166 : Go.Proofs.Lays.n166 Tryz.prog Tryz.lays166_ren := {
  mixed := by kernel_rfl
  f166 := Tryz.func21.trans (congrArg some (by kernel_rfl))
  f240 := Tryz.func45.trans (congrArg some (by kernel_rfl))
  f276 := Tryz.func66.trans (congrArg some (by kernel_rfl))
  t0 := Tryz.underlying0
  a0 := Tryz.isAgg0
  z0 := Tryz.sizeOf0
  v0 := Tryz.zeroValue0
  t3 := Tryz.underlying3
  a3 := Tryz.isAgg3
  z3 := Tryz.sizeOf3
  v3 := Tryz.zeroValue3
  t4 := Tryz.underlying4
  a4 := Tryz.isAgg4
  z4 := Tryz.sizeOf4
  v4 := Tryz.zeroValue4
  t9 := Tryz.underlying9
  a9 := Tryz.isAgg9
  z9 := Tryz.sizeOf9
  v9 := Tryz.zeroValue9
  t20 := Tryz.underlying20
  a20 := Tryz.isAgg20
  z20 := Tryz.sizeOf20
  v20 := Tryz.zeroValue20
  t37 := Tryz.underlying42
  a37 := Tryz.isAgg42
  z37 := Tryz.sizeOf42
  v37 := Tryz.zeroValue42
  t70 := Tryz.underlying41
  a70 := Tryz.isAgg41
  z70 := Tryz.sizeOf41
  v70 := Tryz.zeroValue41
  t72 := Tryz.underlying44
  a72 := Tryz.isAgg44
  z72 := Tryz.sizeOf44
  v72 := Tryz.zeroValue44
  t75 := Tryz.underlying46
  a75 := Tryz.isAgg46
  z75 := Tryz.sizeOf46
  v75 := Tryz.zeroValue46
  t164 := Tryz.underlying89
  a164 := Tryz.isAgg89
  z164 := Tryz.sizeOf89
  v164 := Tryz.zeroValue89 }
def Tryz.lays167_ren : Go.Shelf.Ren := ⟨fun | 167 => 19 | 240 => 45 | 276 => 66 | n => n, fun | 0 => 0 | 4 => 4 | 5 => 5 | 9 => 9 | 20 => 20 | 37 => 42 | 70 => 41 | 72 => 44 | 75 => 46 | 80 => 53 | 164 => 89 | n => n, fun  | n => n⟩
theorem Tryz.lays167 : Go.Proofs.Lays.n167 Tryz.prog Tryz.lays167_ren := {
  mixed := by kernel_rfl
  f167 := Tryz.func19.trans (congrArg some (by kernel_rfl))
  f240 := Tryz.func45.trans (congrArg some (by kernel_rfl))
  f276 := Tryz.func66.trans (congrArg some (by kernel_rfl))
  t0 := Tryz.underlying0
  a0 := Tryz.isAgg0
  z0 := Tryz.sizeOf0
  v0 := Tryz.zeroValue0
  t4 := Tryz.underlying4
  a4 := Tryz.isAgg4
  z4 := Tryz.sizeOf4
  v4 := Tryz.zeroValue4
  t5 := Tryz.underlying5
  a5 := Tryz.isAgg5
  z5 := Tryz.sizeOf5
  v5 := Tryz.zeroValue5
  t9 := Tryz.underlying9
  a9 := Tryz.isAgg9
  z9 := Tryz.sizeOf9
  v9 := Tryz.zeroValue9
  t20 := Tryz.underlying20
  a20 := Tryz.isAgg20
  z20 := Tryz.sizeOf20
  v20 := Tryz.zeroValue20
  t37 := Tryz.underlying42
  a37 := Tryz.isAgg42
  z37 := Tryz.sizeOf42
  v37 := Tryz.zeroValue42
  t70 := Tryz.underlying41
  a70 := Tryz.isAgg41
  z70 := Tryz.sizeOf41
  v70 := Tryz.zeroValue41
  t72 := Tryz.underlying44
  a72 := Tryz.isAgg44
  z72 := Tryz.sizeOf44
  v72 := Tryz.zeroValue44
  t75 := Tryz.underlying46
  a75 := Tryz.isAgg46
  z75 := Tryz.sizeOf46
  v75 := Tryz.zeroValue46
  t164 := Tryz.underlying89
  a164 := Tryz.isAgg89
  z164 := Tryz.sizeOf89
  v164 := Tryz.zeroValue89 }
theorem Tryz.Builder_Extra_166 : Builder.Extra Tryz.prog Tryz.lays166_ren := {
  sizeBuilder := by kernel_rfl
  liesBuilder := by kernel_rfl
  t5 := Tryz.underlying5
  a5 := Tryz.isAgg5
  z5 := Tryz.sizeOf5
  v5 := Tryz.zeroValue5
  infoByte := by kernel_rfl
  cellsByte := by kernel_rfl
  sizeByte := by kernel_rfl
  neB5 := by decide }
open Go.RowKit in
theorem Tryz.Builder_WriteString_k (B b : Nat) (bs : List Value) (s : ByteArray) (w : World) (h : Lib.IsBuilderF 44 5 B b bs w) (hlen : bs.length + s.size ≤ 140737488355328) (hBw : B ≤ w.heap.size) :
    Calls Tryz.prog 21 #[.pointer (some ⟨b, 0, none⟩), .string s] w fun e w' => e = .returned (.tuple #[.int .i64 s.size, .nilIface]) ∧ (Lib.BuilderAtF 44 5 B b (.pointer (some ⟨b, 0, none⟩)) (bs ++ Lib.strCells s) w' ∧ Below B w w' ∧ Lib.OthersKept 5 (some b) w w') := Any.Builder_WriteString_k Tryz.lays166 Tryz.Builder_Extra_166 B b bs s w h hlen hBw
theorem Tryz.Builder_Extra_167 : Builder.Extra Tryz.prog Tryz.lays167_ren := {
  sizeBuilder := by kernel_rfl
  liesBuilder := by kernel_rfl
  t5 := Tryz.underlying5
  a5 := Tryz.isAgg5
  z5 := Tryz.sizeOf5
  v5 := Tryz.zeroValue5
  infoByte := by kernel_rfl
  cellsByte := by kernel_rfl
  sizeByte := by kernel_rfl
  neB5 := by decide }
open Go.RowKit in
theorem Tryz.Builder_WriteByte_k (B b : Nat) (bs : List Value) (c : Int) (w : World) (h : Lib.IsBuilderF 44 5 B b bs w) (hlen : bs.length + 1 ≤ 140737488355328) (hBw : B ≤ w.heap.size) :
    Calls Tryz.prog 19 #[.pointer (some ⟨b, 0, none⟩), .int .u8 c] w fun e w' => e = .returned .nilIface ∧ (Lib.BuilderAtF 44 5 B b (.pointer (some ⟨b, 0, none⟩)) (bs ++ [.int .u8 c]) w' ∧ Below B w w' ∧ Lib.OthersKept 5 (some b) w w') := Any.Builder_WriteByte_k Tryz.lays167 Tryz.Builder_Extra_167 B b bs c w h hlen hBw
def Tryz.lays170_ren : Go.Shelf.Ren := ⟨fun | 170 => 50 | n => n, fun | 70 => 41 | 3 => 3 | 0 => 0 | 72 => 44 | 37 => 42 | 5 => 5 | n => n, fun | n => n⟩
theorem Tryz.lays170 : Go.Proofs.Lays.n170 Tryz.prog Tryz.lays170_ren := {
  mixed := by kernel_rfl
  f170 := Tryz.func50.trans (congrArg some (by kernel_rfl))
  t0 := Tryz.underlying0
  a0 := Tryz.isAgg0
  z0 := Tryz.sizeOf0
  v0 := Tryz.zeroValue0
  t3 := Tryz.underlying3
  a3 := Tryz.isAgg3
  z3 := Tryz.sizeOf3
  v3 := Tryz.zeroValue3
  t37 := Tryz.underlying42
  a37 := Tryz.isAgg42
  z37 := Tryz.sizeOf42
  v37 := Tryz.zeroValue42
  t70 := Tryz.underlying41
  a70 := Tryz.isAgg41
  z70 := Tryz.sizeOf41
  v70 := Tryz.zeroValue41
  t72 := Tryz.underlying44
  a72 := Tryz.isAgg44
  z72 := Tryz.sizeOf44
  v72 := Tryz.zeroValue44 }
def Tryz.lays169_ren : Go.Shelf.Ren := ⟨fun | 169 => 24 | n => n, fun | 70 => 41 | 9 => 9 | 0 => 0 | 72 => 44 | 37 => 42 | 127 => 76 | 3 => 3 | 5 => 5 | n => n, fun | n => n⟩
theorem Tryz.lays169 : Go.Proofs.Lays.n169 Tryz.prog Tryz.lays169_ren := {
  mixed := by kernel_rfl
  f169 := Tryz.func24.trans (congrArg some (by kernel_rfl))
  t0 := Tryz.underlying0
  a0 := Tryz.isAgg0
  z0 := Tryz.sizeOf0
  v0 := Tryz.zeroValue0
  t3 := Tryz.underlying3
  a3 := Tryz.isAgg3
  z3 := Tryz.sizeOf3
  v3 := Tryz.zeroValue3
  t9 := Tryz.underlying9
  a9 := Tryz.isAgg9
  z9 := Tryz.sizeOf9
  v9 := Tryz.zeroValue9
  t37 := Tryz.underlying42
  a37 := Tryz.isAgg42
  z37 := Tryz.sizeOf42
  v37 := Tryz.zeroValue42
  t70 := Tryz.underlying41
  a70 := Tryz.isAgg41
  z70 := Tryz.sizeOf41
  v70 := Tryz.zeroValue41
  t72 := Tryz.underlying44
  a72 := Tryz.isAgg44
  z72 := Tryz.sizeOf44
  v72 := Tryz.zeroValue44
  t127 := Tryz.underlying76
  a127 := Tryz.isAgg76
  z127 := Tryz.sizeOf76
  v127 := Tryz.zeroValue76 }
theorem Tryz.Builder_Extra_169 : Builder.Extra Tryz.prog Tryz.lays169_ren := {
  sizeBuilder := by kernel_rfl
  liesBuilder := by kernel_rfl
  t5 := Tryz.underlying5
  a5 := Tryz.isAgg5
  z5 := Tryz.sizeOf5
  v5 := Tryz.zeroValue5
  infoByte := by kernel_rfl
  cellsByte := by kernel_rfl
  sizeByte := by kernel_rfl
  neB5 := by decide }
def Tryz.lays241_ren : Go.Shelf.Ren := ⟨fun | 241 => 71 | 277 => 85 | n => n, fun | 70 => 41 | 3 => 3 | 0 => 0 | 72 => 44 | 37 => 42 | 5 => 5 | n => n, fun | n => n⟩
def Tryz.lays165_ren : Go.Shelf.Ren := ⟨fun | 165 => 49 | 240 => 45 | 241 => 71 | 276 => 66 | 277 => 85 | n => n, fun | 70 => 41 | 3 => 3 | 0 => 0 | 4 => 4 | 9 => 9 | 20 => 20 | 72 => 44 | 37 => 42 | 164 => 89 | 5 => 5 | n => n, fun | n => n⟩
def Tryz.lays231_ren : Go.Shelf.Ren := ⟨fun | 231 => 52 | n => n, fun | 9 => 9 | 5 => 5 | 3 => 3 | 4 => 4 | n => n, fun | n => n⟩
def Tryz.lays232_ren : Go.Shelf.Ren := ⟨fun | 232 => 56 | n => n, fun | 9 => 9 | 5 => 5 | 3 => 3 | 4 => 4 | n => n, fun | n => n⟩
def Tryz.lays161_ren : Go.Shelf.Ren := ⟨fun | 161 => 30 | 231 => 52 | 227 => 53 | 233 => 54 | 235 => 55 | 228 => 72 | 197 => 73 | 151 => 74 | 260 => 86 | 152 => 87 | 137 => 102 | 119 => 103 | 224 => 104 | 225 => 105 | 217 => 110 | 266 => 111 | n => n, fun | 9 => 9 | 4 => 4 | 3 => 3 | 5 => 5 | 117 => 81 | 116 => 80 | 0 => 0 | 124 => 84 | 105 => 98 | 21 => 21 | 119 => 125 | 46 => 71 | 139 => 128 | 138 => 127 | n => n, fun | 3 => 2 | 4 => 3 | n => n⟩
theorem Tryz.lays161 : Go.Proofs.Lays.n161 Tryz.prog Tryz.lays161_ren := {
  mixed := by kernel_rfl
  f119 := Tryz.func103.trans (congrArg some (by kernel_rfl))
  f137 := Tryz.func102.trans (congrArg some (by kernel_rfl))
  f151 := Tryz.func74.trans (congrArg some (by kernel_rfl))
  f152 := Tryz.func87.trans (congrArg some (by kernel_rfl))
  f161 := Tryz.func30.trans (congrArg some (by kernel_rfl))
  f197 := Tryz.func73.trans (congrArg some (by kernel_rfl))
  f217 := Tryz.func110.trans (congrArg some (by kernel_rfl))
  f224 := Tryz.func104.trans (congrArg some (by kernel_rfl))
  f225 := Tryz.func105.trans (congrArg some (by kernel_rfl))
  f227 := Tryz.func53.trans (congrArg some (by kernel_rfl))
  f228 := Tryz.func72.trans (congrArg some (by kernel_rfl))
  f231 := Tryz.func52.trans (congrArg some (by kernel_rfl))
  f233 := Tryz.func54.trans (congrArg some (by kernel_rfl))
  f235 := Tryz.func55.trans (congrArg some (by kernel_rfl))
  f260 := Tryz.func86.trans (congrArg some (by kernel_rfl))
  f266 := Tryz.func111.trans (congrArg some (by kernel_rfl))
  t0 := Tryz.underlying0
  a0 := Tryz.isAgg0
  z0 := Tryz.sizeOf0
  v0 := Tryz.zeroValue0
  t3 := Tryz.underlying3
  a3 := Tryz.isAgg3
  z3 := Tryz.sizeOf3
  v3 := Tryz.zeroValue3
  t4 := Tryz.underlying4
  a4 := Tryz.isAgg4
  z4 := Tryz.sizeOf4
  v4 := Tryz.zeroValue4
  t5 := Tryz.underlying5
  a5 := Tryz.isAgg5
  z5 := Tryz.sizeOf5
  v5 := Tryz.zeroValue5
  t9 := Tryz.underlying9
  a9 := Tryz.isAgg9
  z9 := Tryz.sizeOf9
  v9 := Tryz.zeroValue9
  t21 := Tryz.underlying21
  a21 := Tryz.isAgg21
  z21 := Tryz.sizeOf21
  v21 := Tryz.zeroValue21
  t46 := Tryz.underlying71
  a46 := Tryz.isAgg71
  z46 := Tryz.sizeOf71
  v46 := Tryz.zeroValue71
  t105 := Tryz.underlying98
  a105 := Tryz.isAgg98
  z105 := Tryz.sizeOf98
  v105 := Tryz.zeroValue98
  t116 := Tryz.underlying80
  a116 := Tryz.isAgg80
  z116 := Tryz.sizeOf80
  t117 := Tryz.underlying81
  a117 := Tryz.isAgg81
  z117 := Tryz.sizeOf81
  v117 := Tryz.zeroValue81
  t119 := Tryz.underlying125
  a119 := Tryz.isAgg125
  z119 := Tryz.sizeOf125
  t124 := Tryz.underlying84
  a124 := Tryz.isAgg84
  z124 := Tryz.sizeOf84
  v124 := Tryz.zeroValue84
  t138 := Tryz.underlying127
  a138 := Tryz.isAgg127
  z138 := Tryz.sizeOf127
  v138 := Tryz.zeroValue127
  t139 := Tryz.underlying128
  a139 := Tryz.isAgg128
  z139 := Tryz.sizeOf128
  v139 := Tryz.zeroValue128
  g3 := by kernel_rfl
  g4 := by kernel_rfl }
open Go.RowKit in
theorem Tryz.strings_TrimLeft_one (s : ByteArray) (c : UInt8) (hc : c.toNat < 128) (w : World) :
    Calls Tryz.prog 30 #[.string s, .string ⟨#[c]⟩] w fun e w' => e = .returned (.string ⟨(Lib.trimLeftB s.data.toList c).toArray⟩) ∧ w' = w := Any.strings_TrimLeft_one Tryz.lays161 s c hc w
def Tryz.lays162_ren : Go.Shelf.Ren := ⟨fun | 162 => 32 | 232 => 56 | 227 => 53 | 234 => 57 | 236 => 58 | 228 => 72 | 271 => 75 | 151 => 74 | 120 => 88 | 197 => 73 | 152 => 87 | 260 => 86 | 137 => 102 | 119 => 103 | 224 => 104 | 225 => 105 | 217 => 110 | 266 => 111 | n => n, fun | 9 => 9 | 4 => 4 | 3 => 3 | 5 => 5 | 117 => 81 | 116 => 80 | 0 => 0 | 124 => 84 | 21 => 21 | 105 => 98 | 46 => 71 | 119 => 125 | 139 => 128 | 138 => 127 | n => n, fun | 3 => 2 | 4 => 3 | n => n⟩
theorem Tryz.lays162 : Go.Proofs.Lays.n162 Tryz.prog Tryz.lays162_ren := {
  mixed := by kernel_rfl
  f119 := Tryz.func103.trans (congrArg some (by kernel_rfl))
  f120 := Tryz.func88.trans (congrArg some (by kernel_rfl))
  f137 := Tryz.func102.trans (congrArg some (by kernel_rfl))
  f151 := Tryz.func74.trans (congrArg some (by kernel_rfl))
  f152 := Tryz.func87.trans (congrArg some (by kernel_rfl))
  f162 := Tryz.func32.trans (congrArg some (by kernel_rfl))
  f197 := Tryz.func73.trans (congrArg some (by kernel_rfl))
  f217 := Tryz.func110.trans (congrArg some (by kernel_rfl))
  f224 := Tryz.func104.trans (congrArg some (by kernel_rfl))
  f225 := Tryz.func105.trans (congrArg some (by kernel_rfl))
  f227 := Tryz.func53.trans (congrArg some (by kernel_rfl))
  f228 := Tryz.func72.trans (congrArg some (by kernel_rfl))
  f232 := Tryz.func56.trans (congrArg some (by kernel_rfl))
  f234 := Tryz.func57.trans (congrArg some (by kernel_rfl))
  f236 := Tryz.func58.trans (congrArg some (by kernel_rfl))
  f260 := Tryz.func86.trans (congrArg some (by kernel_rfl))
  f266 := Tryz.func111.trans (congrArg some (by kernel_rfl))
  f271 := Tryz.func75.trans (congrArg some (by kernel_rfl))
  t0 := Tryz.underlying0
  a0 := Tryz.isAgg0
  z0 := Tryz.sizeOf0
  v0 := Tryz.zeroValue0
  t3 := Tryz.underlying3
  a3 := Tryz.isAgg3
  z3 := Tryz.sizeOf3
  v3 := Tryz.zeroValue3
  t4 := Tryz.underlying4
  a4 := Tryz.isAgg4
  z4 := Tryz.sizeOf4
  v4 := Tryz.zeroValue4
  t5 := Tryz.underlying5
  a5 := Tryz.isAgg5
  z5 := Tryz.sizeOf5
  v5 := Tryz.zeroValue5
  t9 := Tryz.underlying9
  a9 := Tryz.isAgg9
  z9 := Tryz.sizeOf9
  v9 := Tryz.zeroValue9
  t21 := Tryz.underlying21
  a21 := Tryz.isAgg21
  z21 := Tryz.sizeOf21
  v21 := Tryz.zeroValue21
  t46 := Tryz.underlying71
  a46 := Tryz.isAgg71
  z46 := Tryz.sizeOf71
  v46 := Tryz.zeroValue71
  t105 := Tryz.underlying98
  a105 := Tryz.isAgg98
  z105 := Tryz.sizeOf98
  v105 := Tryz.zeroValue98
  t116 := Tryz.underlying80
  a116 := Tryz.isAgg80
  z116 := Tryz.sizeOf80
  t117 := Tryz.underlying81
  a117 := Tryz.isAgg81
  z117 := Tryz.sizeOf81
  v117 := Tryz.zeroValue81
  t119 := Tryz.underlying125
  a119 := Tryz.isAgg125
  z119 := Tryz.sizeOf125
  t124 := Tryz.underlying84
  a124 := Tryz.isAgg84
  z124 := Tryz.sizeOf84
  v124 := Tryz.zeroValue84
  t138 := Tryz.underlying127
  a138 := Tryz.isAgg127
  z138 := Tryz.sizeOf127
  v138 := Tryz.zeroValue127
  t139 := Tryz.underlying128
  a139 := Tryz.isAgg128
  z139 := Tryz.sizeOf128
  v139 := Tryz.zeroValue128
  g3 := by kernel_rfl
  g4 := by kernel_rfl }
open Go.RowKit in
theorem Tryz.strings_TrimRight_one (s : ByteArray) (c : UInt8) (hc : c.toNat < 128) (w : World) (hs : s.size ≤ 9223372036854775807) :
    Calls Tryz.prog 32 #[.string s, .string ⟨#[c]⟩] w fun e w' => e = .returned (.string ⟨(Lib.trimRightB s.data.toList c).toArray⟩) ∧ w' = w := Any.strings_TrimRight_one Tryz.lays162 s c hc w hs
def Tryz.lays160_ren : Go.Shelf.Ren := ⟨fun | 160 => 59 | 232 => 56 | 231 => 52 | 227 => 53 | 234 => 57 | 233 => 54 | 236 => 58 | 235 => 55 | 228 => 72 | 271 => 75 | 151 => 74 | 197 => 73 | 120 => 88 | 152 => 87 | 260 => 86 | 137 => 102 | 119 => 103 | 224 => 104 | 225 => 105 | 217 => 110 | 266 => 111 | n => n, fun | 9 => 9 | 4 => 4 | 3 => 3 | 5 => 5 | 117 => 81 | 116 => 80 | 0 => 0 | 124 => 84 | 21 => 21 | 105 => 98 | 46 => 71 | 119 => 125 | 139 => 128 | 138 => 127 | n => n, fun | 3 => 2 | 4 => 3 | n => n⟩
theorem Tryz.lays160 : Go.Proofs.Lays.n160 Tryz.prog Tryz.lays160_ren := {
  mixed := by kernel_rfl
  f119 := Tryz.func103.trans (congrArg some (by kernel_rfl))
  f120 := Tryz.func88.trans (congrArg some (by kernel_rfl))
  f137 := Tryz.func102.trans (congrArg some (by kernel_rfl))
  f151 := Tryz.func74.trans (congrArg some (by kernel_rfl))
  f152 := Tryz.func87.trans (congrArg some (by kernel_rfl))
  f160 := Tryz.func59.trans (congrArg some (by kernel_rfl))
  f197 := Tryz.func73.trans (congrArg some (by kernel_rfl))
  f217 := Tryz.func110.trans (congrArg some (by kernel_rfl))
  f224 := Tryz.func104.trans (congrArg some (by kernel_rfl))
  f225 := Tryz.func105.trans (congrArg some (by kernel_rfl))
  f227 := Tryz.func53.trans (congrArg some (by kernel_rfl))
  f228 := Tryz.func72.trans (congrArg some (by kernel_rfl))
  f231 := Tryz.func52.trans (congrArg some (by kernel_rfl))
  f232 := Tryz.func56.trans (congrArg some (by kernel_rfl))
  f233 := Tryz.func54.trans (congrArg some (by kernel_rfl))
  f234 := Tryz.func57.trans (congrArg some (by kernel_rfl))
  f235 := Tryz.func55.trans (congrArg some (by kernel_rfl))
  f236 := Tryz.func58.trans (congrArg some (by kernel_rfl))
  f260 := Tryz.func86.trans (congrArg some (by kernel_rfl))
  f266 := Tryz.func111.trans (congrArg some (by kernel_rfl))
  f271 := Tryz.func75.trans (congrArg some (by kernel_rfl))
  t0 := Tryz.underlying0
  a0 := Tryz.isAgg0
  z0 := Tryz.sizeOf0
  v0 := Tryz.zeroValue0
  t3 := Tryz.underlying3
  a3 := Tryz.isAgg3
  z3 := Tryz.sizeOf3
  v3 := Tryz.zeroValue3
  t4 := Tryz.underlying4
  a4 := Tryz.isAgg4
  z4 := Tryz.sizeOf4
  v4 := Tryz.zeroValue4
  t5 := Tryz.underlying5
  a5 := Tryz.isAgg5
  z5 := Tryz.sizeOf5
  v5 := Tryz.zeroValue5
  t9 := Tryz.underlying9
  a9 := Tryz.isAgg9
  z9 := Tryz.sizeOf9
  v9 := Tryz.zeroValue9
  t21 := Tryz.underlying21
  a21 := Tryz.isAgg21
  z21 := Tryz.sizeOf21
  v21 := Tryz.zeroValue21
  t46 := Tryz.underlying71
  a46 := Tryz.isAgg71
  z46 := Tryz.sizeOf71
  v46 := Tryz.zeroValue71
  t105 := Tryz.underlying98
  a105 := Tryz.isAgg98
  z105 := Tryz.sizeOf98
  v105 := Tryz.zeroValue98
  t116 := Tryz.underlying80
  a116 := Tryz.isAgg80
  z116 := Tryz.sizeOf80
  t117 := Tryz.underlying81
  a117 := Tryz.isAgg81
  z117 := Tryz.sizeOf81
  v117 := Tryz.zeroValue81
  t119 := Tryz.underlying125
  a119 := Tryz.isAgg125
  z119 := Tryz.sizeOf125
  t124 := Tryz.underlying84
  a124 := Tryz.isAgg84
  z124 := Tryz.sizeOf84
  v124 := Tryz.zeroValue84
  t138 := Tryz.underlying127
  a138 := Tryz.isAgg127
  z138 := Tryz.sizeOf127
  v138 := Tryz.zeroValue127
  t139 := Tryz.underlying128
  a139 := Tryz.isAgg128
  z139 := Tryz.sizeOf128
  v139 := Tryz.zeroValue128
  g3 := by kernel_rfl
  g4 := by kernel_rfl }
def Tryz.lays119_ren : Go.Shelf.Ren := ⟨fun | 119 => 103 | n => n, fun | 21 => 21 | 4 => 4 | n => n, fun | n => n⟩
def Tryz.lays120_ren : Go.Shelf.Ren := ⟨fun | 120 => 88 | n => n, fun | 5 => 5 | 4 => 4 | n => n, fun | n => n⟩
theorem Tryz.lays120 : Go.Proofs.Lays.n120 Tryz.prog Tryz.lays120_ren := {
  mixed := by kernel_rfl
  f120 := Tryz.func88.trans (congrArg some (by kernel_rfl))
  t4 := Tryz.underlying4
  a4 := Tryz.isAgg4
  z4 := Tryz.sizeOf4
  v4 := Tryz.zeroValue4
  t5 := Tryz.underlying5
  a5 := Tryz.isAgg5
  z5 := Tryz.sizeOf5
  v5 := Tryz.zeroValue5 }
theorem Tryz.utf8_RuneStart (b : Int) (w : World) (h0 : 0 ≤ b) (h1 : b < 256) :
    Calls Tryz.prog 88 #[.int .u8 b] w fun e w' => e = .returned (.bool (Lib.runeStart b)) ∧ w' = w := Any.utf8_RuneStart Tryz.lays120 b w h0 h1
def Tryz.lays137_ren : Go.Shelf.Ren := ⟨fun | 137 => 102 | 217 => 110 | 266 => 111 | n => n, fun | 9 => 9 | 5 => 5 | 3 => 3 | n => n, fun | n => n⟩
open Go.RowKit in
theorem Tryz.Builder_Len_f (B b : Nat) (bs : List Value) (w : World) (h : Lib.IsBuilderF 44 5 B b bs w) :
    Calls Tryz.prog 50 #[.pointer (some ⟨b, 0, none⟩)] w fun e w' => e = .returned (.int .i64 bs.length) ∧ w' = w := Any.Builder_Len_f Tryz.lays170 B b bs w h
open Go.RowKit in
theorem Tryz.Builder_String_any_k (B b : Nat) (l : List UInt8) (w : World) (h : Lib.IsBuilderF 44 5 B b (Lib.byteCells l) w) (hBw : B ≤ w.heap.size) :
    Calls Tryz.prog 24 #[.pointer (some ⟨b, 0, none⟩)] w fun e w' => e = .returned (.string ⟨l.toArray⟩) ∧ (Lib.IsBuilderF 44 5 B b (Lib.byteCells l) w' ∧ Below B w w' ∧ Lib.OthersKept 5 (some b) w w') := Any.Builder_String_any_k Tryz.lays169 Tryz.Builder_Extra_169 B b l w h hBw
def Tryz.lays244_ren : Go.Shelf.Ren := ⟨fun | 244 => 80 | 247 => 96 | 287 => 76 | 321 => 89 | 322 => 90 | n => n, fun | 9 => 9 | 3 => 3 | 75 => 46 | 4 => 4 | 5 => 5 | 167 => 112 | 37 => 42 | 0 => 0 | 85 => 117 | 2 => 2 | 53 => 34 | 175 => 85 | 46 => 71 | 21 => 21 | 80 => 53 | n => n, fun | n => n⟩
def Tryz.lays172_ren : Go.Shelf.Ren := ⟨fun | 172 => 65 | 244 => 80 | 245 => 77 | 247 => 96 | 279 => 91 | 280 => 92 | 281 => 93 | 282 => 94 | 287 => 76 | 316 => 106 | 171 => 22 | 205 => 107 | 321 => 89 | 322 => 90 | 243 => 46 | 246 => 67 | 283 => 81 | 284 => 82 | 285 => 83 | 286 => 84 | 129 => 98 | 317 => 97 | 318 => 99 | 319 => 100 | 320 => 101 | 337 => 108 | 338 => 109 | n => n, fun | 9 => 9 | 3 => 3 | 75 => 46 | 76 => 49 | 4 => 4 | 5 => 5 | 167 => 112 | 37 => 42 | 0 => 0 | 85 => 117 | 2 => 2 | 168 => 114 | 53 => 34 | 175 => 85 | 46 => 71 | 210 => 131 | 127 => 76 | 145 => 136 | 143 => 134 | 21 => 21 | 171 => 105 | 173 => 108 | 212 => 121 | 51 => 92 | 20 => 20 | 213 => 122 | 232 => 137 | 233 => 138 | 80 => 53 | n => n, fun | 15 => 4 | 16 => 5 | 17 => 0 | 18 => 6 | 19 => 7 | n => n⟩
def Tryz.lays129_ren : Go.Shelf.Ren := ⟨fun | 129 => 98 | n => n, fun | 53 => 34 | 3 => 3 | 4 => 4 | 46 => 71 | 5 => 5 | 9 => 9 | n => n, fun | n => n⟩
theorem Tryz.lays129 : Go.Proofs.Lays.n129 Tryz.prog Tryz.lays129_ren := {
  mixed := by kernel_rfl
  f129 := Tryz.func98.trans (congrArg some (by kernel_rfl))
  t3 := Tryz.underlying3
  a3 := Tryz.isAgg3
  z3 := Tryz.sizeOf3
  v3 := Tryz.zeroValue3
  t4 := Tryz.underlying4
  a4 := Tryz.isAgg4
  z4 := Tryz.sizeOf4
  v4 := Tryz.zeroValue4
  t5 := Tryz.underlying5
  a5 := Tryz.isAgg5
  z5 := Tryz.sizeOf5
  v5 := Tryz.zeroValue5
  t9 := Tryz.underlying9
  a9 := Tryz.isAgg9
  z9 := Tryz.sizeOf9
  v9 := Tryz.zeroValue9
  t46 := Tryz.underlying71
  a46 := Tryz.isAgg71
  z46 := Tryz.sizeOf71
  v46 := Tryz.zeroValue71
  t53 := Tryz.underlying34
  a53 := Tryz.isAgg34
  z53 := Tryz.sizeOf34
  v53 := Tryz.zeroValue34 }
theorem Tryz.bits_Len64 (x : Int) (w : World) (h0 : 0 ≤ x) (h1 : x ≤ 18446744073709551615) :
    Calls Tryz.prog 98 #[.int .u64 x] w fun e w' => e = .returned (.int .i64 (Lib.bitLen x.toNat)) ∧ w' = w := Any.bits_Len64 Tryz.lays129 x w h0 h1
def Tryz.lays317_ren : Go.Shelf.Ren := ⟨fun | 317 => 97 | n => n, fun | 3 => 3 | 46 => 71 | n => n, fun | n => n⟩
def Tryz.lays318_ren : Go.Shelf.Ren := ⟨fun | 318 => 99 | n => n, fun | 3 => 3 | 4 => 4 | n => n, fun | n => n⟩
def Tryz.lays283_ren : Go.Shelf.Ren := ⟨fun | 283 => 81 | n => n, fun | 3 => 3 | 9 => 9 | 4 => 4 | n => n, fun | n => n⟩
theorem Tryz.lays283 : Go.Proofs.Lays.n283 Tryz.prog Tryz.lays283_ren := {
  mixed := by kernel_rfl
  f283 := Tryz.func81.trans (congrArg some (by kernel_rfl))
  t3 := Tryz.underlying3
  a3 := Tryz.isAgg3
  z3 := Tryz.sizeOf3
  v3 := Tryz.zeroValue3
  t4 := Tryz.underlying4
  a4 := Tryz.isAgg4
  z4 := Tryz.sizeOf4
  v4 := Tryz.zeroValue4
  t9 := Tryz.underlying9
  a9 := Tryz.isAgg9
  z9 := Tryz.sizeOf9
  v9 := Tryz.zeroValue9 }
open Go.Lib in
theorem Tryz.internal_strconv_small (i : Nat) (h : i < 100) (w : World) :
    Calls Tryz.prog 81 #[.int .i64 i] w fun e w' => e = .returned (.string ⟨(Lib.decDigits i).toArray⟩) ∧ w' = w := Any.internal_strconv_small Tryz.lays283 i h w
def Tryz.laysM284_ren : Go.Shelf.Ren := ⟨fun | 284 => 82 | 129 => 98 | 317 => 97 | 318 => 99 | n => n, fun | 53 => 34 | 3 => 3 | 212 => 121 | 0 => 0 | 4 => 4 | 46 => 71 | 5 => 5 | 9 => 9 | n => n, fun | 17 => 0 | n => n⟩
theorem Tryz.laysM284 : Go.Proofs.LaysM.n284 Tryz.prog Tryz.laysM284_ren := {
  mixed := by kernel_rfl
  f129 := Tryz.func98.trans (congrArg some (by kernel_rfl))
  f284 := Tryz.func82.trans (congrArg some (by kernel_rfl))
  f317 := Tryz.func97.trans (congrArg some (by kernel_rfl))
  f318 := Tryz.func99.trans (congrArg some (by kernel_rfl))
  t0 := Tryz.underlying0
  a0 := Tryz.isAgg0
  z0 := Tryz.sizeOf0
  v0 := Tryz.zeroValue0
  t3 := Tryz.underlying3
  a3 := Tryz.isAgg3
  z3 := Tryz.sizeOf3
  v3 := Tryz.zeroValue3
  t4 := Tryz.underlying4
  a4 := Tryz.isAgg4
  z4 := Tryz.sizeOf4
  v4 := Tryz.zeroValue4
  t5 := Tryz.underlying5
  a5 := Tryz.isAgg5
  z5 := Tryz.sizeOf5
  v5 := Tryz.zeroValue5
  t9 := Tryz.underlying9
  a9 := Tryz.isAgg9
  z9 := Tryz.sizeOf9
  v9 := Tryz.zeroValue9
  t46 := Tryz.underlying71
  a46 := Tryz.isAgg71
  z46 := Tryz.sizeOf71
  v46 := Tryz.zeroValue71
  t53 := Tryz.underlying34
  a53 := Tryz.isAgg34
  z53 := Tryz.sizeOf34
  v53 := Tryz.zeroValue34
  t212 := Tryz.underlying121
  a212 := Tryz.isAgg121
  z212 := Tryz.sizeOf121
  v212 := Tryz.zeroValue121
  g17 := by kernel_rfl
  i0 := by kernel_rfl
  i3 := by kernel_rfl
  i4 := by kernel_rfl
  i5 := by kernel_rfl
  i9 := by kernel_rfl
  i46 := by kernel_rfl
  i53 := by kernel_rfl
  i212 := by kernel_rfl
  m17 := by kernel_rfl }
open Go.Lib in
theorem Tryz.internal_strconv_numDigits (u : Nat) (h1 : 1 ≤ u) (h2 : u < 18446744073709551616) (w : World) (htab : Lib.TabIs Tryz.prog w "internal/strconv.uint64pow10" .u64 Lib.pow10Tab) :
    Calls Tryz.prog 82 #[.int .u64 u] w fun e w' => e = .returned (.int .i64 (Lib.nDigits u)) ∧ w' = w := Any.internal_strconv_numDigits Tryz.laysM284 u h1 h2 w htab
def Tryz.lays285_ren : Go.Shelf.Ren := ⟨fun | 285 => 83 | n => n, fun | 37 => 42 | 53 => 34 | 3 => 3 | 4 => 4 | 51 => 92 | 9 => 9 | 5 => 5 | 0 => 0 | n => n, fun | n => n⟩
theorem Tryz.lays285 : Go.Proofs.Lays.n285 Tryz.prog Tryz.lays285_ren := {
  mixed := by kernel_rfl
  f285 := Tryz.func83.trans (congrArg some (by kernel_rfl))
  t0 := Tryz.underlying0
  a0 := Tryz.isAgg0
  z0 := Tryz.sizeOf0
  v0 := Tryz.zeroValue0
  t3 := Tryz.underlying3
  a3 := Tryz.isAgg3
  z3 := Tryz.sizeOf3
  v3 := Tryz.zeroValue3
  t4 := Tryz.underlying4
  a4 := Tryz.isAgg4
  z4 := Tryz.sizeOf4
  v4 := Tryz.zeroValue4
  t5 := Tryz.underlying5
  a5 := Tryz.isAgg5
  z5 := Tryz.sizeOf5
  v5 := Tryz.zeroValue5
  t9 := Tryz.underlying9
  a9 := Tryz.isAgg9
  z9 := Tryz.sizeOf9
  v9 := Tryz.zeroValue9
  t37 := Tryz.underlying42
  a37 := Tryz.isAgg42
  z37 := Tryz.sizeOf42
  v37 := Tryz.zeroValue42
  t51 := Tryz.underlying92
  a51 := Tryz.isAgg92
  z51 := Tryz.sizeOf92
  v51 := Tryz.zeroValue92
  t53 := Tryz.underlying34
  a53 := Tryz.isAgg34
  z53 := Tryz.sizeOf34
  v53 := Tryz.zeroValue34 }
open Go.RowKit Go.Sort Go.Lib in
theorem Tryz.internal_strconv_formatBase10 (blk off cap : Nat) (u : Nat) (d : Array UInt8) (w : World) (hH : Holds (fun (b : UInt8) => Value.int .u8 (b.toNat : Int)) w blk off d) (hu : u < 10 ^ d.size) (hu64 : u < 18446744073709551616) (hsz : d.size < 4611686018427387904) :
    Calls Tryz.prog 83 #[.slice (some ⟨blk, off, none⟩) d.size cap, .int .u64 u] w fun e w' =>
      e = .returned (.tuple #[]) ∧ ∃ (n v' : Nat) (dk : Array UInt8), w' = (putRow (fun (b : UInt8) => Value.int .u8 (b.toNat : Int)) w blk off dk).drewN n ∧ FmtInv d.size u 0 v' dk := Any.internal_strconv_formatBase10 Tryz.lays285 blk off cap u d w hH hu hu64 hsz
def Tryz.laysM246_ren : Go.Shelf.Ren := ⟨fun | 246 => 67 | 283 => 81 | 284 => 82 | 285 => 83 | 286 => 84 | 129 => 98 | 317 => 97 | 318 => 99 | 319 => 100 | 320 => 101 | 337 => 108 | 338 => 109 | n => n, fun | 2 => 2 | 3 => 3 | 9 => 9 | 4 => 4 | 171 => 105 | 0 => 0 | 53 => 34 | 37 => 42 | 5 => 5 | 173 => 108 | 212 => 121 | 51 => 92 | 20 => 20 | 213 => 122 | 46 => 71 | 232 => 137 | 233 => 138 | n => n, fun | 17 => 0 | 18 => 6 | 19 => 7 | n => n⟩
def Tryz.lays246_ren : Go.Shelf.Ren := ⟨fun | 246 => 67 | 283 => 81 | 284 => 82 | 285 => 83 | 286 => 84 | 129 => 98 | 317 => 97 | 318 => 99 | 319 => 100 | 320 => 101 | 337 => 108 | 338 => 109 | n => n, fun | 2 => 2 | 3 => 3 | 9 => 9 | 4 => 4 | 171 => 105 | 0 => 0 | 53 => 34 | 37 => 42 | 5 => 5 | 173 => 108 | 212 => 121 | 51 => 92 | 20 => 20 | 213 => 122 | 46 => 71 | 232 => 137 | 233 => 138 | n => n, fun | 17 => 0 | 18 => 6 | 19 => 7 | n => n⟩
def Tryz.laysM243_ren : Go.Shelf.Ren := ⟨fun | 243 => 46 | 246 => 67 | 283 => 81 | 284 => 82 | 285 => 83 | 286 => 84 | 129 => 98 | 317 => 97 | 318 => 99 | 319 => 100 | 320 => 101 | 337 => 108 | 338 => 109 | n => n, fun | 3 => 3 | 9 => 9 | 2 => 2 | 4 => 4 | 171 => 105 | 0 => 0 | 53 => 34 | 37 => 42 | 5 => 5 | 173 => 108 | 212 => 121 | 51 => 92 | 20 => 20 | 213 => 122 | 46 => 71 | 232 => 137 | 233 => 138 | n => n, fun | 17 => 0 | 18 => 6 | 19 => 7 | n => n⟩
def Tryz.lays243_ren : Go.Shelf.Ren := ⟨fun | 243 => 46 | 246 => 67 | 283 => 81 | 284 => 82 | 285 => 83 | 286 => 84 | 129 => 98 | 317 => 97 | 318 => 99 | 319 => 100 | 320 => 101 | 337 => 108 | 338 => 109 | n => n, fun | 3 => 3 | 9 => 9 | 2 => 2 | 4 => 4 | 171 => 105 | 0 => 0 | 53 => 34 | 37 => 42 | 5 => 5 | 173 => 108 | 212 => 121 | 51 => 92 | 20 => 20 | 213 => 122 | 46 => 71 | 232 => 137 | 233 => 138 | n => n, fun | 17 => 0 | 18 => 6 | 19 => 7 | n => n⟩
def Tryz.laysM171_ren : Go.Shelf.Ren := ⟨fun | 171 => 22 | 243 => 46 | 246 => 67 | 283 => 81 | 284 => 82 | 285 => 83 | 286 => 84 | 129 => 98 | 317 => 97 | 318 => 99 | 319 => 100 | 320 => 101 | 337 => 108 | 338 => 109 | n => n, fun | 3 => 3 | 9 => 9 | 2 => 2 | 4 => 4 | 171 => 105 | 0 => 0 | 53 => 34 | 37 => 42 | 5 => 5 | 173 => 108 | 212 => 121 | 51 => 92 | 20 => 20 | 213 => 122 | 46 => 71 | 232 => 137 | 233 => 138 | n => n, fun | 17 => 0 | 18 => 6 | 19 => 7 | n => n⟩
theorem Tryz.laysM171 : Go.Proofs.LaysM.n171 Tryz.prog Tryz.laysM171_ren := {
  mixed := by kernel_rfl
  f129 := Tryz.func98.trans (congrArg some (by kernel_rfl))
  f171 := Tryz.func22.trans (congrArg some (by kernel_rfl))
  f243 := Tryz.func46.trans (congrArg some (by kernel_rfl))
  f246 := Tryz.func67.trans (congrArg some (by kernel_rfl))
  f283 := Tryz.func81.trans (congrArg some (by kernel_rfl))
  f284 := Tryz.func82.trans (congrArg some (by kernel_rfl))
  f285 := Tryz.func83.trans (congrArg some (by kernel_rfl))
  f286 := Tryz.func84.trans (congrArg some (by kernel_rfl))
  f317 := Tryz.func97.trans (congrArg some (by kernel_rfl))
  f318 := Tryz.func99.trans (congrArg some (by kernel_rfl))
  f319 := Tryz.func100.trans (congrArg some (by kernel_rfl))
  f320 := Tryz.func101.trans (congrArg some (by kernel_rfl))
  f337 := Tryz.func108.trans (congrArg some (by kernel_rfl))
  f338 := Tryz.func109.trans (congrArg some (by kernel_rfl))
  t0 := Tryz.underlying0
  a0 := Tryz.isAgg0
  z0 := Tryz.sizeOf0
  v0 := Tryz.zeroValue0
  t2 := Tryz.underlying2
  a2 := Tryz.isAgg2
  z2 := Tryz.sizeOf2
  v2 := Tryz.zeroValue2
  t3 := Tryz.underlying3
  a3 := Tryz.isAgg3
  z3 := Tryz.sizeOf3
  v3 := Tryz.zeroValue3
  t4 := Tryz.underlying4
  a4 := Tryz.isAgg4
  z4 := Tryz.sizeOf4
  v4 := Tryz.zeroValue4
  t5 := Tryz.underlying5
  a5 := Tryz.isAgg5
  z5 := Tryz.sizeOf5
  v5 := Tryz.zeroValue5
  t9 := Tryz.underlying9
  a9 := Tryz.isAgg9
  z9 := Tryz.sizeOf9
  v9 := Tryz.zeroValue9
  t20 := Tryz.underlying20
  a20 := Tryz.isAgg20
  z20 := Tryz.sizeOf20
  v20 := Tryz.zeroValue20
  t37 := Tryz.underlying42
  a37 := Tryz.isAgg42
  z37 := Tryz.sizeOf42
  v37 := Tryz.zeroValue42
  t46 := Tryz.underlying71
  a46 := Tryz.isAgg71
  z46 := Tryz.sizeOf71
  v46 := Tryz.zeroValue71
  t51 := Tryz.underlying92
  a51 := Tryz.isAgg92
  z51 := Tryz.sizeOf92
  v51 := Tryz.zeroValue92
  t53 := Tryz.underlying34
  a53 := Tryz.isAgg34
  z53 := Tryz.sizeOf34
  v53 := Tryz.zeroValue34
  t171 := Tryz.underlying105
  a171 := Tryz.isAgg105
  z171 := Tryz.sizeOf105
  v171 := Tryz.zeroValue105
  t173 := Tryz.underlying108
  a173 := Tryz.isAgg108
  z173 := Tryz.sizeOf108
  v173 := Tryz.zeroValue108
  t212 := Tryz.underlying121
  a212 := Tryz.isAgg121
  z212 := Tryz.sizeOf121
  v212 := Tryz.zeroValue121
  t213 := Tryz.underlying122
  a213 := Tryz.isAgg122
  z213 := Tryz.sizeOf122
  t232 := Tryz.underlying137
  a232 := Tryz.isAgg137
  z232 := Tryz.sizeOf137
  v232 := Tryz.zeroValue137
  t233 := Tryz.underlying138
  a233 := Tryz.isAgg138
  z233 := Tryz.sizeOf138
  v233 := Tryz.zeroValue138
  g17 := by kernel_rfl
  g18 := by kernel_rfl
  g19 := by kernel_rfl
  i0 := by kernel_rfl
  i2 := by kernel_rfl
  i3 := by kernel_rfl
  i4 := by kernel_rfl
  i5 := by kernel_rfl
  i9 := by kernel_rfl
  i20 := by kernel_rfl
  i37 := by kernel_rfl
  i46 := by kernel_rfl
  i51 := by kernel_rfl
  i53 := by kernel_rfl
  i171 := by kernel_rfl
  i173 := by kernel_rfl
  i212 := by kernel_rfl
  i232 := by kernel_rfl
  i233 := by kernel_rfl
  m17 := by kernel_rfl
  m18 := by kernel_rfl
  m19 := by kernel_rfl }
open Go.RowKit Go.Sort Go.Lib in
theorem Tryz.strconv_Itoa (n : Int) (h0 : -9223372036854775808 ≤ n) (h1 : n ≤ 9223372036854775807) (w : World) (htab : Lib.TabIs Tryz.prog w "internal/strconv.uint64pow10" .u64 Lib.pow10Tab) :
    Calls Tryz.prog 22 #[.int .i64 n] w fun e w' => e = .returned (.string ⟨(Lib.itoa n).toArray⟩) ∧ ∃ k os, w' = grow (w.drewN k) os := Any.strconv_Itoa Tryz.laysM171 n h0 h1 w htab
def Tryz.lays171_ren : Go.Shelf.Ren := ⟨fun | 171 => 22 | 243 => 46 | 246 => 67 | 283 => 81 | 284 => 82 | 285 => 83 | 286 => 84 | 129 => 98 | 317 => 97 | 318 => 99 | 319 => 100 | 320 => 101 | 337 => 108 | 338 => 109 | n => n, fun | 3 => 3 | 9 => 9 | 2 => 2 | 4 => 4 | 171 => 105 | 0 => 0 | 53 => 34 | 37 => 42 | 5 => 5 | 173 => 108 | 212 => 121 | 51 => 92 | 20 => 20 | 213 => 122 | 46 => 71 | 232 => 137 | 233 => 138 | n => n, fun | 17 => 0 | 18 => 6 | 19 => 7 | n => n⟩
def Tryz.lays247_ren : Go.Shelf.Ren := ⟨fun | 247 => 96 | 287 => 76 | 321 => 89 | 322 => 90 | n => n, fun | 9 => 9 | 3 => 3 | 2 => 2 | 75 => 46 | 4 => 4 | 167 => 112 | 5 => 5 | 53 => 34 | 175 => 85 | 46 => 71 | 37 => 42 | 0 => 0 | 21 => 21 | 80 => 53 | n => n, fun | n => n⟩
def Tryz.laysM316_ren : Go.Shelf.Ren := ⟨fun | 316 => 106 | n => n, fun | 9 => 9 | 3 => 3 | 4 => 4 | 37 => 42 | 0 => 0 | 127 => 76 | 5 => 5 | n => n, fun | n => n⟩
def Tryz.laysM279_ren : Go.Shelf.Ren := ⟨fun | 279 => 91 | 316 => 106 | n => n, fun | 9 => 9 | 168 => 114 | 75 => 46 | 210 => 131 | 3 => 3 | 4 => 4 | 37 => 42 | 0 => 0 | 127 => 76 | 80 => 53 | 5 => 5 | n => n, fun | 15 => 4 | n => n⟩
def Tryz.laysC245_ren : Go.Shelf.Ren := ⟨fun | 245 => 77 | 279 => 91 | 280 => 92 | 281 => 93 | 282 => 94 | 316 => 106 | 171 => 22 | 205 => 107 | 243 => 46 | 246 => 67 | 283 => 81 | 284 => 82 | 285 => 83 | 286 => 84 | 129 => 98 | 317 => 97 | 318 => 99 | 319 => 100 | 320 => 101 | 337 => 108 | 338 => 109 | n => n, fun | 9 => 9 | 3 => 3 | 75 => 46 | 167 => 112 | 4 => 4 | 168 => 114 | 210 => 131 | 37 => 42 | 0 => 0 | 127 => 76 | 145 => 136 | 143 => 134 | 2 => 2 | 171 => 105 | 53 => 34 | 5 => 5 | 173 => 108 | 212 => 121 | 51 => 92 | 20 => 20 | 213 => 122 | 46 => 71 | 232 => 137 | 233 => 138 | 80 => 53 | n => n, fun | 15 => 4 | 16 => 5 | 17 => 0 | 18 => 6 | 19 => 7 | n => n⟩
def Tryz.lays321_ren : Go.Shelf.Ren := ⟨fun | 321 => 89 | n => n, fun | 5 => 5 | n => n, fun | n => n⟩
def Tryz.lays287_ren : Go.Shelf.Ren := ⟨fun | 287 => 76 | 321 => 89 | 322 => 90 | n => n, fun | 9 => 9 | 3 => 3 | 53 => 34 | 75 => 46 | 4 => 4 | 167 => 112 | 5 => 5 | 46 => 71 | 37 => 42 | 0 => 0 | 21 => 21 | 80 => 53 | n => n, fun | n => n⟩
def Tryz.laysC247_ren : Go.Shelf.Ren := ⟨fun | 247 => 96 | 287 => 76 | 321 => 89 | 322 => 90 | n => n, fun | 9 => 9 | 3 => 3 | 2 => 2 | 75 => 46 | 4 => 4 | 167 => 112 | 5 => 5 | 53 => 34 | 175 => 85 | 46 => 71 | 37 => 42 | 0 => 0 | 21 => 21 | 80 => 53 | n => n, fun | n => n⟩
def Tryz.laysC244_ren : Go.Shelf.Ren := ⟨fun | 244 => 80 | 247 => 96 | 287 => 76 | 321 => 89 | 322 => 90 | n => n, fun | 9 => 9 | 3 => 3 | 75 => 46 | 4 => 4 | 5 => 5 | 167 => 112 | 37 => 42 | 0 => 0 | 85 => 117 | 2 => 2 | 53 => 34 | 175 => 85 | 46 => 71 | 21 => 21 | 80 => 53 | n => n, fun | n => n⟩
def Tryz.laysM280_ren : Go.Shelf.Ren := ⟨fun | 280 => 92 | 316 => 106 | n => n, fun | 9 => 9 | 168 => 114 | 75 => 46 | 210 => 131 | 3 => 3 | 4 => 4 | 37 => 42 | 0 => 0 | 127 => 76 | 80 => 53 | 5 => 5 | n => n, fun | 16 => 5 | n => n⟩
def Tryz.laysC172_ren : Go.Shelf.Ren := ⟨fun | 172 => 65 | 244 => 80 | 245 => 77 | 247 => 96 | 279 => 91 | 280 => 92 | 281 => 93 | 282 => 94 | 287 => 76 | 316 => 106 | 171 => 22 | 205 => 107 | 321 => 89 | 322 => 90 | 243 => 46 | 246 => 67 | 283 => 81 | 284 => 82 | 285 => 83 | 286 => 84 | 129 => 98 | 317 => 97 | 318 => 99 | 319 => 100 | 320 => 101 | 337 => 108 | 338 => 109 | n => n, fun | 9 => 9 | 3 => 3 | 75 => 46 | 76 => 49 | 4 => 4 | 5 => 5 | 167 => 112 | 37 => 42 | 0 => 0 | 85 => 117 | 2 => 2 | 168 => 114 | 53 => 34 | 175 => 85 | 46 => 71 | 210 => 131 | 127 => 76 | 145 => 136 | 143 => 134 | 21 => 21 | 171 => 105 | 173 => 108 | 212 => 121 | 51 => 92 | 20 => 20 | 213 => 122 | 232 => 137 | 233 => 138 | 80 => 53 | n => n, fun | 15 => 4 | 16 => 5 | 17 => 0 | 18 => 6 | 19 => 7 | n => n⟩
theorem Tryz.laysC172 : Go.Proofs.LaysC.n172 Tryz.prog Tryz.laysC172_ren := {
  mixed := by kernel_rfl
  f129 := Tryz.func98.trans (congrArg some (by kernel_rfl))
  f171 := Tryz.func22.trans (congrArg some (by kernel_rfl))
  f172 := Tryz.func65.trans (congrArg some (by kernel_rfl))
  f205 := Tryz.func107.trans (congrArg some (by kernel_rfl))
  f243 := Tryz.func46.trans (congrArg some (by kernel_rfl))
  f244 := Tryz.func80.trans (congrArg some (by kernel_rfl))
  f245 := Tryz.func77.trans (congrArg some (by kernel_rfl))
  f246 := Tryz.func67.trans (congrArg some (by kernel_rfl))
  f247 := Tryz.func96.trans (congrArg some (by kernel_rfl))
  f279 := Tryz.func91.trans (congrArg some (by kernel_rfl))
  f280 := Tryz.func92.trans (congrArg some (by kernel_rfl))
  f281 := Tryz.func93.trans (congrArg some (by kernel_rfl))
  f282 := Tryz.func94.trans (congrArg some (by kernel_rfl))
  f283 := Tryz.func81.trans (congrArg some (by kernel_rfl))
  f284 := Tryz.func82.trans (congrArg some (by kernel_rfl))
  f285 := Tryz.func83.trans (congrArg some (by kernel_rfl))
  f286 := Tryz.func84.trans (congrArg some (by kernel_rfl))
  f287 := Tryz.func76.trans (congrArg some (by kernel_rfl))
  f316 := Tryz.func106.trans (congrArg some (by kernel_rfl))
  f317 := Tryz.func97.trans (congrArg some (by kernel_rfl))
  f318 := Tryz.func99.trans (congrArg some (by kernel_rfl))
  f319 := Tryz.func100.trans (congrArg some (by kernel_rfl))
  f320 := Tryz.func101.trans (congrArg some (by kernel_rfl))
  f321 := Tryz.func89.trans (congrArg some (by kernel_rfl))
  f322 := Tryz.func90.trans (congrArg some (by kernel_rfl))
  f337 := Tryz.func108.trans (congrArg some (by kernel_rfl))
  f338 := Tryz.func109.trans (congrArg some (by kernel_rfl))
  t0 := Tryz.underlying0
  a0 := Tryz.isAgg0
  z0 := Tryz.sizeOf0
  v0 := Tryz.zeroValue0
  t2 := Tryz.underlying2
  a2 := Tryz.isAgg2
  z2 := Tryz.sizeOf2
  v2 := Tryz.zeroValue2
  t3 := Tryz.underlying3
  a3 := Tryz.isAgg3
  z3 := Tryz.sizeOf3
  v3 := Tryz.zeroValue3
  t4 := Tryz.underlying4
  a4 := Tryz.isAgg4
  z4 := Tryz.sizeOf4
  v4 := Tryz.zeroValue4
  t5 := Tryz.underlying5
  a5 := Tryz.isAgg5
  z5 := Tryz.sizeOf5
  v5 := Tryz.zeroValue5
  t9 := Tryz.underlying9
  a9 := Tryz.isAgg9
  z9 := Tryz.sizeOf9
  v9 := Tryz.zeroValue9
  t20 := Tryz.underlying20
  a20 := Tryz.isAgg20
  z20 := Tryz.sizeOf20
  v20 := Tryz.zeroValue20
  t21 := Tryz.underlying21
  a21 := Tryz.isAgg21
  z21 := Tryz.sizeOf21
  v21 := Tryz.zeroValue21
  t37 := Tryz.underlying42
  a37 := Tryz.isAgg42
  z37 := Tryz.sizeOf42
  v37 := Tryz.zeroValue42
  t46 := Tryz.underlying71
  a46 := Tryz.isAgg71
  z46 := Tryz.sizeOf71
  v46 := Tryz.zeroValue71
  t51 := Tryz.underlying92
  a51 := Tryz.isAgg92
  z51 := Tryz.sizeOf92
  v51 := Tryz.zeroValue92
  t53 := Tryz.underlying34
  a53 := Tryz.isAgg34
  z53 := Tryz.sizeOf34
  v53 := Tryz.zeroValue34
  t75 := Tryz.underlying46
  a75 := Tryz.isAgg46
  z75 := Tryz.sizeOf46
  v75 := Tryz.zeroValue46
  t76 := Tryz.underlying49
  a76 := Tryz.isAgg49
  z76 := Tryz.sizeOf49
  v76 := Tryz.zeroValue49
  t85 := Tryz.underlying117
  a85 := Tryz.isAgg117
  z85 := Tryz.sizeOf117
  v85 := Tryz.zeroValue117
  t127 := Tryz.underlying76
  a127 := Tryz.isAgg76
  z127 := Tryz.sizeOf76
  v127 := Tryz.zeroValue76
  t143 := Tryz.underlying134
  a143 := Tryz.isAgg134
  z143 := Tryz.sizeOf134
  v143 := Tryz.zeroValue134
  t145 := Tryz.underlying136
  a145 := Tryz.isAgg136
  z145 := Tryz.sizeOf136
  v145 := Tryz.zeroValue136
  t167 := Tryz.underlying112
  a167 := Tryz.isAgg112
  z167 := Tryz.sizeOf112
  v167 := Tryz.zeroValue112
  t168 := Tryz.underlying114
  a168 := Tryz.isAgg114
  z168 := Tryz.sizeOf114
  v168 := Tryz.zeroValue114
  t171 := Tryz.underlying105
  a171 := Tryz.isAgg105
  z171 := Tryz.sizeOf105
  v171 := Tryz.zeroValue105
  t173 := Tryz.underlying108
  a173 := Tryz.isAgg108
  z173 := Tryz.sizeOf108
  v173 := Tryz.zeroValue108
  t175 := Tryz.underlying85
  a175 := Tryz.isAgg85
  z175 := Tryz.sizeOf85
  v175 := Tryz.zeroValue85
  t210 := Tryz.underlying131
  a210 := Tryz.isAgg131
  z210 := Tryz.sizeOf131
  v210 := Tryz.zeroValue131
  t212 := Tryz.underlying121
  a212 := Tryz.isAgg121
  z212 := Tryz.sizeOf121
  v212 := Tryz.zeroValue121
  t213 := Tryz.underlying122
  a213 := Tryz.isAgg122
  z213 := Tryz.sizeOf122
  t232 := Tryz.underlying137
  a232 := Tryz.isAgg137
  z232 := Tryz.sizeOf137
  v232 := Tryz.zeroValue137
  t233 := Tryz.underlying138
  a233 := Tryz.isAgg138
  z233 := Tryz.sizeOf138
  v233 := Tryz.zeroValue138
  g15 := by kernel_rfl
  g16 := by kernel_rfl
  g17 := by kernel_rfl
  g18 := by kernel_rfl
  g19 := by kernel_rfl
  t80 := Tryz.underlying53
  a80 := Tryz.isAgg53
  z80 := Tryz.sizeOf53
  v80 := Tryz.zeroValue53
  i0 := by kernel_rfl
  i2 := by kernel_rfl
  i3 := by kernel_rfl
  i4 := by kernel_rfl
  i5 := by kernel_rfl
  i9 := by kernel_rfl
  i20 := by kernel_rfl
  i21 := by kernel_rfl
  i37 := by kernel_rfl
  i46 := by kernel_rfl
  i51 := by kernel_rfl
  i53 := by kernel_rfl
  i75 := by kernel_rfl
  i76 := by kernel_rfl
  i80 := by kernel_rfl
  i85 := by kernel_rfl
  i127 := by kernel_rfl
  i143 := by kernel_rfl
  i145 := by kernel_rfl
  i167 := by kernel_rfl
  i168 := by kernel_rfl
  i171 := by kernel_rfl
  i173 := by kernel_rfl
  i175 := by kernel_rfl
  i210 := by kernel_rfl
  i212 := by kernel_rfl
  i232 := by kernel_rfl
  i233 := by kernel_rfl
  m15 := by kernel_rfl
  m16 := by kernel_rfl
  m17 := by kernel_rfl
  m18 := by kernel_rfl
  m19 := by kernel_rfl
  c0 := by kernel_rfl
  c2 := by kernel_rfl
  c3 := by kernel_rfl
  c4 := by kernel_rfl
  c5 := by kernel_rfl
  c9 := by kernel_rfl
  c20 := by kernel_rfl
  c21 := by kernel_rfl
  c37 := by kernel_rfl
  c46 := by kernel_rfl
  c51 := by kernel_rfl
  c53 := by kernel_rfl
  c75 := by kernel_rfl
  c76 := by kernel_rfl
  c80 := by kernel_rfl
  c85 := by kernel_rfl
  c127 := by kernel_rfl
  c143 := by kernel_rfl
  c145 := by kernel_rfl
  c167 := by kernel_rfl
  c168 := by kernel_rfl
  c171 := by kernel_rfl
  c173 := by kernel_rfl
  c175 := by kernel_rfl
  c210 := by kernel_rfl
  c212 := by kernel_rfl
  c213 := by kernel_rfl
  c232 := by kernel_rfl
  c233 := by kernel_rfl }
open Go.RowKit in
theorem Tryz.strconv_Atoi_ok (s : ByteArray) (hmax : s.size ≤ 9223372036854775806) (v : Int) (h : Lib.atoiAll s.data.toList = .ok v) (w : World) :
    Calls Tryz.prog 65 #[.string s] w fun e w' => e = .returned (.tuple #[.int .i64 v, .nilIface]) ∧ (w' = w ∨ ∃ t, w' = Lib.bytesWorld w 5 t) := Any.strconv_Atoi_ok Tryz.laysC172 s hmax v h w
open Go.RowKit in
theorem Tryz.strconv_Atoi_range_var (s : ByteArray) (hlim : s.size ≤ 281474976710656) (h : Lib.atoiAll s.data.toList = .range) (tp : TypeId) (p : Value) (w : World) (hvar : w.var? Tryz.prog "strconv.ErrRange" = some #[.iface tp p]) :
    Calls Tryz.prog 65 #[.string s] w fun e w' => ∃ N, e = .returned (.tuple #[.int .i64 (Lib.atoiSat s.data.toList), .iface 114 (.pointer (some ⟨N, 0, none⟩))]) ∧ w.heap.size ≤ N ∧ w'.heap[N]? = some (.cells #[.string ⟨#[65, 116, 111, 105]⟩, .string s, .iface tp p] 131 (0, 0)) ∧ Below w.heap.size w w' := Any.strconv_Atoi_range_var Tryz.laysC172 s hlim h tp p w hvar
def Tryz.laysPu14_ren : Go.Shelf.Ren := ⟨fun | 14 => 61 | 16 => 76 | 17 => 77 | 19 => 89 | 20 => 90 | 21 => 91 | 22 => 92 | 23 => 93 | 24 => 94 | 25 => 106 | 27 => 22 | 26 => 107 | 28 => 46 | 29 => 67 | 30 => 81 | 31 => 82 | 32 => 83 | 33 => 84 | 35 => 98 | 34 => 97 | 36 => 99 | 37 => 100 | 38 => 101 | 39 => 108 | 40 => 109 | n => n, fun | 9 => 9 | 3 => 3 | 22 => 34 | 24 => 46 | 25 => 85 | 4 => 4 | 34 => 112 | 5 => 5 | 36 => 71 | 37 => 42 | 0 => 0 | 39 => 114 | 21 => 21 | 44 => 131 | 47 => 76 | 50 => 136 | 48 => 134 | 2 => 2 | 52 => 105 | 55 => 108 | 59 => 121 | 60 => 92 | 20 => 20 | 61 => 122 | 65 => 137 | 66 => 138 | 67 => 53 | n => n, fun | 0 => 4 | 1 => 5 | 2 => 0 | 3 => 6 | 4 => 7 | n => n⟩
theorem Tryz.laysPu14 : Go.Proofs.LaysPu.n14 Tryz.prog Tryz.laysPu14_ren := {
  mixed := by kernel_rfl
  f14 := Tryz.func61.trans (congrArg some (by kernel_rfl))
  f16 := Tryz.func76.trans (congrArg some (by kernel_rfl))
  f17 := Tryz.func77.trans (congrArg some (by kernel_rfl))
  f19 := Tryz.func89.trans (congrArg some (by kernel_rfl))
  f20 := Tryz.func90.trans (congrArg some (by kernel_rfl))
  f21 := Tryz.func91.trans (congrArg some (by kernel_rfl))
  f22 := Tryz.func92.trans (congrArg some (by kernel_rfl))
  f23 := Tryz.func93.trans (congrArg some (by kernel_rfl))
  f24 := Tryz.func94.trans (congrArg some (by kernel_rfl))
  f25 := Tryz.func106.trans (congrArg some (by kernel_rfl))
  f26 := Tryz.func107.trans (congrArg some (by kernel_rfl))
  f27 := Tryz.func22.trans (congrArg some (by kernel_rfl))
  f28 := Tryz.func46.trans (congrArg some (by kernel_rfl))
  f29 := Tryz.func67.trans (congrArg some (by kernel_rfl))
  f30 := Tryz.func81.trans (congrArg some (by kernel_rfl))
  f31 := Tryz.func82.trans (congrArg some (by kernel_rfl))
  f32 := Tryz.func83.trans (congrArg some (by kernel_rfl))
  f33 := Tryz.func84.trans (congrArg some (by kernel_rfl))
  f34 := Tryz.func97.trans (congrArg some (by kernel_rfl))
  f35 := Tryz.func98.trans (congrArg some (by kernel_rfl))
  f36 := Tryz.func99.trans (congrArg some (by kernel_rfl))
  f37 := Tryz.func100.trans (congrArg some (by kernel_rfl))
  f38 := Tryz.func101.trans (congrArg some (by kernel_rfl))
  f39 := Tryz.func108.trans (congrArg some (by kernel_rfl))
  f40 := Tryz.func109.trans (congrArg some (by kernel_rfl))
  t0 := Tryz.underlying0
  a0 := Tryz.isAgg0
  z0 := Tryz.sizeOf0
  v0 := Tryz.zeroValue0
  i0 := by kernel_rfl
  t2 := Tryz.underlying2
  a2 := Tryz.isAgg2
  z2 := Tryz.sizeOf2
  v2 := Tryz.zeroValue2
  i2 := by kernel_rfl
  t3 := Tryz.underlying3
  a3 := Tryz.isAgg3
  z3 := Tryz.sizeOf3
  v3 := Tryz.zeroValue3
  i3 := by kernel_rfl
  t4 := Tryz.underlying4
  a4 := Tryz.isAgg4
  z4 := Tryz.sizeOf4
  v4 := Tryz.zeroValue4
  i4 := by kernel_rfl
  t5 := Tryz.underlying5
  a5 := Tryz.isAgg5
  z5 := Tryz.sizeOf5
  v5 := Tryz.zeroValue5
  i5 := by kernel_rfl
  t9 := Tryz.underlying9
  a9 := Tryz.isAgg9
  z9 := Tryz.sizeOf9
  v9 := Tryz.zeroValue9
  i9 := by kernel_rfl
  t20 := Tryz.underlying20
  a20 := Tryz.isAgg20
  z20 := Tryz.sizeOf20
  v20 := Tryz.zeroValue20
  i20 := by kernel_rfl
  t21 := Tryz.underlying21
  a21 := Tryz.isAgg21
  z21 := Tryz.sizeOf21
  v21 := Tryz.zeroValue21
  i21 := by kernel_rfl
  t22 := Tryz.underlying34
  a22 := Tryz.isAgg34
  z22 := Tryz.sizeOf34
  v22 := Tryz.zeroValue34
  i22 := by kernel_rfl
  t24 := Tryz.underlying46
  a24 := Tryz.isAgg46
  z24 := Tryz.sizeOf46
  v24 := Tryz.zeroValue46
  i24 := by kernel_rfl
  t25 := Tryz.underlying85
  a25 := Tryz.isAgg85
  z25 := Tryz.sizeOf85
  v25 := Tryz.zeroValue85
  i25 := by kernel_rfl
  t34 := Tryz.underlying112
  a34 := Tryz.isAgg112
  z34 := Tryz.sizeOf112
  v34 := Tryz.zeroValue112
  i34 := by kernel_rfl
  c34 := by kernel_rfl
  t36 := Tryz.underlying71
  a36 := Tryz.isAgg71
  z36 := Tryz.sizeOf71
  v36 := Tryz.zeroValue71
  i36 := by kernel_rfl
  t37 := Tryz.underlying42
  a37 := Tryz.isAgg42
  z37 := Tryz.sizeOf42
  v37 := Tryz.zeroValue42
  i37 := by kernel_rfl
  t39 := Tryz.underlying114
  a39 := Tryz.isAgg114
  z39 := Tryz.sizeOf114
  v39 := Tryz.zeroValue114
  i39 := by kernel_rfl
  t44 := Tryz.underlying131
  a44 := Tryz.isAgg131
  z44 := Tryz.sizeOf131
  v44 := Tryz.zeroValue131
  i44 := by kernel_rfl
  t47 := Tryz.underlying76
  a47 := Tryz.isAgg76
  z47 := Tryz.sizeOf76
  v47 := Tryz.zeroValue76
  i47 := by kernel_rfl
  t48 := Tryz.underlying134
  a48 := Tryz.isAgg134
  z48 := Tryz.sizeOf134
  v48 := Tryz.zeroValue134
  i48 := by kernel_rfl
  t50 := Tryz.underlying136
  a50 := Tryz.isAgg136
  z50 := Tryz.sizeOf136
  v50 := Tryz.zeroValue136
  i50 := by kernel_rfl
  t52 := Tryz.underlying105
  a52 := Tryz.isAgg105
  z52 := Tryz.sizeOf105
  v52 := Tryz.zeroValue105
  i52 := by kernel_rfl
  t55 := Tryz.underlying108
  a55 := Tryz.isAgg108
  z55 := Tryz.sizeOf108
  v55 := Tryz.zeroValue108
  i55 := by kernel_rfl
  t59 := Tryz.underlying121
  a59 := Tryz.isAgg121
  z59 := Tryz.sizeOf121
  v59 := Tryz.zeroValue121
  i59 := by kernel_rfl
  t60 := Tryz.underlying92
  a60 := Tryz.isAgg92
  z60 := Tryz.sizeOf92
  v60 := Tryz.zeroValue92
  i60 := by kernel_rfl
  t61 := Tryz.underlying122
  a61 := Tryz.isAgg122
  z61 := Tryz.sizeOf122
  t65 := Tryz.underlying137
  a65 := Tryz.isAgg137
  z65 := Tryz.sizeOf137
  v65 := Tryz.zeroValue137
  i65 := by kernel_rfl
  t66 := Tryz.underlying138
  a66 := Tryz.isAgg138
  z66 := Tryz.sizeOf138
  v66 := Tryz.zeroValue138
  i66 := by kernel_rfl
  t67 := Tryz.underlying53
  a67 := Tryz.isAgg53
  z67 := Tryz.sizeOf53
  v67 := Tryz.zeroValue53
  i67 := by kernel_rfl
  g0 := by kernel_rfl
  m0 := by kernel_rfl
  g1 := by kernel_rfl
  m1 := by kernel_rfl
  g2 := by kernel_rfl
  m2 := by kernel_rfl
  g3 := by kernel_rfl
  m3 := by kernel_rfl
  g4 := by kernel_rfl
  m4 := by kernel_rfl }
open Go.RowKit in
theorem Tryz.strconv_ParseUint_10_at64_ok (s : ByteArray) (hmax : s.size ≤ 9223372036854775806) (u : Nat) (h : Lib.parseUintB 64 s.data.toList = .ok u) (w : World) :
    Calls Tryz.prog 61 #[.string s, .int .i64 10, .int .i64 64] w fun e w' => e = .returned (.tuple #[.int .u64 u, .nilIface]) ∧ (w' = w ∨ w' = Lib.bytesWorld w 5 s) := Any.strconv_ParseUint_10_at64_ok Tryz.laysPu14 s hmax u h w
open Go.RowKit in
theorem Tryz.strconv_ParseUint_10_at32_ok (s : ByteArray) (hmax : s.size ≤ 9223372036854775806) (u : Nat) (h : Lib.parseUintB 32 s.data.toList = .ok u) (w : World) :
    Calls Tryz.prog 61 #[.string s, .int .i64 10, .int .i64 32] w fun e w' => e = .returned (.tuple #[.int .u64 u, .nilIface]) ∧ (w' = w ∨ w' = Lib.bytesWorld w 5 s) := Any.strconv_ParseUint_10_at32_ok Tryz.laysPu14 s hmax u h w
open Go.RowKit in
theorem Tryz.strconv_ParseUint_10_at64_range_var (s : ByteArray) (hlim : s.size ≤ 281474976710656) (h : Lib.parseUintB 64 s.data.toList = .range) (tp : TypeId) (p : Value) (w : World) (hvar : w.var? Tryz.prog "strconv.ErrRange" = some #[.iface tp p]) :
    Calls Tryz.prog 61 #[.string s, .int .i64 10, .int .i64 64] w fun e w' => ∃ N, e = .returned (.tuple #[.int .u64 18446744073709551615, .iface 114 (.pointer (some ⟨N, 0, none⟩))]) ∧ w.heap.size ≤ N ∧ w'.heap[N]? = some (.cells #[.string ⟨#[80, 97, 114, 115, 101, 85, 105, 110, 116]⟩, .string s, .iface tp p] 131 (0, 0)) ∧ Below w.heap.size w w' := Any.strconv_ParseUint_10_at64_range_var Tryz.laysPu14 s hlim h tp p w hvar
def Tryz.lays217_ren : Go.Shelf.Ren := ⟨fun | 217 => 110 | 266 => 111 | n => n, fun | 9 => 9 | 5 => 5 | 3 => 3 | n => n, fun | n => n⟩
def Tryz.lays224_ren : Go.Shelf.Ren := ⟨fun | 224 => 104 | n => n, fun | 3 => 3 | n => n, fun | n => n⟩
def Tryz.lays315_ren : Go.Shelf.Ren := ⟨fun | 315 => 51 | n => n, fun | 9 => 9 | 40 => 54 | 4 => 4 | 3 => 3 | 0 => 0 | 21 => 21 | n => n, fun | n => n⟩
def Tryz.laysGw15_ren : Go.Shelf.Ren := ⟨fun | 15 => 29 | 20 => 51 | n => n, fun | 9 => 9 | 23 => 54 | 3 => 3 | 4 => 4 | 0 => 0 | 21 => 21 | n => n, fun | n => n⟩
theorem Tryz.laysGw15 : Go.Proofs.LaysGw.n15 Tryz.prog Tryz.laysGw15_ren := {
  mixed := by kernel_rfl
  f15 := Tryz.func29.trans (congrArg some (by kernel_rfl))
  f20 := Tryz.func51.trans (congrArg some (by kernel_rfl))
  t0 := Tryz.underlying0
  a0 := Tryz.isAgg0
  z0 := Tryz.sizeOf0
  v0 := Tryz.zeroValue0
  i0 := by kernel_rfl
  t3 := Tryz.underlying3
  a3 := Tryz.isAgg3
  z3 := Tryz.sizeOf3
  v3 := Tryz.zeroValue3
  i3 := by kernel_rfl
  t4 := Tryz.underlying4
  a4 := Tryz.isAgg4
  z4 := Tryz.sizeOf4
  v4 := Tryz.zeroValue4
  i4 := by kernel_rfl
  t9 := Tryz.underlying9
  a9 := Tryz.isAgg9
  z9 := Tryz.sizeOf9
  v9 := Tryz.zeroValue9
  i9 := by kernel_rfl
  t21 := Tryz.underlying21
  a21 := Tryz.isAgg21
  z21 := Tryz.sizeOf21
  v21 := Tryz.zeroValue21
  i21 := by kernel_rfl
  t23 := Tryz.underlying54
  a23 := Tryz.isAgg54
  z23 := Tryz.sizeOf54
  v23 := Tryz.zeroValue54
  i23 := by kernel_rfl }
open Go.RowKit Go.Lib in
theorem Tryz.strings_IndexFunc (g : Nat) (lb : Array Value) (eg : ∀ args w, (callFunc g args).run Tryz.prog w = .ok (.enter g args) w) (p : Nat → Bool) (s : ByteArray) (w : World) (hp : PredAt Tryz.prog g lb encR p w) :
    Calls Tryz.prog 29 #[.string s, .func (.func g) #[] lb] w fun e w' => e = .returned (.int .i64 (Lib.idxFunc p true s)) ∧ Below w.heap.size w w' := Any.strings_IndexFunc Tryz.laysGw15 g lb eg p s w hp
open Go.RowKit Go.Lib in
theorem Tryz.strings_IndexFunc_runes (g : Nat) (lb : Array Value) (eg : ∀ args w, (callFunc g args).run Tryz.prog w = .ok (.enter g args) w) (p : Nat → Bool) (s : ByteArray) (w : World) (hp : PredAtRunes Tryz.prog g lb p w) :
    Calls Tryz.prog 29 #[.string s, .func (.func g) #[] lb] w fun e w' => e = .returned (.int .i64 (Lib.idxFunc p true s)) ∧ Below w.heap.size w w' := Any.strings_IndexFunc_runes Tryz.laysGw15 g lb eg p s w hp
def Tryz.lays206_ren : Go.Shelf.Ren := ⟨fun | 206 => 70 | n => n, fun | 9 => 9 | 4 => 4 | 3 => 3 | n => n, fun | n => n⟩
def Tryz.lays99_ren : Go.Shelf.Ren := ⟨fun | 99 => 48 | 206 => 70 | n => n, fun | 9 => 9 | 4 => 4 | 3 => 3 | n => n, fun | n => n⟩
theorem Tryz.lays99 : Go.Proofs.Lays.n99 Tryz.prog Tryz.lays99_ren := {
  mixed := by kernel_rfl
  f99 := Tryz.func48.trans (congrArg some (by kernel_rfl))
  f206 := Tryz.func70.trans (congrArg some (by kernel_rfl))
  t3 := Tryz.underlying3
  a3 := Tryz.isAgg3
  z3 := Tryz.sizeOf3
  v3 := Tryz.zeroValue3
  t4 := Tryz.underlying4
  a4 := Tryz.isAgg4
  z4 := Tryz.sizeOf4
  v4 := Tryz.zeroValue4
  t9 := Tryz.underlying9
  a9 := Tryz.isAgg9
  z9 := Tryz.sizeOf9
  v9 := Tryz.zeroValue9 }
open Go.RowKit Go.Lib in
theorem Tryz.strings_HasPrefix (s p : ByteArray) (w : World) :
    Calls Tryz.prog 48 #[.string s, .string p] w fun e w' => e = .returned (.bool (Lib.hasPrefix s.data.toList p.data.toList)) ∧ w' = w := Any.strings_HasPrefix Tryz.lays99 s p w
def Tryz.lays207_ren : Go.Shelf.Ren := ⟨fun | 207 => 60 | n => n, fun | 9 => 9 | 4 => 4 | 3 => 3 | n => n, fun | n => n⟩
def Tryz.lays100_ren : Go.Shelf.Ren := ⟨fun | 100 => 35 | 207 => 60 | n => n, fun | 9 => 9 | 4 => 4 | 3 => 3 | n => n, fun | n => n⟩
theorem Tryz.lays100 : Go.Proofs.Lays.n100 Tryz.prog Tryz.lays100_ren := {
  mixed := by kernel_rfl
  f100 := Tryz.func35.trans (congrArg some (by kernel_rfl))
  f207 := Tryz.func60.trans (congrArg some (by kernel_rfl))
  t3 := Tryz.underlying3
  a3 := Tryz.isAgg3
  z3 := Tryz.sizeOf3
  v3 := Tryz.zeroValue3
  t4 := Tryz.underlying4
  a4 := Tryz.isAgg4
  z4 := Tryz.sizeOf4
  v4 := Tryz.zeroValue4
  t9 := Tryz.underlying9
  a9 := Tryz.isAgg9
  z9 := Tryz.sizeOf9
  v9 := Tryz.zeroValue9 }
open Go.RowKit Go.Lib in
theorem Tryz.strings_HasSuffix (s p : ByteArray) (w : World) (hs : s.size ≤ 9223372036854775807) :
    Calls Tryz.prog 35 #[.string s, .string p] w fun e w' => e = .returned (.bool (Lib.hasSuffix s.data.toList p.data.toList)) ∧ w' = w := Any.strings_HasSuffix Tryz.lays100 s p w hs
def Tryz.lays197_ren : Go.Shelf.Ren := ⟨fun | 197 => 73 | 260 => 86 | n => n, fun | 9 => 9 | 21 => 21 | 3 => 3 | 4 => 4 | 5 => 5 | 105 => 98 | 119 => 125 | 0 => 0 | 46 => 71 | 139 => 128 | 138 => 127 | n => n, fun | 3 => 2 | 4 => 3 | n => n⟩
def Tryz.lays152_ren : Go.Shelf.Ren := ⟨fun | 152 => 87 | 137 => 102 | 119 => 103 | 224 => 104 | 225 => 105 | 217 => 110 | 266 => 111 | n => n, fun | 9 => 9 | 21 => 21 | 3 => 3 | 4 => 4 | 5 => 5 | 0 => 0 | 46 => 71 | n => n, fun | n => n⟩
def Tryz.lays151_ren : Go.Shelf.Ren := ⟨fun | 151 => 74 | 152 => 87 | 137 => 102 | 119 => 103 | 224 => 104 | 225 => 105 | 217 => 110 | 266 => 111 | n => n, fun | 9 => 9 | 21 => 21 | 4 => 4 | 3 => 3 | 5 => 5 | 0 => 0 | 46 => 71 | n => n, fun | n => n⟩
def Tryz.lays227_ren : Go.Shelf.Ren := ⟨fun | 227 => 53 | n => n, fun | 9 => 9 | 116 => 80 | 4 => 4 | 0 => 0 | 3 => 3 | 5 => 5 | n => n, fun | n => n⟩
def Tryz.lays228_ren : Go.Shelf.Ren := ⟨fun | 228 => 72 | n => n, fun | 124 => 84 | 5 => 5 | 4 => 4 | 0 => 0 | 116 => 80 | n => n, fun | n => n⟩
def Tryz.lays264_ren : Go.Shelf.Ren := ⟨fun | 264 => 69 | n => n, fun | 53 => 34 | 46 => 71 | n => n, fun | n => n⟩
def Tryz.lays212_ren : Go.Shelf.Ren := ⟨fun | 212 => 47 | 263 => 68 | 264 => 69 | n => n, fun | 46 => 71 | 51 => 92 | 146 => 93 | 53 => 34 | 148 => 95 | n => n, fun | n => n⟩
def Tryz.lays105_ren : Go.Shelf.Ren := ⟨fun | 105 => 23 | 212 => 47 | 99 => 48 | 165 => 49 | 166 => 21 | 170 => 50 | 169 => 24 | 263 => 68 | 264 => 69 | 206 => 70 | 240 => 45 | 241 => 71 | 276 => 66 | 277 => 85 | n => n, fun | 9 => 9 | 3 => 3 | 4 => 4 | 20 => 20 | 0 => 0 | 46 => 71 | 109 => 72 | 5 => 5 | 72 => 44 | 76 => 49 | 51 => 92 | 146 => 93 | 53 => 34 | 148 => 95 | 70 => 41 | 37 => 42 | 75 => 46 | 127 => 76 | 164 => 89 | 80 => 53 | n => n, fun | n => n⟩
theorem Tryz.lays105 : Go.Proofs.Lays.n105 Tryz.prog Tryz.lays105_ren := {
  mixed := by kernel_rfl
  f99 := Tryz.func48.trans (congrArg some (by kernel_rfl))
  f105 := Tryz.func23.trans (congrArg some (by kernel_rfl))
  f165 := Tryz.func49.trans (congrArg some (by kernel_rfl))
  f166 := Tryz.func21.trans (congrArg some (by kernel_rfl))
  f169 := Tryz.func24.trans (congrArg some (by kernel_rfl))
  f170 := Tryz.func50.trans (congrArg some (by kernel_rfl))
  f206 := Tryz.func70.trans (congrArg some (by kernel_rfl))
  f212 := Tryz.func47.trans (congrArg some (by kernel_rfl))
  f240 := Tryz.func45.trans (congrArg some (by kernel_rfl))
  f241 := Tryz.func71.trans (congrArg some (by kernel_rfl))
  f263 := Tryz.func68.trans (congrArg some (by kernel_rfl))
  f264 := Tryz.func69.trans (congrArg some (by kernel_rfl))
  f276 := Tryz.func66.trans (congrArg some (by kernel_rfl))
  f277 := Tryz.func85.trans (congrArg some (by kernel_rfl))
  t0 := Tryz.underlying0
  a0 := Tryz.isAgg0
  z0 := Tryz.sizeOf0
  v0 := Tryz.zeroValue0
  t3 := Tryz.underlying3
  a3 := Tryz.isAgg3
  z3 := Tryz.sizeOf3
  v3 := Tryz.zeroValue3
  t4 := Tryz.underlying4
  a4 := Tryz.isAgg4
  z4 := Tryz.sizeOf4
  v4 := Tryz.zeroValue4
  t5 := Tryz.underlying5
  a5 := Tryz.isAgg5
  z5 := Tryz.sizeOf5
  v5 := Tryz.zeroValue5
  t9 := Tryz.underlying9
  a9 := Tryz.isAgg9
  z9 := Tryz.sizeOf9
  v9 := Tryz.zeroValue9
  t20 := Tryz.underlying20
  a20 := Tryz.isAgg20
  z20 := Tryz.sizeOf20
  v20 := Tryz.zeroValue20
  t37 := Tryz.underlying42
  a37 := Tryz.isAgg42
  z37 := Tryz.sizeOf42
  v37 := Tryz.zeroValue42
  t46 := Tryz.underlying71
  a46 := Tryz.isAgg71
  z46 := Tryz.sizeOf71
  v46 := Tryz.zeroValue71
  t51 := Tryz.underlying92
  a51 := Tryz.isAgg92
  z51 := Tryz.sizeOf92
  v51 := Tryz.zeroValue92
  t53 := Tryz.underlying34
  a53 := Tryz.isAgg34
  z53 := Tryz.sizeOf34
  v53 := Tryz.zeroValue34
  t70 := Tryz.underlying41
  a70 := Tryz.isAgg41
  z70 := Tryz.sizeOf41
  v70 := Tryz.zeroValue41
  t72 := Tryz.underlying44
  a72 := Tryz.isAgg44
  z72 := Tryz.sizeOf44
  v72 := Tryz.zeroValue44
  t75 := Tryz.underlying46
  a75 := Tryz.isAgg46
  z75 := Tryz.sizeOf46
  v75 := Tryz.zeroValue46
  t76 := Tryz.underlying49
  a76 := Tryz.isAgg49
  z76 := Tryz.sizeOf49
  v76 := Tryz.zeroValue49
  t109 := Tryz.underlying72
  a109 := Tryz.isAgg72
  z109 := Tryz.sizeOf72
  v109 := Tryz.zeroValue72
  t127 := Tryz.underlying76
  a127 := Tryz.isAgg76
  z127 := Tryz.sizeOf76
  v127 := Tryz.zeroValue76
  t146 := Tryz.underlying93
  a146 := Tryz.isAgg93
  z146 := Tryz.sizeOf93
  v146 := Tryz.zeroValue93
  t148 := Tryz.underlying95
  a148 := Tryz.isAgg95
  z148 := Tryz.sizeOf95
  v148 := Tryz.zeroValue95
  t164 := Tryz.underlying89
  a164 := Tryz.isAgg89
  z164 := Tryz.sizeOf89
  v164 := Tryz.zeroValue89 }
theorem Tryz.Builder_Extra_105 : Builder.Extra Tryz.prog Tryz.lays105_ren := {
  sizeBuilder := by kernel_rfl
  liesBuilder := by kernel_rfl
  t5 := Tryz.underlying5
  a5 := Tryz.isAgg5
  z5 := Tryz.sizeOf5
  v5 := Tryz.zeroValue5
  infoByte := by kernel_rfl
  cellsByte := by kernel_rfl
  sizeByte := by kernel_rfl
  neB5 := by decide }
open Go.RowKit Go.Lib in
theorem Tryz.strings_Repeat (s : ByteArray) (c : Nat) (w : World) (hc : c ≤ 9223372036854775807) (hlen : s.size * c ≤ 140737488355328) :
    Calls Tryz.prog 23 #[.string s, .int .i64 c] w fun e w' => e = .returned (.string ⟨(Lib.repeatL s.data.toList c).toArray⟩) ∧ Below w.heap.size w w' := Any.strings_Repeat Tryz.lays105 Tryz.Builder_Extra_105 s c w hc hlen
def Tryz.lays260_ren : Go.Shelf.Ren := ⟨fun | 260 => 86 | n => n, fun | 9 => 9 | 21 => 21 | 3 => 3 | 4 => 4 | 5 => 5 | 119 => 125 | 0 => 0 | 46 => 71 | 139 => 128 | 138 => 127 | n => n, fun | 3 => 2 | 4 => 3 | n => n⟩
def Tryz.lays271_ren : Go.Shelf.Ren := ⟨fun | 271 => 75 | 120 => 88 | 197 => 73 | 260 => 86 | n => n, fun | 9 => 9 | 21 => 21 | 3 => 3 | 4 => 4 | 5 => 5 | 105 => 98 | 119 => 125 | 0 => 0 | 46 => 71 | 139 => 128 | 138 => 127 | n => n, fun | 3 => 2 | 4 => 3 | n => n⟩
open Go.RowKit Go.Lib in
theorem Tryz.strings_IndexFunc_grows (g : Nat) (lb : Array Value) (eg : ∀ args w, (callFunc g args).run Tryz.prog w = .ok (.enter g args) w) (p : Nat → Bool) (s : ByteArray) (w : World) (hp : PredGrows Tryz.prog g lb p w) :
    Calls Tryz.prog 29 #[.string s, .func (.func g) #[] lb] w fun e w' => e = .returned (.int .i64 (Lib.idxFunc p true s)) ∧ Below w.heap.size w w' := Any.strings_IndexFunc_grows Tryz.laysGw15 g lb eg p s w hp
theorem Tryz.strconv_Atoi_empty (tp : TypeId) (p : Value) (w : World) (hvar : w.var? Tryz.prog "strconv.ErrSyntax" = some #[.iface tp p]) :
    Calls Tryz.prog 65 #[.string ⟨#[]⟩] w fun e w' => (∃ N, e = .returned (.tuple #[.int .i64 0, .iface 114 (.pointer (some ⟨N, 0, none⟩))])) ∧ RowKit.Below w.heap.size w w' := (Any.strconv_Atoi_syntax_var Tryz.laysC172 ⟨#[]⟩ (by decide) rfl tp p w hvar).mono fun _ _ ⟨N, h1, _, _, h4⟩ => ⟨⟨N, h1⟩, h4⟩
end Go.Proofs
