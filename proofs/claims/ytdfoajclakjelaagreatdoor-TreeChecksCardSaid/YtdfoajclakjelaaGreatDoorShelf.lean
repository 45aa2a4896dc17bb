/- The contracts of Go's library that this seat's program can use, laid at its translation (by the kit's one command, in plain words). -/
import Derived.Shelf.Strings.SlTrimAscii
import Derived.Shelf.Strings.Builder1
import Derived.Shelf.Strings.Builder2
import Derived.Shelf.Strings.Trim
import Derived.Shelf.Small.Utf8
import Derived.Shelf.Small.Strs
import Derived.Shelf.Strings.BuilderF
import Derived.Shelf.Strings.BuilderK
import Derived.Shelf.Strings.Builder2Cap
import Derived.Shelf.Strconv.Itoa0
import Derived.Shelf.Strconv.Itoa1
import Derived.Shelf.LaysM
import Derived.Shelf.Strconv.Itoa2
import Derived.Shelf.Strconv.Itoa3
import Derived.Shelf.Strconv.Clone
import Derived.Shelf.Strconv.SyntaxError
import Derived.Shelf.LaysC
import Derived.Shelf.Strconv.ToError
import Derived.Shelf.Strconv.Lower
import Derived.Shelf.Strconv.ParseUint10
import Derived.Shelf.Strconv.ParseUint10Empty
import Derived.Shelf.Strconv.ParseUint10Any
import Derived.Shelf.Strconv.RangeError
import Derived.Shelf.Strconv.ToErrorRange
import Derived.Shelf.Strconv.ParseUintEmpty
import Derived.Ground.MpProg
import Derived.Shelf.Pu.ParseUintPublic10
import Derived.Shelf.Pu.ErrVarParseUint
import Derived.Shelf.Strings.Search1
import Derived.Shelf.Strings.Prefix
import Derived.Shelf.Unicode.Decode
import Derived.Shelf.Strings.Runes
import Derived.Shelf.Strings.AsciiSet
import Derived.Shelf.Bits.Mul64
import Derived.Shelf.Strings.Repeat
import Derived.Shelf.Unicode.DecodeSlow
import Derived.Shelf.Unicode.DecodeAny
import Derived.Shelf.Unicode.DecodeLast
import Derived.Shelf.Strings.BuilderCap
import Derived.Test.YtdfoajclakjelaaGreatDoorProg
namespace Go.Proofs
open Go.Shelf
def Tryz.lays240_ren : Go.Shelf.Ren := ⟨fun | 240 => 109 | 276 => 129 | n => n, fun | 0 => 0 | 4 => 4 | 9 => 9 | 20 => 20 | 37 => 97 | 70 => 96 | 72 => 99 | 164 => 149 | n => n, fun  | n => n⟩
def Tryz.lays166_ren : Go.Shelf.Ren := ⟨fun | 166 => 82 | 240 => 109 | 276 => 129 | n => n, fun | 0 => 0 | 3 => 3 | 4 => 4 | 5 => 5 | 9 => 9 | 20 => 20 | 37 => 97 | 70 => 96 | 72 => 99 | 75 => 39 | 80 => 104 | 164 => 149 | n => n, fun  | n => n⟩
theorem Tryz.lays166 : Go.Proofs.Lays.n166 Tryz.prog Tryz.lays166_ren := {
  mixed := by kernel_rfl
  f166 := Tryz.func82.trans (congrArg some (by kernel_rfl))
  f240 := Tryz.func109.trans (congrArg some (by kernel_rfl))
  f276 := Tryz.func129.trans (congrArg some (by kernel_rfl))
  t0 := Tryz.underlying0
  a0 := Tryz.isAgg0
  z0 := Tryz.sizeOf0
  v0 := Tryz.zeroValue0
  t3 := Tryz.underlying3
  a3 := Tryz.isAgg3
  z3 := Tryz.sizeOf3
  v3 := Tryz.zeroValue3
  t4 := Tryz.underlying4
  a4 := Tryz.isAgg4
  z4 := Tryz.sizeOf4
  v4 := Tryz.zeroValue4
  t9 := Tryz.underlying9
  a9 := Tryz.isAgg9
  z9 := Tryz.sizeOf9
  v9 := Tryz.zeroValue9
  t20 := Tryz.underlying20
  a20 := Tryz.isAgg20
  z20 := Tryz.sizeOf20
  v20 := Tryz.zeroValue20
  t37 := Tryz.underlying97
  a37 := Tryz.isAgg97
  z37 := Tryz.sizeOf97
  v37 := Tryz.zeroValue97
  t70 := Tryz.underlying96
  a70 := Tryz.isAgg96
  z70 := Tryz.sizeOf96
  v70 := Tryz.zeroValue96
  t72 := Tryz.underlying99
  a72 := Tryz.isAgg99
  z72 := Tryz.sizeOf99
  v72 := Tryz.zeroValue99
  t75 := Tryz.underlying39
  a75 := Tryz.isAgg39
  z75 := Tryz.sizeOf39
  v75 := Tryz.zeroValue39
  t164 := Tryz.underlying149
  a164 := Tryz.isAgg149
  z164 := Tryz.sizeOf149
  v164 := Tryz.zeroValue149 }
theorem Tryz.Builder_Extra_166 : Builder.Extra Tryz.prog Tryz.lays166_ren := {
  sizeBuilder := by kernel_rfl
  liesBuilder := by kernel_rfl
  t5 := Tryz.underlying5
  a5 := Tryz.isAgg5
  z5 := Tryz.sizeOf5
  v5 := Tryz.zeroValue5
  infoByte := by kernel_rfl
  cellsByte := by kernel_rfl
  sizeByte := by kernel_rfl
  neB5 := by decide }
open Go.RowKit in
theorem Tryz.Builder_WriteString_k (B b : Nat) (bs : List Value) (s : ByteArray) (w : World) (h : Lib.IsBuilderF 99 5 B b bs w) (hlen : bs.length + s.size ≤ 140737488355328) (hBw : B ≤ w.heap.size) :
    Calls Tryz.prog 82 #[.pointer (some ⟨b, 0, none⟩), .string s] w fun e w' => e = .returned (.tuple #[.int .i64 s.size, .nilIface]) ∧ (Lib.BuilderAtF 99 5 B b (.pointer (some ⟨b, 0, none⟩)) (bs ++ Lib.strCells s) w' ∧ Below B w w' ∧ Lib.OthersKept 5 (some b) w w') := Any.Builder_WriteString_k Tryz.lays166 Tryz.Builder_Extra_166 B b bs s w h hlen hBw
def Tryz.lays170_ren : Go.Shelf.Ren := ⟨fun | 170 => 83 | n => n, fun | 70 => 96 | 3 => 3 | 0 => 0 | 72 => 99 | 37 => 97 | 5 => 5 | n => n, fun | n => n⟩
theorem Tryz.lays170 : Go.Proofs.Lays.n170 Tryz.prog Tryz.lays170_ren := {
  mixed := by kernel_rfl
  f170 := Tryz.func83.trans (congrArg some (by kernel_rfl))
  t0 := Tryz.underlying0
  a0 := Tryz.isAgg0
  z0 := Tryz.sizeOf0
  v0 := Tryz.zeroValue0
  t3 := Tryz.underlying3
  a3 := Tryz.isAgg3
  z3 := Tryz.sizeOf3
  v3 := Tryz.zeroValue3
  t37 := Tryz.underlying97
  a37 := Tryz.isAgg97
  z37 := Tryz.sizeOf97
  v37 := Tryz.zeroValue97
  t70 := Tryz.underlying96
  a70 := Tryz.isAgg96
  z70 := Tryz.sizeOf96
  v70 := Tryz.zeroValue96
  t72 := Tryz.underlying99
  a72 := Tryz.isAgg99
  z72 := Tryz.sizeOf99
  v72 := Tryz.zeroValue99 }
def Tryz.lays169_ren : Go.Shelf.Ren := ⟨fun | 169 => 84 | n => n, fun | 70 => 96 | 9 => 9 | 0 => 0 | 72 => 99 | 37 => 97 | 127 => 132 | 3 => 3 | 5 => 5 | n => n, fun | n => n⟩
theorem Tryz.lays169 : Go.Proofs.Lays.n169 Tryz.prog Tryz.lays169_ren := {
  mixed := by kernel_rfl
  f169 := Tryz.func84.trans (congrArg some (by kernel_rfl))
  t0 := Tryz.underlying0
  a0 := Tryz.isAgg0
  z0 := Tryz.sizeOf0
  v0 := Tryz.zeroValue0
  t3 := Tryz.underlying3
  a3 := Tryz.isAgg3
  z3 := Tryz.sizeOf3
  v3 := Tryz.zeroValue3
  t9 := Tryz.underlying9
  a9 := Tryz.isAgg9
  z9 := Tryz.sizeOf9
  v9 := Tryz.zeroValue9
  t37 := Tryz.underlying97
  a37 := Tryz.isAgg97
  z37 := Tryz.sizeOf97
  v37 := Tryz.zeroValue97
  t70 := Tryz.underlying96
  a70 := Tryz.isAgg96
  z70 := Tryz.sizeOf96
  v70 := Tryz.zeroValue96
  t72 := Tryz.underlying99
  a72 := Tryz.isAgg99
  z72 := Tryz.sizeOf99
  v72 := Tryz.zeroValue99
  t127 := Tryz.underlying132
  a127 := Tryz.isAgg132
  z127 := Tryz.sizeOf132
  v127 := Tryz.zeroValue132 }
theorem Tryz.Builder_Extra_169 : Builder.Extra Tryz.prog Tryz.lays169_ren := {
  sizeBuilder := by kernel_rfl
  liesBuilder := by kernel_rfl
  t5 := Tryz.underlying5
  a5 := Tryz.isAgg5
  z5 := Tryz.sizeOf5
  v5 := Tryz.zeroValue5
  infoByte := by kernel_rfl
  cellsByte := by kernel_rfl
  sizeByte := by kernel_rfl
  neB5 := by decide }
def Tryz.lays241_ren : Go.Shelf.Ren := ⟨fun | 241 => 110 | 277 => 130 | n => n, fun | 70 => 96 | 3 => 3 | 0 => 0 | 72 => 99 | 37 => 97 | 5 => 5 | n => n, fun | n => n⟩
def Tryz.lays165_ren : Go.Shelf.Ren := ⟨fun | 165 => 81 | 240 => 109 | 241 => 110 | 276 => 129 | 277 => 130 | n => n, fun | 70 => 96 | 3 => 3 | 0 => 0 | 4 => 4 | 9 => 9 | 20 => 20 | 72 => 99 | 37 => 97 | 164 => 149 | 5 => 5 | n => n, fun | n => n⟩
def Tryz.lays231_ren : Go.Shelf.Ren := ⟨fun | 231 => 116 | n => n, fun | 9 => 9 | 5 => 5 | 3 => 3 | 4 => 4 | n => n, fun | n => n⟩
def Tryz.lays232_ren : Go.Shelf.Ren := ⟨fun | 232 => 117 | n => n, fun | 9 => 9 | 5 => 5 | 3 => 3 | 4 => 4 | n => n, fun | n => n⟩
def Tryz.lays160_ren : Go.Shelf.Ren := ⟨fun | 160 => 102 | 232 => 117 | 231 => 116 | 227 => 118 | 234 => 120 | 233 => 119 | 236 => 122 | 235 => 121 | 228 => 132 | 271 => 135 | 151 => 134 | 197 => 133 | 120 => 141 | 152 => 140 | 260 => 139 | 137 => 143 | 119 => 144 | 224 => 145 | 225 => 146 | 217 => 148 | 266 => 153 | n => n, fun | 9 => 9 | 4 => 4 | 3 => 3 | 5 => 5 | 117 => 140 | 116 => 139 | 0 => 0 | 124 => 143 | 21 => 21 | 105 => 158 | 46 => 86 | 119 => 153 | 139 => 156 | 138 => 155 | n => n, fun | 3 => 2 | 4 => 3 | n => n⟩
theorem Tryz.lays160 : Go.Proofs.Lays.n160 Tryz.prog Tryz.lays160_ren := {
  mixed := by kernel_rfl
  f119 := Tryz.func144.trans (congrArg some (by kernel_rfl))
  f120 := Tryz.func141.trans (congrArg some (by kernel_rfl))
  f137 := Tryz.func143.trans (congrArg some (by kernel_rfl))
  f151 := Tryz.func134.trans (congrArg some (by kernel_rfl))
  f152 := Tryz.func140.trans (congrArg some (by kernel_rfl))
  f160 := Tryz.func102.trans (congrArg some (by kernel_rfl))
  f197 := Tryz.func133.trans (congrArg some (by kernel_rfl))
  f217 := Tryz.func148.trans (congrArg some (by kernel_rfl))
  f224 := Tryz.func145.trans (congrArg some (by kernel_rfl))
  f225 := Tryz.func146.trans (congrArg some (by kernel_rfl))
  f227 := Tryz.func118.trans (congrArg some (by kernel_rfl))
  f228 := Tryz.func132.trans (congrArg some (by kernel_rfl))
  f231 := Tryz.func116.trans (congrArg some (by kernel_rfl))
  f232 := Tryz.func117.trans (congrArg some (by kernel_rfl))
  f233 := Tryz.func119.trans (congrArg some (by kernel_rfl))
  f234 := Tryz.func120.trans (congrArg some (by kernel_rfl))
  f235 := Tryz.func121.trans (congrArg some (by kernel_rfl))
  f236 := Tryz.func122.trans (congrArg some (by kernel_rfl))
  f260 := Tryz.func139.trans (congrArg some (by kernel_rfl))
  f266 := Tryz.func153.trans (congrArg some (by kernel_rfl))
  f271 := Tryz.func135.trans (congrArg some (by kernel_rfl))
  t0 := Tryz.underlying0
  a0 := Tryz.isAgg0
  z0 := Tryz.sizeOf0
  v0 := Tryz.zeroValue0
  t3 := Tryz.underlying3
  a3 := Tryz.isAgg3
  z3 := Tryz.sizeOf3
  v3 := Tryz.zeroValue3
  t4 := Tryz.underlying4
  a4 := Tryz.isAgg4
  z4 := Tryz.sizeOf4
  v4 := Tryz.zeroValue4
  t5 := Tryz.underlying5
  a5 := Tryz.isAgg5
  z5 := Tryz.sizeOf5
  v5 := Tryz.zeroValue5
  t9 := Tryz.underlying9
  a9 := Tryz.isAgg9
  z9 := Tryz.sizeOf9
  v9 := Tryz.zeroValue9
  t21 := Tryz.underlying21
  a21 := Tryz.isAgg21
  z21 := Tryz.sizeOf21
  v21 := Tryz.zeroValue21
  t46 := Tryz.underlying86
  a46 := Tryz.isAgg86
  z46 := Tryz.sizeOf86
  v46 := Tryz.zeroValue86
  t105 := Tryz.underlying158
  a105 := Tryz.isAgg158
  z105 := Tryz.sizeOf158
  v105 := Tryz.zeroValue158
  t116 := Tryz.underlying139
  a116 := Tryz.isAgg139
  z116 := Tryz.sizeOf139
  t117 := Tryz.underlying140
  a117 := Tryz.isAgg140
  z117 := Tryz.sizeOf140
  v117 := Tryz.zeroValue140
  t119 := Tryz.underlying153
  a119 := Tryz.isAgg153
  z119 := Tryz.sizeOf153
  t124 := Tryz.underlying143
  a124 := Tryz.isAgg143
  z124 := Tryz.sizeOf143
  v124 := Tryz.zeroValue143
  t138 := Tryz.underlying155
  a138 := Tryz.isAgg155
  z138 := Tryz.sizeOf155
  v138 := Tryz.zeroValue155
  t139 := Tryz.underlying156
  a139 := Tryz.isAgg156
  z139 := Tryz.sizeOf156
  v139 := Tryz.zeroValue156
  g3 := by kernel_rfl
  g4 := by kernel_rfl }
def Tryz.lays119_ren : Go.Shelf.Ren := ⟨fun | 119 => 144 | n => n, fun | 21 => 21 | 4 => 4 | n => n, fun | n => n⟩
def Tryz.lays120_ren : Go.Shelf.Ren := ⟨fun | 120 => 141 | n => n, fun | 5 => 5 | 4 => 4 | n => n, fun | n => n⟩
theorem Tryz.lays120 : Go.Proofs.Lays.n120 Tryz.prog Tryz.lays120_ren := {
  mixed := by kernel_rfl
  f120 := Tryz.func141.trans (congrArg some (by kernel_rfl))
  t4 := Tryz.underlying4
  a4 := Tryz.isAgg4
  z4 := Tryz.sizeOf4
  v4 := Tryz.zeroValue4
  t5 := Tryz.underlying5
  a5 := Tryz.isAgg5
  z5 := Tryz.sizeOf5
  v5 := Tryz.zeroValue5 }
theorem Tryz.utf8_RuneStart (b : Int) (w : World) (h0 : 0 ≤ b) (h1 : b < 256) :
    Calls Tryz.prog 141 #[.int .u8 b] w fun e w' => e = .returned (.bool (Lib.runeStart b)) ∧ w' = w := Any.utf8_RuneStart Tryz.lays120 b w h0 h1
def Tryz.lays137_ren : Go.Shelf.Ren := ⟨fun | 137 => 143 | 217 => 148 | 266 => 153 | n => n, fun | 9 => 9 | 5 => 5 | 3 => 3 | n => n, fun | n => n⟩
open Go.RowKit in
theorem Tryz.Builder_Len_f (B b : Nat) (bs : List Value) (w : World) (h : Lib.IsBuilderF 99 5 B b bs w) :
    Calls Tryz.prog 83 #[.pointer (some ⟨b, 0, none⟩)] w fun e w' => e = .returned (.int .i64 bs.length) ∧ w' = w := Any.Builder_Len_f Tryz.lays170 B b bs w h
open Go.RowKit in
theorem Tryz.Builder_String_any_k (B b : Nat) (l : List UInt8) (w : World) (h : Lib.IsBuilderF 99 5 B b (Lib.byteCells l) w) (hBw : B ≤ w.heap.size) :
    Calls Tryz.prog 84 #[.pointer (some ⟨b, 0, none⟩)] w fun e w' => e = .returned (.string ⟨l.toArray⟩) ∧ (Lib.IsBuilderF 99 5 B b (Lib.byteCells l) w' ∧ Below B w w' ∧ Lib.OthersKept 5 (some b) w w') := Any.Builder_String_any_k Tryz.lays169 Tryz.Builder_Extra_169 B b l w h hBw
def Tryz.lays129_ren : Go.Shelf.Ren := ⟨fun | 129 => 91 | n => n, fun | 53 => 24 | 3 => 3 | 4 => 4 | 46 => 86 | 5 => 5 | 9 => 9 | n => n, fun | n => n⟩
theorem Tryz.lays129 : Go.Proofs.Lays.n129 Tryz.prog Tryz.lays129_ren := {
  mixed := by kernel_rfl
  f129 := Tryz.func91.trans (congrArg some (by kernel_rfl))
  t3 := Tryz.underlying3
  a3 := Tryz.isAgg3
  z3 := Tryz.sizeOf3
  v3 := Tryz.zeroValue3
  t4 := Tryz.underlying4
  a4 := Tryz.isAgg4
  z4 := Tryz.sizeOf4
  v4 := Tryz.zeroValue4
  t5 := Tryz.underlying5
  a5 := Tryz.isAgg5
  z5 := Tryz.sizeOf5
  v5 := Tryz.zeroValue5
  t9 := Tryz.underlying9
  a9 := Tryz.isAgg9
  z9 := Tryz.sizeOf9
  v9 := Tryz.zeroValue9
  t46 := Tryz.underlying86
  a46 := Tryz.isAgg86
  z46 := Tryz.sizeOf86
  v46 := Tryz.zeroValue86
  t53 := Tryz.underlying24
  a53 := Tryz.isAgg24
  z53 := Tryz.sizeOf24
  v53 := Tryz.zeroValue24 }
theorem Tryz.bits_Len64 (x : Int) (w : World) (h0 : 0 ≤ x) (h1 : x ≤ 18446744073709551615) :
    Calls Tryz.prog 91 #[.int .u64 x] w fun e w' => e = .returned (.int .i64 (Lib.bitLen x.toNat)) ∧ w' = w := Any.bits_Len64 Tryz.lays129 x w h0 h1
def Tryz.lays317_ren : Go.Shelf.Ren := ⟨fun | 317 => 154 | n => n, fun | 3 => 3 | 46 => 86 | n => n, fun | n => n⟩
def Tryz.lays318_ren : Go.Shelf.Ren := ⟨fun | 318 => 155 | n => n, fun | 3 => 3 | 4 => 4 | n => n, fun | n => n⟩
def Tryz.lays283_ren : Go.Shelf.Ren := ⟨fun | 283 => 149 | n => n, fun | 3 => 3 | 9 => 9 | 4 => 4 | n => n, fun | n => n⟩
theorem Tryz.lays283 : Go.Proofs.Lays.n283 Tryz.prog Tryz.lays283_ren := {
  mixed := by kernel_rfl
  f283 := Tryz.func149.trans (congrArg some (by kernel_rfl))
  t3 := Tryz.underlying3
  a3 := Tryz.isAgg3
  z3 := Tryz.sizeOf3
  v3 := Tryz.zeroValue3
  t4 := Tryz.underlying4
  a4 := Tryz.isAgg4
  z4 := Tryz.sizeOf4
  v4 := Tryz.zeroValue4
  t9 := Tryz.underlying9
  a9 := Tryz.isAgg9
  z9 := Tryz.sizeOf9
  v9 := Tryz.zeroValue9 }
open Go.Lib in
theorem Tryz.internal_strconv_small (i : Nat) (h : i < 100) (w : World) :
    Calls Tryz.prog 149 #[.int .i64 i] w fun e w' => e = .returned (.string ⟨(Lib.decDigits i).toArray⟩) ∧ w' = w := Any.internal_strconv_small Tryz.lays283 i h w
def Tryz.laysM284_ren : Go.Shelf.Ren := ⟨fun | 284 => 150 | 129 => 91 | 317 => 154 | 318 => 155 | n => n, fun | 53 => 24 | 3 => 3 | 212 => 178 | 0 => 0 | 4 => 4 | 46 => 86 | 5 => 5 | 9 => 9 | n => n, fun | 17 => 7 | n => n⟩
theorem Tryz.laysM284 : Go.Proofs.LaysM.n284 Tryz.prog Tryz.laysM284_ren := {
  mixed := by kernel_rfl
  f129 := Tryz.func91.trans (congrArg some (by kernel_rfl))
  f284 := Tryz.func150.trans (congrArg some (by kernel_rfl))
  f317 := Tryz.func154.trans (congrArg some (by kernel_rfl))
  f318 := Tryz.func155.trans (congrArg some (by kernel_rfl))
  t0 := Tryz.underlying0
  a0 := Tryz.isAgg0
  z0 := Tryz.sizeOf0
  v0 := Tryz.zeroValue0
  t3 := Tryz.underlying3
  a3 := Tryz.isAgg3
  z3 := Tryz.sizeOf3
  v3 := Tryz.zeroValue3
  t4 := Tryz.underlying4
  a4 := Tryz.isAgg4
  z4 := Tryz.sizeOf4
  v4 := Tryz.zeroValue4
  t5 := Tryz.underlying5
  a5 := Tryz.isAgg5
  z5 := Tryz.sizeOf5
  v5 := Tryz.zeroValue5
  t9 := Tryz.underlying9
  a9 := Tryz.isAgg9
  z9 := Tryz.sizeOf9
  v9 := Tryz.zeroValue9
  t46 := Tryz.underlying86
  a46 := Tryz.isAgg86
  z46 := Tryz.sizeOf86
  v46 := Tryz.zeroValue86
  t53 := Tryz.underlying24
  a53 := Tryz.isAgg24
  z53 := Tryz.sizeOf24
  v53 := Tryz.zeroValue24
  t212 := Tryz.underlying178
  a212 := Tryz.isAgg178
  z212 := Tryz.sizeOf178
  v212 := Tryz.zeroValue178
  g17 := by kernel_rfl
  i0 := by kernel_rfl
  i3 := by kernel_rfl
  i4 := by kernel_rfl
  i5 := by kernel_rfl
  i9 := by kernel_rfl
  i46 := by kernel_rfl
  i53 := by kernel_rfl
  i212 := by kernel_rfl
  m17 := by kernel_rfl }
open Go.Lib in
theorem Tryz.internal_strconv_numDigits (u : Nat) (h1 : 1 ≤ u) (h2 : u < 18446744073709551616) (w : World) (htab : Lib.TabIs Tryz.prog w "internal/strconv.uint64pow10" .u64 Lib.pow10Tab) :
    Calls Tryz.prog 150 #[.int .u64 u] w fun e w' => e = .returned (.int .i64 (Lib.nDigits u)) ∧ w' = w := Any.internal_strconv_numDigits Tryz.laysM284 u h1 h2 w htab
def Tryz.lays285_ren : Go.Shelf.Ren := ⟨fun | 285 => 151 | n => n, fun | 37 => 97 | 53 => 24 | 3 => 3 | 4 => 4 | 51 => 127 | 9 => 9 | 5 => 5 | 0 => 0 | n => n, fun | n => n⟩
theorem Tryz.lays285 : Go.Proofs.Lays.n285 Tryz.prog Tryz.lays285_ren := {
  mixed := by kernel_rfl
  f285 := Tryz.func151.trans (congrArg some (by kernel_rfl))
  t0 := Tryz.underlying0
  a0 := Tryz.isAgg0
  z0 := Tryz.sizeOf0
  v0 := Tryz.zeroValue0
  t3 := Tryz.underlying3
  a3 := Tryz.isAgg3
  z3 := Tryz.sizeOf3
  v3 := Tryz.zeroValue3
  t4 := Tryz.underlying4
  a4 := Tryz.isAgg4
  z4 := Tryz.sizeOf4
  v4 := Tryz.zeroValue4
  t5 := Tryz.underlying5
  a5 := Tryz.isAgg5
  z5 := Tryz.sizeOf5
  v5 := Tryz.zeroValue5
  t9 := Tryz.underlying9
  a9 := Tryz.isAgg9
  z9 := Tryz.sizeOf9
  v9 := Tryz.zeroValue9
  t37 := Tryz.underlying97
  a37 := Tryz.isAgg97
  z37 := Tryz.sizeOf97
  v37 := Tryz.zeroValue97
  t51 := Tryz.underlying127
  a51 := Tryz.isAgg127
  z51 := Tryz.sizeOf127
  v51 := Tryz.zeroValue127
  t53 := Tryz.underlying24
  a53 := Tryz.isAgg24
  z53 := Tryz.sizeOf24
  v53 := Tryz.zeroValue24 }
open Go.RowKit Go.Sort Go.Lib in
theorem Tryz.internal_strconv_formatBase10 (blk off cap : Nat) (u : Nat) (d : Array UInt8) (w : World) (hH : Holds (fun (b : UInt8) => Value.int .u8 (b.toNat : Int)) w blk off d) (hu : u < 10 ^ d.size) (hu64 : u < 18446744073709551616) (hsz : d.size < 4611686018427387904) :
    Calls Tryz.prog 151 #[.slice (some ⟨blk, off, none⟩) d.size cap, .int .u64 u] w fun e w' =>
      e = .returned (.tuple #[]) ∧ ∃ (n v' : Nat) (dk : Array UInt8), w' = (putRow (fun (b : UInt8) => Value.int .u8 (b.toNat : Int)) w blk off dk).drewN n ∧ FmtInv d.size u 0 v' dk := Any.internal_strconv_formatBase10 Tryz.lays285 blk off cap u d w hH hu hu64 hsz
def Tryz.laysM246_ren : Go.Shelf.Ren := ⟨fun | 246 => 147 | 283 => 149 | 284 => 150 | 285 => 151 | 286 => 152 | 129 => 91 | 317 => 154 | 318 => 155 | 319 => 156 | 320 => 157 | 337 => 158 | 338 => 159 | n => n, fun | 2 => 2 | 3 => 3 | 9 => 9 | 4 => 4 | 171 => 173 | 0 => 0 | 53 => 24 | 37 => 97 | 5 => 5 | 173 => 175 | 212 => 178 | 51 => 127 | 20 => 20 | 213 => 179 | 46 => 86 | 232 => 182 | 233 => 183 | n => n, fun | 17 => 7 | 18 => 8 | 19 => 9 | n => n⟩
def Tryz.lays246_ren : Go.Shelf.Ren := ⟨fun | 246 => 147 | 283 => 149 | 284 => 150 | 285 => 151 | 286 => 152 | 129 => 91 | 317 => 154 | 318 => 155 | 319 => 156 | 320 => 157 | 337 => 158 | 338 => 159 | n => n, fun | 2 => 2 | 3 => 3 | 9 => 9 | 4 => 4 | 171 => 173 | 0 => 0 | 53 => 24 | 37 => 97 | 5 => 5 | 173 => 175 | 212 => 178 | 51 => 127 | 20 => 20 | 213 => 179 | 46 => 86 | 232 => 182 | 233 => 183 | n => n, fun | 17 => 7 | 18 => 8 | 19 => 9 | n => n⟩
def Tryz.laysM243_ren : Go.Shelf.Ren := ⟨fun | 243 => 142 | 246 => 147 | 283 => 149 | 284 => 150 | 285 => 151 | 286 => 152 | 129 => 91 | 317 => 154 | 318 => 155 | 319 => 156 | 320 => 157 | 337 => 158 | 338 => 159 | n => n, fun | 3 => 3 | 9 => 9 | 2 => 2 | 4 => 4 | 171 => 173 | 0 => 0 | 53 => 24 | 37 => 97 | 5 => 5 | 173 => 175 | 212 => 178 | 51 => 127 | 20 => 20 | 213 => 179 | 46 => 86 | 232 => 182 | 233 => 183 | n => n, fun | 17 => 7 | 18 => 8 | 19 => 9 | n => n⟩
def Tryz.lays243_ren : Go.Shelf.Ren := ⟨fun | 243 => 142 | 246 => 147 | 283 => 149 | 284 => 150 | 285 => 151 | 286 => 152 | 129 => 91 | 317 => 154 | 318 => 155 | 319 => 156 | 320 => 157 | 337 => 158 | 338 => 159 | n => n, fun | 3 => 3 | 9 => 9 | 2 => 2 | 4 => 4 | 171 => 173 | 0 => 0 | 53 => 24 | 37 => 97 | 5 => 5 | 173 => 175 | 212 => 178 | 51 => 127 | 20 => 20 | 213 => 179 | 46 => 86 | 232 => 182 | 233 => 183 | n => n, fun | 17 => 7 | 18 => 8 | 19 => 9 | n => n⟩
def Tryz.laysM171_ren : Go.Shelf.Ren := ⟨fun | 171 => 138 | 243 => 142 | 246 => 147 | 283 => 149 | 284 => 150 | 285 => 151 | 286 => 152 | 129 => 91 | 317 => 154 | 318 => 155 | 319 => 156 | 320 => 157 | 337 => 158 | 338 => 159 | n => n, fun | 3 => 3 | 9 => 9 | 2 => 2 | 4 => 4 | 171 => 173 | 0 => 0 | 53 => 24 | 37 => 97 | 5 => 5 | 173 => 175 | 212 => 178 | 51 => 127 | 20 => 20 | 213 => 179 | 46 => 86 | 232 => 182 | 233 => 183 | n => n, fun | 17 => 7 | 18 => 8 | 19 => 9 | n => n⟩
theorem Tryz.laysM171 : Go.Proofs.LaysM.n171 Tryz.prog Tryz.laysM171_ren := {
  mixed := by kernel_rfl
  f129 := Tryz.func91.trans (congrArg some (by kernel_rfl))
  f171 := Tryz.func138.trans (congrArg some (by kernel_rfl))
  f243 := Tryz.func142.trans (congrArg some (by kernel_rfl))
  f246 := Tryz.func147.trans (congrArg some (by kernel_rfl))
  f283 := Tryz.func149.trans (congrArg some (by kernel_rfl))
  f284 := Tryz.func150.trans (congrArg some (by kernel_rfl))
  f285 := Tryz.func151.trans (congrArg some (by kernel_rfl))
  f286 := Tryz.func152.trans (congrArg some (by kernel_rfl))
  f317 := Tryz.func154.trans (congrArg some (by kernel_rfl))
  f318 := Tryz.func155.trans (congrArg some (by kernel_rfl))
  f319 := Tryz.func156.trans (congrArg some (by kernel_rfl))
  f320 := Tryz.func157.trans (congrArg some (by kernel_rfl))
  f337 := Tryz.func158.trans (congrArg some (by kernel_rfl))
  f338 := Tryz.func159.trans (congrArg some (by kernel_rfl))
  t0 := Tryz.underlying0
  a0 := Tryz.isAgg0
  z0 := Tryz.sizeOf0
  v0 := Tryz.zeroValue0
  t2 := Tryz.underlying2
  a2 := Tryz.isAgg2
  z2 := Tryz.sizeOf2
  v2 := Tryz.zeroValue2
  t3 := Tryz.underlying3
  a3 := Tryz.isAgg3
  z3 := Tryz.sizeOf3
  v3 := Tryz.zeroValue3
  t4 := Tryz.underlying4
  a4 := Tryz.isAgg4
  z4 := Tryz.sizeOf4
  v4 := Tryz.zeroValue4
  t5 := Tryz.underlying5
  a5 := Tryz.isAgg5
  z5 := Tryz.sizeOf5
  v5 := Tryz.zeroValue5
  t9 := Tryz.underlying9
  a9 := Tryz.isAgg9
  z9 := Tryz.sizeOf9
  v9 := Tryz.zeroValue9
  t20 := Tryz.underlying20
  a20 := Tryz.isAgg20
  z20 := Tryz.sizeOf20
  v20 := Tryz.zeroValue20
  t37 := Tryz.underlying97
  a37 := Tryz.isAgg97
  z37 := Tryz.sizeOf97
  v37 := Tryz.zeroValue97
  t46 := Tryz.underlying86
  a46 := Tryz.isAgg86
  z46 := Tryz.sizeOf86
  v46 := Tryz.zeroValue86
  t51 := Tryz.underlying127
  a51 := Tryz.isAgg127
  z51 := Tryz.sizeOf127
  v51 := Tryz.zeroValue127
  t53 := Tryz.underlying24
  a53 := Tryz.isAgg24
  z53 := Tryz.sizeOf24
  v53 := Tryz.zeroValue24
  t171 := Tryz.underlying173
  a171 := Tryz.isAgg173
  z171 := Tryz.sizeOf173
  v171 := Tryz.zeroValue173
  t173 := Tryz.underlying175
  a173 := Tryz.isAgg175
  z173 := Tryz.sizeOf175
  v173 := Tryz.zeroValue175
  t212 := Tryz.underlying178
  a212 := Tryz.isAgg178
  z212 := Tryz.sizeOf178
  v212 := Tryz.zeroValue178
  t213 := Tryz.underlying179
  a213 := Tryz.isAgg179
  z213 := Tryz.sizeOf179
  t232 := Tryz.underlying182
  a232 := Tryz.isAgg182
  z232 := Tryz.sizeOf182
  v232 := Tryz.zeroValue182
  t233 := Tryz.underlying183
  a233 := Tryz.isAgg183
  z233 := Tryz.sizeOf183
  v233 := Tryz.zeroValue183
  g17 := by kernel_rfl
  g18 := by kernel_rfl
  g19 := by kernel_rfl
  i0 := by kernel_rfl
  i2 := by kernel_rfl
  i3 := by kernel_rfl
  i4 := by kernel_rfl
  i5 := by kernel_rfl
  i9 := by kernel_rfl
  i20 := by kernel_rfl
  i37 := by kernel_rfl
  i46 := by kernel_rfl
  i51 := by kernel_rfl
  i53 := by kernel_rfl
  i171 := by kernel_rfl
  i173 := by kernel_rfl
  i212 := by kernel_rfl
  i232 := by kernel_rfl
  i233 := by kernel_rfl
  m17 := by kernel_rfl
  m18 := by kernel_rfl
  m19 := by kernel_rfl }
open Go.RowKit Go.Sort Go.Lib in
theorem Tryz.strconv_Itoa (n : Int) (h0 : -9223372036854775808 ≤ n) (h1 : n ≤ 9223372036854775807) (w : World) (htab : Lib.TabIs Tryz.prog w "internal/strconv.uint64pow10" .u64 Lib.pow10Tab) :
    Calls Tryz.prog 138 #[.int .i64 n] w fun e w' => e = .returned (.string ⟨(Lib.itoa n).toArray⟩) ∧ ∃ k os, w' = grow (w.drewN k) os := Any.strconv_Itoa Tryz.laysM171 n h0 h1 w htab
def Tryz.lays171_ren : Go.Shelf.Ren := ⟨fun | 171 => 138 | 243 => 142 | 246 => 147 | 283 => 149 | 284 => 150 | 285 => 151 | 286 => 152 | 129 => 91 | 317 => 154 | 318 => 155 | 319 => 156 | 320 => 157 | 337 => 158 | 338 => 159 | n => n, fun | 3 => 3 | 9 => 9 | 2 => 2 | 4 => 4 | 171 => 173 | 0 => 0 | 53 => 24 | 37 => 97 | 5 => 5 | 173 => 175 | 212 => 178 | 51 => 127 | 20 => 20 | 213 => 179 | 46 => 86 | 232 => 182 | 233 => 183 | n => n, fun | 17 => 7 | 18 => 8 | 19 => 9 | n => n⟩
def Tryz.laysM316_ren : Go.Shelf.Ren := ⟨fun | 316 => 136 | n => n, fun | 9 => 9 | 3 => 3 | 4 => 4 | 37 => 97 | 0 => 0 | 127 => 132 | 5 => 5 | n => n, fun | n => n⟩
def Tryz.laysM279_ren : Go.Shelf.Ren := ⟨fun | 279 => 125 | 316 => 136 | n => n, fun | 9 => 9 | 168 => 146 | 75 => 39 | 210 => 163 | 3 => 3 | 4 => 4 | 37 => 97 | 0 => 0 | 127 => 132 | 80 => 104 | 5 => 5 | n => n, fun | 15 => 4 | n => n⟩
def Tryz.laysC245_ren : Go.Shelf.Ren := ⟨fun | 245 => 105 | 279 => 125 | 280 => 126 | 281 => 127 | 282 => 128 | 316 => 136 | 171 => 138 | 205 => 137 | 243 => 142 | 246 => 147 | 283 => 149 | 284 => 150 | 285 => 151 | 286 => 152 | 129 => 91 | 317 => 154 | 318 => 155 | 319 => 156 | 320 => 157 | 337 => 158 | 338 => 159 | n => n, fun | 9 => 9 | 3 => 3 | 75 => 39 | 167 => 144 | 4 => 4 | 168 => 146 | 210 => 163 | 37 => 97 | 0 => 0 | 127 => 132 | 145 => 168 | 143 => 166 | 2 => 2 | 171 => 173 | 53 => 24 | 5 => 5 | 173 => 175 | 212 => 178 | 51 => 127 | 20 => 20 | 213 => 179 | 46 => 86 | 232 => 182 | 233 => 183 | 80 => 104 | n => n, fun | 15 => 4 | 16 => 5 | 17 => 7 | 18 => 8 | 19 => 9 | n => n⟩
def Tryz.lays321_ren : Go.Shelf.Ren := ⟨fun | 321 => 123 | n => n, fun | 5 => 5 | n => n, fun | n => n⟩
def Tryz.lays287_ren : Go.Shelf.Ren := ⟨fun | 287 => 104 | 321 => 123 | 322 => 124 | n => n, fun | 9 => 9 | 3 => 3 | 53 => 24 | 75 => 39 | 4 => 4 | 167 => 144 | 5 => 5 | 46 => 86 | 37 => 97 | 0 => 0 | 21 => 21 | 80 => 104 | n => n, fun | n => n⟩
def Tryz.laysM280_ren : Go.Shelf.Ren := ⟨fun | 280 => 126 | 316 => 136 | n => n, fun | 9 => 9 | 168 => 146 | 75 => 39 | 210 => 163 | 3 => 3 | 4 => 4 | 37 => 97 | 0 => 0 | 127 => 132 | 80 => 104 | 5 => 5 | n => n, fun | 16 => 5 | n => n⟩
def Tryz.laysPu14_ren : Go.Shelf.Ren := ⟨fun | 14 => 78 | 16 => 104 | 17 => 105 | 19 => 123 | 20 => 124 | 21 => 125 | 22 => 126 | 23 => 127 | 24 => 128 | 25 => 136 | 27 => 138 | 26 => 137 | 28 => 142 | 29 => 147 | 30 => 149 | 31 => 150 | 32 => 151 | 33 => 152 | 35 => 91 | 34 => 154 | 36 => 155 | 37 => 156 | 38 => 157 | 39 => 158 | 40 => 159 | n => n, fun | 9 => 9 | 3 => 3 | 22 => 24 | 24 => 39 | 25 => 92 | 4 => 4 | 34 => 144 | 5 => 5 | 36 => 86 | 37 => 97 | 0 => 0 | 39 => 146 | 21 => 21 | 44 => 163 | 47 => 132 | 50 => 168 | 48 => 166 | 2 => 2 | 52 => 173 | 55 => 175 | 59 => 178 | 60 => 127 | 20 => 20 | 61 => 179 | 65 => 182 | 66 => 183 | 67 => 104 | n => n, fun | 0 => 4 | 1 => 5 | 2 => 7 | 3 => 8 | 4 => 9 | n => n⟩
theorem Tryz.laysPu14 : Go.Proofs.LaysPu.n14 Tryz.prog Tryz.laysPu14_ren := {
  mixed := by kernel_rfl
  f14 := Tryz.func78.trans (congrArg some (by kernel_rfl))
  f16 := Tryz.func104.trans (congrArg some (by kernel_rfl))
  f17 := Tryz.func105.trans (congrArg some (by kernel_rfl))
  f19 := Tryz.func123.trans (congrArg some (by kernel_rfl))
  f20 := Tryz.func124.trans (congrArg some (by kernel_rfl))
  f21 := Tryz.func125.trans (congrArg some (by kernel_rfl))
  f22 := Tryz.func126.trans (congrArg some (by kernel_rfl))
  f23 := Tryz.func127.trans (congrArg some (by kernel_rfl))
  f24 := Tryz.func128.trans (congrArg some (by kernel_rfl))
  f25 := Tryz.func136.trans (congrArg some (by kernel_rfl))
  f26 := Tryz.func137.trans (congrArg some (by kernel_rfl))
  f27 := Tryz.func138.trans (congrArg some (by kernel_rfl))
  f28 := Tryz.func142.trans (congrArg some (by kernel_rfl))
  f29 := Tryz.func147.trans (congrArg some (by kernel_rfl))
  f30 := Tryz.func149.trans (congrArg some (by kernel_rfl))
  f31 := Tryz.func150.trans (congrArg some (by kernel_rfl))
  f32 := Tryz.func151.trans (congrArg some (by kernel_rfl))
  f33 := Tryz.func152.trans (congrArg some (by kernel_rfl))
  f34 := Tryz.func154.trans (congrArg some (by kernel_rfl))
  f35 := Tryz.func91.trans (congrArg some (by kernel_rfl))
  f36 := Tryz.func155.trans (congrArg some (by kernel_rfl))
  f37 := Tryz.func156.trans (congrArg some (by kernel_rfl))
  f38 := Tryz.func157.trans (congrArg some (by kernel_rfl))
  f39 := Tryz.func158.trans (congrArg some (by kernel_rfl))
  f40 := Tryz.func159.trans (congrArg some (by kernel_rfl))
  t0 := Tryz.underlying0
  a0 := Tryz.isAgg0
  z0 := Tryz.sizeOf0
  v0 := Tryz.zeroValue0
  i0 := by kernel_rfl
  t2 := Tryz.underlying2
  a2 := Tryz.isAgg2
  z2 := Tryz.sizeOf2
  v2 := Tryz.zeroValue2
  i2 := by kernel_rfl
  t3 := Tryz.underlying3
  a3 := Tryz.isAgg3
  z3 := Tryz.sizeOf3
  v3 := Tryz.zeroValue3
  i3 := by kernel_rfl
  t4 := Tryz.underlying4
  a4 := Tryz.isAgg4
  z4 := Tryz.sizeOf4
  v4 := Tryz.zeroValue4
  i4 := by kernel_rfl
  t5 := Tryz.underlying5
  a5 := Tryz.isAgg5
  z5 := Tryz.sizeOf5
  v5 := Tryz.zeroValue5
  i5 := by kernel_rfl
  t9 := Tryz.underlying9
  a9 := Tryz.isAgg9
  z9 := Tryz.sizeOf9
  v9 := Tryz.zeroValue9
  i9 := by kernel_rfl
  t20 := Tryz.underlying20
  a20 := Tryz.isAgg20
  z20 := Tryz.sizeOf20
  v20 := Tryz.zeroValue20
  i20 := by kernel_rfl
  t21 := Tryz.underlying21
  a21 := Tryz.isAgg21
  z21 := Tryz.sizeOf21
  v21 := Tryz.zeroValue21
  i21 := by kernel_rfl
  t22 := Tryz.underlying24
  a22 := Tryz.isAgg24
  z22 := Tryz.sizeOf24
  v22 := Tryz.zeroValue24
  i22 := by kernel_rfl
  t24 := Tryz.underlying39
  a24 := Tryz.isAgg39
  z24 := Tryz.sizeOf39
  v24 := Tryz.zeroValue39
  i24 := by kernel_rfl
  t25 := Tryz.underlying92
  a25 := Tryz.isAgg92
  z25 := Tryz.sizeOf92
  v25 := Tryz.zeroValue92
  i25 := by kernel_rfl
  t34 := Tryz.underlying144
  a34 := Tryz.isAgg144
  z34 := Tryz.sizeOf144
  v34 := Tryz.zeroValue144
  i34 := by kernel_rfl
  c34 := by kernel_rfl
  t36 := Tryz.underlying86
  a36 := Tryz.isAgg86
  z36 := Tryz.sizeOf86
  v36 := Tryz.zeroValue86
  i36 := by kernel_rfl
  t37 := Tryz.underlying97
  a37 := Tryz.isAgg97
  z37 := Tryz.sizeOf97
  v37 := Tryz.zeroValue97
  i37 := by kernel_rfl
  t39 := Tryz.underlying146
  a39 := Tryz.isAgg146
  z39 := Tryz.sizeOf146
  v39 := Tryz.zeroValue146
  i39 := by kernel_rfl
  t44 := Tryz.underlying163
  a44 := Tryz.isAgg163
  z44 := Tryz.sizeOf163
  v44 := Tryz.zeroValue163
  i44 := by kernel_rfl
  t47 := Tryz.underlying132
  a47 := Tryz.isAgg132
  z47 := Tryz.sizeOf132
  v47 := Tryz.zeroValue132
  i47 := by kernel_rfl
  t48 := Tryz.underlying166
  a48 := Tryz.isAgg166
  z48 := Tryz.sizeOf166
  v48 := Tryz.zeroValue166
  i48 := by kernel_rfl
  t50 := Tryz.underlying168
  a50 := Tryz.isAgg168
  z50 := Tryz.sizeOf168
  v50 := Tryz.zeroValue168
  i50 := by kernel_rfl
  t52 := Tryz.underlying173
  a52 := Tryz.isAgg173
  z52 := Tryz.sizeOf173
  v52 := Tryz.zeroValue173
  i52 := by kernel_rfl
  t55 := Tryz.underlying175
  a55 := Tryz.isAgg175
  z55 := Tryz.sizeOf175
  v55 := Tryz.zeroValue175
  i55 := by kernel_rfl
  t59 := Tryz.underlying178
  a59 := Tryz.isAgg178
  z59 := Tryz.sizeOf178
  v59 := Tryz.zeroValue178
  i59 := by kernel_rfl
  t60 := Tryz.underlying127
  a60 := Tryz.isAgg127
  z60 := Tryz.sizeOf127
  v60 := Tryz.zeroValue127
  i60 := by kernel_rfl
  t61 := Tryz.underlying179
  a61 := Tryz.isAgg179
  z61 := Tryz.sizeOf179
  t65 := Tryz.underlying182
  a65 := Tryz.isAgg182
  z65 := Tryz.sizeOf182
  v65 := Tryz.zeroValue182
  i65 := by kernel_rfl
  t66 := Tryz.underlying183
  a66 := Tryz.isAgg183
  z66 := Tryz.sizeOf183
  v66 := Tryz.zeroValue183
  i66 := by kernel_rfl
  t67 := Tryz.underlying104
  a67 := Tryz.isAgg104
  z67 := Tryz.sizeOf104
  v67 := Tryz.zeroValue104
  i67 := by kernel_rfl
  g0 := by kernel_rfl
  m0 := by kernel_rfl
  g1 := by kernel_rfl
  m1 := by kernel_rfl
  g2 := by kernel_rfl
  m2 := by kernel_rfl
  g3 := by kernel_rfl
  m3 := by kernel_rfl
  g4 := by kernel_rfl
  m4 := by kernel_rfl }
open Go.RowKit in
theorem Tryz.strconv_ParseUint_10_at64_ok (s : ByteArray) (hmax : s.size ≤ 9223372036854775806) (u : Nat) (h : Lib.parseUintB 64 s.data.toList = .ok u) (w : World) :
    Calls Tryz.prog 78 #[.string s, .int .i64 10, .int .i64 64] w fun e w' => e = .returned (.tuple #[.int .u64 u, .nilIface]) ∧ (w' = w ∨ w' = Lib.bytesWorld w 5 s) := Any.strconv_ParseUint_10_at64_ok Tryz.laysPu14 s hmax u h w
open Go.RowKit in
theorem Tryz.strconv_ParseUint_10_at32_ok (s : ByteArray) (hmax : s.size ≤ 9223372036854775806) (u : Nat) (h : Lib.parseUintB 32 s.data.toList = .ok u) (w : World) :
    Calls Tryz.prog 78 #[.string s, .int .i64 10, .int .i64 32] w fun e w' => e = .returned (.tuple #[.int .u64 u, .nilIface]) ∧ (w' = w ∨ w' = Lib.bytesWorld w 5 s) := Any.strconv_ParseUint_10_at32_ok Tryz.laysPu14 s hmax u h w
open Go.RowKit in
theorem Tryz.strconv_ParseUint_10_at64_range_var (s : ByteArray) (hlim : s.size ≤ 281474976710656) (h : Lib.parseUintB 64 s.data.toList = .range) (tp : TypeId) (p : Value) (w : World) (hvar : w.var? Tryz.prog "strconv.ErrRange" = some #[.iface tp p]) :
    Calls Tryz.prog 78 #[.string s, .int .i64 10, .int .i64 64] w fun e w' => ∃ N, e = .returned (.tuple #[.int .u64 18446744073709551615, .iface 146 (.pointer (some ⟨N, 0, none⟩))]) ∧ w.heap.size ≤ N ∧ w'.heap[N]? = some (.cells #[.string ⟨#[80, 97, 114, 115, 101, 85, 105, 110, 116]⟩, .string s, .iface tp p] 163 (0, 0)) ∧ Below w.heap.size w w' := Any.strconv_ParseUint_10_at64_range_var Tryz.laysPu14 s hlim h tp p w hvar
def Tryz.lays217_ren : Go.Shelf.Ren := ⟨fun | 217 => 148 | 266 => 153 | n => n, fun | 9 => 9 | 5 => 5 | 3 => 3 | n => n, fun | n => n⟩
def Tryz.lays224_ren : Go.Shelf.Ren := ⟨fun | 224 => 145 | n => n, fun | 3 => 3 | n => n, fun | n => n⟩
def Tryz.lays206_ren : Go.Shelf.Ren := ⟨fun | 206 => 108 | n => n, fun | 9 => 9 | 4 => 4 | 3 => 3 | n => n, fun | n => n⟩
def Tryz.lays99_ren : Go.Shelf.Ren := ⟨fun | 99 => 80 | 206 => 108 | n => n, fun | 9 => 9 | 4 => 4 | 3 => 3 | n => n, fun | n => n⟩
theorem Tryz.lays99 : Go.Proofs.Lays.n99 Tryz.prog Tryz.lays99_ren := {
  mixed := by kernel_rfl
  f99 := Tryz.func80.trans (congrArg some (by kernel_rfl))
  f206 := Tryz.func108.trans (congrArg some (by kernel_rfl))
  t3 := Tryz.underlying3
  a3 := Tryz.isAgg3
  z3 := Tryz.sizeOf3
  v3 := Tryz.zeroValue3
  t4 := Tryz.underlying4
  a4 := Tryz.isAgg4
  z4 := Tryz.sizeOf4
  v4 := Tryz.zeroValue4
  t9 := Tryz.underlying9
  a9 := Tryz.isAgg9
  z9 := Tryz.sizeOf9
  v9 := Tryz.zeroValue9 }
open Go.RowKit Go.Lib in
theorem Tryz.strings_HasPrefix (s p : ByteArray) (w : World) :
    Calls Tryz.prog 80 #[.string s, .string p] w fun e w' => e = .returned (.bool (Lib.hasPrefix s.data.toList p.data.toList)) ∧ w' = w := Any.strings_HasPrefix Tryz.lays99 s p w
def Tryz.lays207_ren : Go.Shelf.Ren := ⟨fun | 207 => 103 | n => n, fun | 9 => 9 | 4 => 4 | 3 => 3 | n => n, fun | n => n⟩
def Tryz.lays100_ren : Go.Shelf.Ren := ⟨fun | 100 => 77 | 207 => 103 | n => n, fun | 9 => 9 | 4 => 4 | 3 => 3 | n => n, fun | n => n⟩
theorem Tryz.lays100 : Go.Proofs.Lays.n100 Tryz.prog Tryz.lays100_ren := {
  mixed := by kernel_rfl
  f100 := Tryz.func77.trans (congrArg some (by kernel_rfl))
  f207 := Tryz.func103.trans (congrArg some (by kernel_rfl))
  t3 := Tryz.underlying3
  a3 := Tryz.isAgg3
  z3 := Tryz.sizeOf3
  v3 := Tryz.zeroValue3
  t4 := Tryz.underlying4
  a4 := Tryz.isAgg4
  z4 := Tryz.sizeOf4
  v4 := Tryz.zeroValue4
  t9 := Tryz.underlying9
  a9 := Tryz.isAgg9
  z9 := Tryz.sizeOf9
  v9 := Tryz.zeroValue9 }
open Go.RowKit Go.Lib in
theorem Tryz.strings_HasSuffix (s p : ByteArray) (w : World) (hs : s.size ≤ 9223372036854775807) :
    Calls Tryz.prog 77 #[.string s, .string p] w fun e w' => e = .returned (.bool (Lib.hasSuffix s.data.toList p.data.toList)) ∧ w' = w := Any.strings_HasSuffix Tryz.lays100 s p w hs
def Tryz.lays197_ren : Go.Shelf.Ren := ⟨fun | 197 => 133 | 260 => 139 | n => n, fun | 9 => 9 | 21 => 21 | 3 => 3 | 4 => 4 | 5 => 5 | 105 => 158 | 119 => 153 | 0 => 0 | 46 => 86 | 139 => 156 | 138 => 155 | n => n, fun | 3 => 2 | 4 => 3 | n => n⟩
def Tryz.lays152_ren : Go.Shelf.Ren := ⟨fun | 152 => 140 | 137 => 143 | 119 => 144 | 224 => 145 | 225 => 146 | 217 => 148 | 266 => 153 | n => n, fun | 9 => 9 | 21 => 21 | 3 => 3 | 4 => 4 | 5 => 5 | 0 => 0 | 46 => 86 | n => n, fun | n => n⟩
def Tryz.lays151_ren : Go.Shelf.Ren := ⟨fun | 151 => 134 | 152 => 140 | 137 => 143 | 119 => 144 | 224 => 145 | 225 => 146 | 217 => 148 | 266 => 153 | n => n, fun | 9 => 9 | 21 => 21 | 4 => 4 | 3 => 3 | 5 => 5 | 0 => 0 | 46 => 86 | n => n, fun | n => n⟩
def Tryz.lays227_ren : Go.Shelf.Ren := ⟨fun | 227 => 118 | n => n, fun | 9 => 9 | 116 => 139 | 4 => 4 | 0 => 0 | 3 => 3 | 5 => 5 | n => n, fun | n => n⟩
def Tryz.lays228_ren : Go.Shelf.Ren := ⟨fun | 228 => 132 | n => n, fun | 124 => 143 | 5 => 5 | 4 => 4 | 0 => 0 | 116 => 139 | n => n, fun | n => n⟩
def Tryz.lays264_ren : Go.Shelf.Ren := ⟨fun | 264 => 107 | n => n, fun | 53 => 24 | 46 => 86 | n => n, fun | n => n⟩
def Tryz.lays212_ren : Go.Shelf.Ren := ⟨fun | 212 => 79 | 263 => 106 | 264 => 107 | n => n, fun | 46 => 86 | 51 => 127 | 146 => 128 | 53 => 24 | 148 => 130 | n => n, fun | n => n⟩
def Tryz.lays105_ren : Go.Shelf.Ren := ⟨fun | 105 => 47 | 212 => 79 | 99 => 80 | 165 => 81 | 166 => 82 | 170 => 83 | 169 => 84 | 263 => 106 | 264 => 107 | 206 => 108 | 240 => 109 | 241 => 110 | 276 => 129 | 277 => 130 | n => n, fun | 9 => 9 | 3 => 3 | 4 => 4 | 20 => 20 | 0 => 0 | 46 => 86 | 109 => 94 | 5 => 5 | 72 => 99 | 76 => 101 | 51 => 127 | 146 => 128 | 53 => 24 | 148 => 130 | 70 => 96 | 37 => 97 | 75 => 39 | 127 => 132 | 164 => 149 | 80 => 104 | n => n, fun | n => n⟩
theorem Tryz.lays105 : Go.Proofs.Lays.n105 Tryz.prog Tryz.lays105_ren := {
  mixed := by kernel_rfl
  f99 := Tryz.func80.trans (congrArg some (by kernel_rfl))
  f105 := Tryz.func47.trans (congrArg some (by kernel_rfl))
  f165 := Tryz.func81.trans (congrArg some (by kernel_rfl))
  f166 := Tryz.func82.trans (congrArg some (by kernel_rfl))
  f169 := Tryz.func84.trans (congrArg some (by kernel_rfl))
  f170 := Tryz.func83.trans (congrArg some (by kernel_rfl))
  f206 := Tryz.func108.trans (congrArg some (by kernel_rfl))
  f212 := Tryz.func79.trans (congrArg some (by kernel_rfl))
  f240 := Tryz.func109.trans (congrArg some (by kernel_rfl))
  f241 := Tryz.func110.trans (congrArg some (by kernel_rfl))
  f263 := Tryz.func106.trans (congrArg some (by kernel_rfl))
  f264 := Tryz.func107.trans (congrArg some (by kernel_rfl))
  f276 := Tryz.func129.trans (congrArg some (by kernel_rfl))
  f277 := Tryz.func130.trans (congrArg some (by kernel_rfl))
  t0 := Tryz.underlying0
  a0 := Tryz.isAgg0
  z0 := Tryz.sizeOf0
  v0 := Tryz.zeroValue0
  t3 := Tryz.underlying3
  a3 := Tryz.isAgg3
  z3 := Tryz.sizeOf3
  v3 := Tryz.zeroValue3
  t4 := Tryz.underlying4
  a4 := Tryz.isAgg4
  z4 := Tryz.sizeOf4
  v4 := Tryz.zeroValue4
  t5 := Tryz.underlying5
  a5 := Tryz.isAgg5
  z5 := Tryz.sizeOf5
  v5 := Tryz.zeroValue5
  t9 := Tryz.underlying9
  a9 := Tryz.isAgg9
  z9 := Tryz.sizeOf9
  v9 := Tryz.zeroValue9
  t20 := Tryz.underlying20
  a20 := Tryz.isAgg20
  z20 := Tryz.sizeOf20
  v20 := Tryz.zeroValue20
  t37 := Tryz.underlying97
  a37 := Tryz.isAgg97
  z37 := Tryz.sizeOf97
  v37 := Tryz.zeroValue97
  t46 := Tryz.underlying86
  a46 := Tryz.isAgg86
  z46 := Tryz.sizeOf86
  v46 := Tryz.zeroValue86
  t51 := Tryz.underlying127
  a51 := Tryz.isAgg127
  z51 := Tryz.sizeOf127
  v51 := Tryz.zeroValue127
  t53 := Tryz.underlying24
  a53 := Tryz.isAgg24
  z53 := Tryz.sizeOf24
  v53 := Tryz.zeroValue24
  t70 := Tryz.underlying96
  a70 := Tryz.isAgg96
  z70 := Tryz.sizeOf96
  v70 := Tryz.zeroValue96
  t72 := Tryz.underlying99
  a72 := Tryz.isAgg99
  z72 := Tryz.sizeOf99
  v72 := Tryz.zeroValue99
  t75 := Tryz.underlying39
  a75 := Tryz.isAgg39
  z75 := Tryz.sizeOf39
  v75 := Tryz.zeroValue39
  t76 := Tryz.underlying101
  a76 := Tryz.isAgg101
  z76 := Tryz.sizeOf101
  v76 := Tryz.zeroValue101
  t109 := Tryz.underlying94
  a109 := Tryz.isAgg94
  z109 := Tryz.sizeOf94
  v109 := Tryz.zeroValue94
  t127 := Tryz.underlying132
  a127 := Tryz.isAgg132
  z127 := Tryz.sizeOf132
  v127 := Tryz.zeroValue132
  t146 := Tryz.underlying128
  a146 := Tryz.isAgg128
  z146 := Tryz.sizeOf128
  v146 := Tryz.zeroValue128
  t148 := Tryz.underlying130
  a148 := Tryz.isAgg130
  z148 := Tryz.sizeOf130
  v148 := Tryz.zeroValue130
  t164 := Tryz.underlying149
  a164 := Tryz.isAgg149
  z164 := Tryz.sizeOf149
  v164 := Tryz.zeroValue149 }
theorem Tryz.Builder_Extra_105 : Builder.Extra Tryz.prog Tryz.lays105_ren := {
  sizeBuilder := by kernel_rfl
  liesBuilder := by kernel_rfl
  t5 := Tryz.underlying5
  a5 := Tryz.isAgg5
  z5 := Tryz.sizeOf5
  v5 := Tryz.zeroValue5
  infoByte := by kernel_rfl
  cellsByte := by kernel_rfl
  sizeByte := by kernel_rfl
  neB5 := by decide }
open Go.RowKit Go.Lib in
theorem Tryz.strings_Repeat (s : ByteArray) (c : Nat) (w : World) (hc : c ≤ 9223372036854775807) (hlen : s.size * c ≤ 140737488355328) :
    Calls Tryz.prog 47 #[.string s, .int .i64 c] w fun e w' => e = .returned (.string ⟨(Lib.repeatL s.data.toList c).toArray⟩) ∧ Below w.heap.size w w' := Any.strings_Repeat Tryz.lays105 Tryz.Builder_Extra_105 s c w hc hlen
def Tryz.lays260_ren : Go.Shelf.Ren := ⟨fun | 260 => 139 | n => n, fun | 9 => 9 | 21 => 21 | 3 => 3 | 4 => 4 | 5 => 5 | 119 => 153 | 0 => 0 | 46 => 86 | 139 => 156 | 138 => 155 | n => n, fun | 3 => 2 | 4 => 3 | n => n⟩
def Tryz.lays271_ren : Go.Shelf.Ren := ⟨fun | 271 => 135 | 120 => 141 | 197 => 133 | 260 => 139 | n => n, fun | 9 => 9 | 21 => 21 | 3 => 3 | 4 => 4 | 5 => 5 | 105 => 158 | 119 => 153 | 0 => 0 | 46 => 86 | 139 => 156 | 138 => 155 | n => n, fun | 3 => 2 | 4 => 3 | n => n⟩
end Go.Proofs
