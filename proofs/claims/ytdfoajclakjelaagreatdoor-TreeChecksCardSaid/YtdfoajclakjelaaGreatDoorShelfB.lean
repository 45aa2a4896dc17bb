/- The contracts of Go's library that this seat's program can use, laid at its translation (by the kit's one command, in plain words). -/
import Derived.Shelf.Strings.SlTrimAscii
import Derived.Shelf.Unicode.ValidAny
import Derived.Shelf.Strings.Builder1
import Derived.Shelf.Strings.Builder2
import Derived.Shelf.Strings.Trim
import Derived.Shelf.Small.Utf8
import Derived.Shelf.Small.Strs
import Derived.Shelf.Strings.BuilderF
import Derived.Shelf.Strings.BuilderK
import Derived.Shelf.Strings.Builder2Cap
import Derived.Shelf.Strconv.Itoa0
import Derived.Shelf.Strconv.Itoa1
import Derived.Shelf.LaysM
import Derived.Shelf.Strconv.Itoa2
import Derived.Shelf.Strconv.Itoa3
import Derived.Shelf.Strconv.Clone
import Derived.Shelf.Strconv.SyntaxError
import Derived.Shelf.LaysC
import Derived.Shelf.Strconv.ToError
import Derived.Shelf.Strconv.Lower
import Derived.Shelf.Strconv.ParseUint10
import Derived.Shelf.Strconv.ParseUint10Empty
import Derived.Shelf.Strconv.ParseUint10Any
import Derived.Shelf.Strconv.RangeError
import Derived.Shelf.Strconv.ToErrorRange
import Derived.Shelf.Strconv.ParseUintEmpty
import Derived.Shelf.Strconv.ParseUint10b64
import Derived.Shelf.Strconv.ParseUint10b32
import Derived.Shelf.Strconv.ParseUint10b16
import Derived.Shelf.Strconv.ParseUint10b8
import Derived.Shelf.Strconv.ParseUint10At
import Derived.Ground.MpProg
import Derived.Shelf.Pu.ParseUintPublic10
import Derived.Shelf.Pu.ErrVarParseUint
import Derived.Shelf.Strings.Search1
import Derived.Shelf.Strings.Prefix
import Derived.Shelf.Unicode.Decode
import Derived.Shelf.Strings.Runes
import Derived.Shelf.Strings.AsciiSet
import Derived.Shelf.Bits.Mul64
import Derived.Shelf.Strings.Repeat
import Derived.Shelf.Unicode.DecodeSlow
import Derived.Shelf.Unicode.DecodeAny
import Derived.Shelf.Unicode.DecodeLast
import Derived.Shelf.Strings.BuilderCap
import Derived.Shelf.Slices.Turned
import Derived.Test.YtdfoajclakjelaaGreatDoorProg
namespace Go.Proofs
open Go.Shelf
def TryzB.lays240_ren : Go.Shelf.Ren := ⟨fun | 240 => 109 | 276 => 129 | n => n, fun | 0 => 0 | 4 => 4 | 9 => 9 | 20 => 20 | 37 => 97 | 70 => 96 | 72 => 99 | 164 => 149 | n => n, fun  | n => n⟩
def TryzB.lays166_ren : Go.Shelf.Ren := ⟨fun | 166 => 82 | 240 => 109 | 276 => 129 | n => n, fun | 0 => 0 | 3 => 3 | 4 => 4 | 5 => 5 | 9 => 9 | 20 => 20 | 37 => 97 | 70 => 96 | 72 => 99 | 75 => 39 | 80 => 104 | 164 => 149 | n => n, fun  | n => n⟩
def TryzB.lays170_ren : Go.Shelf.Ren := ⟨fun | 170 => 83 | n => n, fun | 70 => 96 | 3 => 3 | 0 => 0 | 72 => 99 | 37 => 97 | 5 => 5 | n => n, fun | n => n⟩
def TryzB.lays169_ren : Go.Shelf.Ren := ⟨fun | 169 => 84 | n => n, fun | 70 => 96 | 9 => 9 | 0 => 0 | 72 => 99 | 37 => 97 | 127 => 132 | 3 => 3 | 5 => 5 | n => n, fun | n => n⟩
def TryzB.lays241_ren : Go.Shelf.Ren := ⟨fun | 241 => 110 | 277 => 130 | n => n, fun | 70 => 96 | 3 => 3 | 0 => 0 | 72 => 99 | 37 => 97 | 5 => 5 | n => n, fun | n => n⟩
def TryzB.lays165_ren : Go.Shelf.Ren := ⟨fun | 165 => 81 | 240 => 109 | 241 => 110 | 276 => 129 | 277 => 130 | n => n, fun | 70 => 96 | 3 => 3 | 0 => 0 | 4 => 4 | 9 => 9 | 20 => 20 | 72 => 99 | 37 => 97 | 164 => 149 | 5 => 5 | n => n, fun | n => n⟩
def TryzB.lays231_ren : Go.Shelf.Ren := ⟨fun | 231 => 116 | n => n, fun | 9 => 9 | 5 => 5 | 3 => 3 | 4 => 4 | n => n, fun | n => n⟩
def TryzB.lays232_ren : Go.Shelf.Ren := ⟨fun | 232 => 117 | n => n, fun | 9 => 9 | 5 => 5 | 3 => 3 | 4 => 4 | n => n, fun | n => n⟩
def TryzB.lays160_ren : Go.Shelf.Ren := ⟨fun | 160 => 102 | 232 => 117 | 231 => 116 | 227 => 118 | 234 => 120 | 233 => 119 | 236 => 122 | 235 => 121 | 228 => 132 | 271 => 135 | 151 => 134 | 197 => 133 | 120 => 141 | 152 => 140 | 260 => 139 | 137 => 143 | 119 => 144 | 224 => 145 | 225 => 146 | 217 => 148 | 266 => 153 | n => n, fun | 9 => 9 | 4 => 4 | 3 => 3 | 5 => 5 | 117 => 140 | 116 => 139 | 0 => 0 | 124 => 143 | 21 => 21 | 105 => 158 | 46 => 86 | 119 => 153 | 139 => 156 | 138 => 155 | n => n, fun | 3 => 2 | 4 => 3 | n => n⟩
def TryzB.lays119_ren : Go.Shelf.Ren := ⟨fun | 119 => 144 | n => n, fun | 21 => 21 | 4 => 4 | n => n, fun | n => n⟩
def TryzB.lays120_ren : Go.Shelf.Ren := ⟨fun | 120 => 141 | n => n, fun | 5 => 5 | 4 => 4 | n => n, fun | n => n⟩
def TryzB.lays137_ren : Go.Shelf.Ren := ⟨fun | 137 => 143 | 217 => 148 | 266 => 153 | n => n, fun | 9 => 9 | 5 => 5 | 3 => 3 | n => n, fun | n => n⟩
def TryzB.lays129_ren : Go.Shelf.Ren := ⟨fun | 129 => 91 | n => n, fun | 53 => 24 | 3 => 3 | 4 => 4 | 46 => 86 | 5 => 5 | 9 => 9 | n => n, fun | n => n⟩
def TryzB.lays317_ren : Go.Shelf.Ren := ⟨fun | 317 => 154 | n => n, fun | 3 => 3 | 46 => 86 | n => n, fun | n => n⟩
def TryzB.lays318_ren : Go.Shelf.Ren := ⟨fun | 318 => 155 | n => n, fun | 3 => 3 | 4 => 4 | n => n, fun | n => n⟩
def TryzB.lays283_ren : Go.Shelf.Ren := ⟨fun | 283 => 149 | n => n, fun | 3 => 3 | 9 => 9 | 4 => 4 | n => n, fun | n => n⟩
def TryzB.laysM284_ren : Go.Shelf.Ren := ⟨fun | 284 => 150 | 129 => 91 | 317 => 154 | 318 => 155 | n => n, fun | 53 => 24 | 3 => 3 | 212 => 178 | 0 => 0 | 4 => 4 | 46 => 86 | 5 => 5 | 9 => 9 | n => n, fun | 17 => 7 | n => n⟩
def TryzB.lays285_ren : Go.Shelf.Ren := ⟨fun | 285 => 151 | n => n, fun | 37 => 97 | 53 => 24 | 3 => 3 | 4 => 4 | 51 => 127 | 9 => 9 | 5 => 5 | 0 => 0 | n => n, fun | n => n⟩
def TryzB.laysM246_ren : Go.Shelf.Ren := ⟨fun | 246 => 147 | 283 => 149 | 284 => 150 | 285 => 151 | 286 => 152 | 129 => 91 | 317 => 154 | 318 => 155 | 319 => 156 | 320 => 157 | 337 => 158 | 338 => 159 | n => n, fun | 2 => 2 | 3 => 3 | 9 => 9 | 4 => 4 | 171 => 173 | 0 => 0 | 53 => 24 | 37 => 97 | 5 => 5 | 173 => 175 | 212 => 178 | 51 => 127 | 20 => 20 | 213 => 179 | 46 => 86 | 232 => 182 | 233 => 183 | n => n, fun | 17 => 7 | 18 => 8 | 19 => 9 | n => n⟩
def TryzB.lays246_ren : Go.Shelf.Ren := ⟨fun | 246 => 147 | 283 => 149 | 284 => 150 | 285 => 151 | 286 => 152 | 129 => 91 | 317 => 154 | 318 => 155 | 319 => 156 | 320 => 157 | 337 => 158 | 338 => 159 | n => n, fun | 2 => 2 | 3 => 3 | 9 => 9 | 4 => 4 | 171 => 173 | 0 => 0 | 53 => 24 | 37 => 97 | 5 => 5 | 173 => 175 | 212 => 178 | 51 => 127 | 20 => 20 | 213 => 179 | 46 => 86 | 232 => 182 | 233 => 183 | n => n, fun | 17 => 7 | 18 => 8 | 19 => 9 | n => n⟩
def TryzB.laysM243_ren : Go.Shelf.Ren := ⟨fun | 243 => 142 | 246 => 147 | 283 => 149 | 284 => 150 | 285 => 151 | 286 => 152 | 129 => 91 | 317 => 154 | 318 => 155 | 319 => 156 | 320 => 157 | 337 => 158 | 338 => 159 | n => n, fun | 3 => 3 | 9 => 9 | 2 => 2 | 4 => 4 | 171 => 173 | 0 => 0 | 53 => 24 | 37 => 97 | 5 => 5 | 173 => 175 | 212 => 178 | 51 => 127 | 20 => 20 | 213 => 179 | 46 => 86 | 232 => 182 | 233 => 183 | n => n, fun | 17 => 7 | 18 => 8 | 19 => 9 | n => n⟩
def TryzB.lays243_ren : Go.Shelf.Ren := ⟨fun | 243 => 142 | 246 => 147 | 283 => 149 | 284 => 150 | 285 => 151 | 286 => 152 | 129 => 91 | 317 => 154 | 318 => 155 | 319 => 156 | 320 => 157 | 337 => 158 | 338 => 159 | n => n, fun | 3 => 3 | 9 => 9 | 2 => 2 | 4 => 4 | 171 => 173 | 0 => 0 | 53 => 24 | 37 => 97 | 5 => 5 | 173 => 175 | 212 => 178 | 51 => 127 | 20 => 20 | 213 => 179 | 46 => 86 | 232 => 182 | 233 => 183 | n => n, fun | 17 => 7 | 18 => 8 | 19 => 9 | n => n⟩
def TryzB.laysM171_ren : Go.Shelf.Ren := ⟨fun | 171 => 138 | 243 => 142 | 246 => 147 | 283 => 149 | 284 => 150 | 285 => 151 | 286 => 152 | 129 => 91 | 317 => 154 | 318 => 155 | 319 => 156 | 320 => 157 | 337 => 158 | 338 => 159 | n => n, fun | 3 => 3 | 9 => 9 | 2 => 2 | 4 => 4 | 171 => 173 | 0 => 0 | 53 => 24 | 37 => 97 | 5 => 5 | 173 => 175 | 212 => 178 | 51 => 127 | 20 => 20 | 213 => 179 | 46 => 86 | 232 => 182 | 233 => 183 | n => n, fun | 17 => 7 | 18 => 8 | 19 => 9 | n => n⟩
def TryzB.lays171_ren : Go.Shelf.Ren := ⟨fun | 171 => 138 | 243 => 142 | 246 => 147 | 283 => 149 | 284 => 150 | 285 => 151 | 286 => 152 | 129 => 91 | 317 => 154 | 318 => 155 | 319 => 156 | 320 => 157 | 337 => 158 | 338 => 159 | n => n, fun | 3 => 3 | 9 => 9 | 2 => 2 | 4 => 4 | 171 => 173 | 0 => 0 | 53 => 24 | 37 => 97 | 5 => 5 | 173 => 175 | 212 => 178 | 51 => 127 | 20 => 20 | 213 => 179 | 46 => 86 | 232 => 182 | 233 => 183 | n => n, fun | 17 => 7 | 18 => 8 | 19 => 9 | n => n⟩
def TryzB.laysM316_ren : Go.Shelf.Ren := ⟨fun | 316 => 136 | n => n, fun | 9 => 9 | 3 => 3 | 4 => 4 | 37 => 97 | 0 => 0 | 127 => 132 | 5 => 5 | n => n, fun | n => n⟩
def TryzB.laysM279_ren : Go.Shelf.Ren := ⟨fun | 279 => 125 | 316 => 136 | n => n, fun | 9 => 9 | 168 => 146 | 75 => 39 | 210 => 163 | 3 => 3 | 4 => 4 | 37 => 97 | 0 => 0 | 127 => 132 | 80 => 104 | 5 => 5 | n => n, fun | 15 => 4 | n => n⟩
def TryzB.laysC245_ren : Go.Shelf.Ren := ⟨fun | 245 => 105 | 279 => 125 | 280 => 126 | 281 => 127 | 282 => 128 | 316 => 136 | 171 => 138 | 205 => 137 | 243 => 142 | 246 => 147 | 283 => 149 | 284 => 150 | 285 => 151 | 286 => 152 | 129 => 91 | 317 => 154 | 318 => 155 | 319 => 156 | 320 => 157 | 337 => 158 | 338 => 159 | n => n, fun | 9 => 9 | 3 => 3 | 75 => 39 | 167 => 144 | 4 => 4 | 168 => 146 | 210 => 163 | 37 => 97 | 0 => 0 | 127 => 132 | 145 => 168 | 143 => 166 | 2 => 2 | 171 => 173 | 53 => 24 | 5 => 5 | 173 => 175 | 212 => 178 | 51 => 127 | 20 => 20 | 213 => 179 | 46 => 86 | 232 => 182 | 233 => 183 | 80 => 104 | n => n, fun | 15 => 4 | 16 => 5 | 17 => 7 | 18 => 8 | 19 => 9 | n => n⟩
def TryzB.lays321_ren : Go.Shelf.Ren := ⟨fun | 321 => 123 | n => n, fun | 5 => 5 | n => n, fun | n => n⟩
def TryzB.lays287_ren : Go.Shelf.Ren := ⟨fun | 287 => 104 | 321 => 123 | 322 => 124 | n => n, fun | 9 => 9 | 3 => 3 | 53 => 24 | 75 => 39 | 4 => 4 | 167 => 144 | 5 => 5 | 46 => 86 | 37 => 97 | 0 => 0 | 21 => 21 | 80 => 104 | n => n, fun | n => n⟩
def TryzB.laysM280_ren : Go.Shelf.Ren := ⟨fun | 280 => 126 | 316 => 136 | n => n, fun | 9 => 9 | 168 => 146 | 75 => 39 | 210 => 163 | 3 => 3 | 4 => 4 | 37 => 97 | 0 => 0 | 127 => 132 | 80 => 104 | 5 => 5 | n => n, fun | 16 => 5 | n => n⟩
def TryzB.laysPu14_ren : Go.Shelf.Ren := ⟨fun | 14 => 78 | 16 => 104 | 17 => 105 | 19 => 123 | 20 => 124 | 21 => 125 | 22 => 126 | 23 => 127 | 24 => 128 | 25 => 136 | 27 => 138 | 26 => 137 | 28 => 142 | 29 => 147 | 30 => 149 | 31 => 150 | 32 => 151 | 33 => 152 | 35 => 91 | 34 => 154 | 36 => 155 | 37 => 156 | 38 => 157 | 39 => 158 | 40 => 159 | n => n, fun | 9 => 9 | 3 => 3 | 22 => 24 | 24 => 39 | 25 => 92 | 4 => 4 | 34 => 144 | 5 => 5 | 36 => 86 | 37 => 97 | 0 => 0 | 39 => 146 | 21 => 21 | 44 => 163 | 47 => 132 | 50 => 168 | 48 => 166 | 2 => 2 | 52 => 173 | 55 => 175 | 59 => 178 | 60 => 127 | 20 => 20 | 61 => 179 | 65 => 182 | 66 => 183 | 67 => 104 | n => n, fun | 0 => 4 | 1 => 5 | 2 => 7 | 3 => 8 | 4 => 9 | n => n⟩
def TryzB.lays217_ren : Go.Shelf.Ren := ⟨fun | 217 => 148 | 266 => 153 | n => n, fun | 9 => 9 | 5 => 5 | 3 => 3 | n => n, fun | n => n⟩
def TryzB.lays224_ren : Go.Shelf.Ren := ⟨fun | 224 => 145 | n => n, fun | 3 => 3 | n => n, fun | n => n⟩
def TryzB.lays206_ren : Go.Shelf.Ren := ⟨fun | 206 => 108 | n => n, fun | 9 => 9 | 4 => 4 | 3 => 3 | n => n, fun | n => n⟩
def TryzB.lays99_ren : Go.Shelf.Ren := ⟨fun | 99 => 80 | 206 => 108 | n => n, fun | 9 => 9 | 4 => 4 | 3 => 3 | n => n, fun | n => n⟩
def TryzB.lays207_ren : Go.Shelf.Ren := ⟨fun | 207 => 103 | n => n, fun | 9 => 9 | 4 => 4 | 3 => 3 | n => n, fun | n => n⟩
def TryzB.lays100_ren : Go.Shelf.Ren := ⟨fun | 100 => 77 | 207 => 103 | n => n, fun | 9 => 9 | 4 => 4 | 3 => 3 | n => n, fun | n => n⟩
def TryzB.lays197_ren : Go.Shelf.Ren := ⟨fun | 197 => 133 | 260 => 139 | n => n, fun | 9 => 9 | 21 => 21 | 3 => 3 | 4 => 4 | 5 => 5 | 105 => 158 | 119 => 153 | 0 => 0 | 46 => 86 | 139 => 156 | 138 => 155 | n => n, fun | 3 => 2 | 4 => 3 | n => n⟩
def TryzB.lays152_ren : Go.Shelf.Ren := ⟨fun | 152 => 140 | 137 => 143 | 119 => 144 | 224 => 145 | 225 => 146 | 217 => 148 | 266 => 153 | n => n, fun | 9 => 9 | 21 => 21 | 3 => 3 | 4 => 4 | 5 => 5 | 0 => 0 | 46 => 86 | n => n, fun | n => n⟩
def TryzB.lays151_ren : Go.Shelf.Ren := ⟨fun | 151 => 134 | 152 => 140 | 137 => 143 | 119 => 144 | 224 => 145 | 225 => 146 | 217 => 148 | 266 => 153 | n => n, fun | 9 => 9 | 21 => 21 | 4 => 4 | 3 => 3 | 5 => 5 | 0 => 0 | 46 => 86 | n => n, fun | n => n⟩
def TryzB.lays227_ren : Go.Shelf.Ren := ⟨fun | 227 => 118 | n => n, fun | 9 => 9 | 116 => 139 | 4 => 4 | 0 => 0 | 3 => 3 | 5 => 5 | n => n, fun | n => n⟩
def TryzB.lays228_ren : Go.Shelf.Ren := ⟨fun | 228 => 132 | n => n, fun | 124 => 143 | 5 => 5 | 4 => 4 | 0 => 0 | 116 => 139 | n => n, fun | n => n⟩
def TryzB.lays264_ren : Go.Shelf.Ren := ⟨fun | 264 => 107 | n => n, fun | 53 => 24 | 46 => 86 | n => n, fun | n => n⟩
def TryzB.lays212_ren : Go.Shelf.Ren := ⟨fun | 212 => 79 | 263 => 106 | 264 => 107 | n => n, fun | 46 => 86 | 51 => 127 | 146 => 128 | 53 => 24 | 148 => 130 | n => n, fun | n => n⟩
def TryzB.lays105_ren : Go.Shelf.Ren := ⟨fun | 105 => 47 | 212 => 79 | 99 => 80 | 165 => 81 | 166 => 82 | 170 => 83 | 169 => 84 | 263 => 106 | 264 => 107 | 206 => 108 | 240 => 109 | 241 => 110 | 276 => 129 | 277 => 130 | n => n, fun | 9 => 9 | 3 => 3 | 4 => 4 | 20 => 20 | 0 => 0 | 46 => 86 | 109 => 94 | 5 => 5 | 72 => 99 | 76 => 101 | 51 => 127 | 146 => 128 | 53 => 24 | 148 => 130 | 70 => 96 | 37 => 97 | 75 => 39 | 127 => 132 | 164 => 149 | 80 => 104 | n => n, fun | n => n⟩
def TryzB.lays260_ren : Go.Shelf.Ren := ⟨fun | 260 => 139 | n => n, fun | 9 => 9 | 21 => 21 | 3 => 3 | 4 => 4 | 5 => 5 | 119 => 153 | 0 => 0 | 46 => 86 | 139 => 156 | 138 => 155 | n => n, fun | 3 => 2 | 4 => 3 | n => n⟩
def TryzB.lays271_ren : Go.Shelf.Ren := ⟨fun | 271 => 135 | 120 => 141 | 197 => 133 | 260 => 139 | n => n, fun | 9 => 9 | 21 => 21 | 3 => 3 | 4 => 4 | 5 => 5 | 105 => 158 | 119 => 153 | 0 => 0 | 46 => 86 | 139 => 156 | 138 => 155 | n => n, fun | 3 => 2 | 4 => 3 | n => n⟩
def TryzB.lays108_ren : Go.Shelf.Ren := ⟨fun | 108 => 114 | n => n, fun | 28 => 118 | 3 => 3 | 0 => 0 | 4 => 4 | n => n, fun | n => n⟩
theorem TryzB.lays108 : Go.Proofs.Lays.n108 Tryz.prog TryzB.lays108_ren := {
  mixed := by kernel_rfl
  f108 := Tryz.func114.trans (congrArg some (by kernel_rfl))
  t0 := Tryz.underlying0
  a0 := Tryz.isAgg0
  z0 := Tryz.sizeOf0
  v0 := Tryz.zeroValue0
  t3 := Tryz.underlying3
  a3 := Tryz.isAgg3
  z3 := Tryz.sizeOf3
  v3 := Tryz.zeroValue3
  t4 := Tryz.underlying4
  a4 := Tryz.isAgg4
  z4 := Tryz.sizeOf4
  v4 := Tryz.zeroValue4
  t28 := Tryz.underlying118
  a28 := Tryz.isAgg118
  z28 := Tryz.sizeOf118
  v28 := Tryz.zeroValue118 }
open Go.Lib in
theorem TryzB.slices_Index_int (b off n c : Nat) (zs : List Int) (x : Int) (w : World) (hz : n ≤ zs.length) (hbig : n ≤ 9223372036854775807) (hc : ∀ j, j < zs.length → w.cell? ⟨b, off + j, none⟩ = some (.int .i64 (zs.getD j 0))) :
    Calls Tryz.prog 114 #[.slice (some ⟨b, off, none⟩) n c, .int .i64 x] w fun e w' => e = .returned (.int .i64 (Lib.idxOf (zs.take n) x)) ∧ w' = w := Any.slices_Index_int TryzB.lays108 b off n c zs x w hz hbig hc
def TryzB.lays107_ren : Go.Shelf.Ren := ⟨fun | 107 => 97 | 108 => 114 | n => n, fun | 28 => 118 | 3 => 3 | 4 => 4 | 0 => 0 | n => n, fun | n => n⟩
theorem TryzB.lays107 : Go.Proofs.Lays.n107 Tryz.prog TryzB.lays107_ren := {
  mixed := by kernel_rfl
  f107 := Tryz.func97.trans (congrArg some (by kernel_rfl))
  f108 := Tryz.func114.trans (congrArg some (by kernel_rfl))
  t0 := Tryz.underlying0
  a0 := Tryz.isAgg0
  z0 := Tryz.sizeOf0
  v0 := Tryz.zeroValue0
  t3 := Tryz.underlying3
  a3 := Tryz.isAgg3
  z3 := Tryz.sizeOf3
  v3 := Tryz.zeroValue3
  t4 := Tryz.underlying4
  a4 := Tryz.isAgg4
  z4 := Tryz.sizeOf4
  v4 := Tryz.zeroValue4
  t28 := Tryz.underlying118
  a28 := Tryz.isAgg118
  z28 := Tryz.sizeOf118
  v28 := Tryz.zeroValue118 }
open Go.Lib in
theorem TryzB.slices_Contains_int (b off n c : Nat) (zs : List Int) (x : Int) (w : World) (hz : n ≤ zs.length) (hbig : n ≤ 9223372036854775807) (hc : ∀ j, j < zs.length → w.cell? ⟨b, off + j, none⟩ = some (.int .i64 (zs.getD j 0))) :
    Calls Tryz.prog 97 #[.slice (some ⟨b, off, none⟩) n c, .int .i64 x] w fun e w' => e = .returned (.bool ((zs.take n).contains x)) ∧ w' = w := Any.slices_Contains_int TryzB.lays107 b off n c zs x w hz hbig hc
def TryzB.lays196_ren : Go.Shelf.Ren := ⟨fun | 196 => 111 | 259 => 131 | n => n, fun | 0 => 0 | 3 => 3 | 4 => 4 | 5 => 5 | 9 => 9 | 12 => 12 | 46 => 86 | 53 => 24 | 119 => 153 | 138 => 155 | 139 => 156 | n => n, fun | 3 => 2 | 4 => 3 | n => n⟩
theorem TryzB.lays196 : Go.Proofs.Lays.n196 Tryz.prog TryzB.lays196_ren := {
  mixed := by kernel_rfl
  f196 := Tryz.func111.trans (congrArg some (by kernel_rfl))
  f259 := Tryz.func131.trans (congrArg some (by kernel_rfl))
  t0 := Tryz.underlying0
  a0 := Tryz.isAgg0
  z0 := Tryz.sizeOf0
  v0 := Tryz.zeroValue0
  t3 := Tryz.underlying3
  a3 := Tryz.isAgg3
  z3 := Tryz.sizeOf3
  v3 := Tryz.zeroValue3
  t4 := Tryz.underlying4
  a4 := Tryz.isAgg4
  z4 := Tryz.sizeOf4
  v4 := Tryz.zeroValue4
  t5 := Tryz.underlying5
  a5 := Tryz.isAgg5
  z5 := Tryz.sizeOf5
  v5 := Tryz.zeroValue5
  t9 := Tryz.underlying9
  a9 := Tryz.isAgg9
  z9 := Tryz.sizeOf9
  v9 := Tryz.zeroValue9
  t12 := Tryz.underlying12
  a12 := Tryz.isAgg12
  z12 := Tryz.sizeOf12
  v12 := Tryz.zeroValue12
  t46 := Tryz.underlying86
  a46 := Tryz.isAgg86
  z46 := Tryz.sizeOf86
  v46 := Tryz.zeroValue86
  t53 := Tryz.underlying24
  a53 := Tryz.isAgg24
  z53 := Tryz.sizeOf24
  v53 := Tryz.zeroValue24
  t119 := Tryz.underlying153
  a119 := Tryz.isAgg153
  z119 := Tryz.sizeOf153
  t138 := Tryz.underlying155
  a138 := Tryz.isAgg155
  z138 := Tryz.sizeOf155
  v138 := Tryz.zeroValue155
  t139 := Tryz.underlying156
  a139 := Tryz.isAgg156
  z139 := Tryz.sizeOf156
  v139 := Tryz.zeroValue156
  g3 := by kernel_rfl
  g4 := by kernel_rfl }
open Go.RowKit in
theorem TryzB.utf8_ValidString (s : ByteArray) (w : World) (hs : s.size ≤ 9223372036854775807) (hT : Lib.Utf8Tabs 2 3 w) :
    Calls Tryz.prog 111 #[.string s] w fun e w' => e = .returned (.bool (Lib.validD s.data.toList)) ∧ Below w.heap.size w w' := Any.utf8_ValidString TryzB.lays196 s w hs hT
end Go.Proofs
