/- The contracts of Go's library that this seat's program can use, laid at its translation (by the kit's one command, in plain words). -/
import Derived.Shelf.Strings.SlTrimAscii
import Derived.Shelf.Unicode.ValidAny
import Derived.Shelf.Strings.Builder1
import Derived.Shelf.Strings.Builder2
import Derived.Shelf.Strings.Trim
import Derived.Shelf.Small.Utf8
import Derived.Shelf.Small.Strs
import Derived.Shelf.Strings.BuilderF
import Derived.Shelf.Strings.BuilderK
import Derived.Shelf.Strings.Builder2Cap
import Derived.Shelf.Strconv.Itoa0
import Derived.Shelf.Strconv.Itoa1
import Derived.Shelf.LaysM
import Derived.Shelf.Strconv.Itoa2
import Derived.Shelf.Strconv.Itoa3
import Derived.Shelf.Strconv.Clone
import Derived.Shelf.Strconv.SyntaxError
import Derived.Shelf.LaysC
import Derived.Shelf.Strconv.ToError
import Derived.Shelf.Strconv.Lower
import Derived.Shelf.Strconv.ParseUint10
import Derived.Shelf.Strconv.ParseUint10Empty
import Derived.Shelf.Strconv.ParseUint10Any
import Derived.Shelf.Strconv.RangeError
import Derived.Shelf.Strconv.ToErrorRange
import Derived.Shelf.Strconv.ParseUintEmpty
import Derived.Shelf.Strconv.ParseUint10b64
import Derived.Shelf.Strconv.ParseUint10b32
import Derived.Shelf.Strconv.ParseUint10b16
import Derived.Shelf.Strconv.ParseUint10b8
import Derived.Shelf.Strconv.ParseUint10At
import Derived.Ground.MpProg
import Derived.Shelf.Pu.ParseUintPublic10
import Derived.Shelf.Pu.ErrVarParseUint
import Derived.Shelf.Strings.Search1
import Derived.Shelf.GgClosure.StringsIndexFunc
import Derived.Ground.GgwProg
import Derived.Shelf.GgClosure.StringsIndexFuncTop
import Derived.Shelf.GgClosure.StringsRunes
import Derived.Shelf.Strings.Prefix
import Derived.Shelf.Unicode.Decode
import Derived.Shelf.Strings.Runes
import Derived.Shelf.Strings.AsciiSet
import Derived.Shelf.Bits.Mul64
import Derived.Shelf.Strings.Repeat
import Derived.Shelf.Unicode.DecodeSlow
import Derived.Shelf.Unicode.DecodeAny
import Derived.Shelf.Unicode.DecodeLast
import Derived.Shelf.Strings.FuncGrows
import Derived.Shelf.Strings.BuilderCap
import Derived.Shelf.Slices.Turned
import Derived.Test.YtpjlepkdiaohiaaGreatDoorProg
namespace Go.Proofs
open Go.Shelf
def TryzB.lays240_ren : Go.Shelf.Ren := ⟨fun | 240 => 147 | 276 => 173 | n => n, fun | 0 => 0 | 4 => 4 | 9 => 9 | 20 => 20 | 37 => 41 | 70 => 58 | 72 => 60 | 164 => 204 | n => n, fun  | n => n⟩
def TryzB.lays166_ren : Go.Shelf.Ren := ⟨fun | 166 => 118 | 240 => 147 | 276 => 173 | n => n, fun | 0 => 0 | 3 => 3 | 4 => 4 | 5 => 5 | 9 => 9 | 20 => 20 | 37 => 41 | 70 => 58 | 72 => 60 | 75 => 70 | 80 => 64 | 164 => 204 | n => n, fun  | n => n⟩
def TryzB.lays167_ren : Go.Shelf.Ren := ⟨fun | 167 => 145 | 240 => 147 | 276 => 173 | n => n, fun | 0 => 0 | 4 => 4 | 5 => 5 | 9 => 9 | 20 => 20 | 37 => 41 | 70 => 58 | 72 => 60 | 75 => 70 | 80 => 64 | 164 => 204 | n => n, fun  | n => n⟩
def TryzB.lays170_ren : Go.Shelf.Ren := ⟨fun | 170 => 164 | n => n, fun | 70 => 58 | 3 => 3 | 0 => 0 | 72 => 60 | 37 => 41 | 5 => 5 | n => n, fun | n => n⟩
def TryzB.lays169_ren : Go.Shelf.Ren := ⟨fun | 169 => 31 | n => n, fun | 70 => 58 | 9 => 9 | 0 => 0 | 72 => 60 | 37 => 41 | 127 => 89 | 3 => 3 | 5 => 5 | n => n, fun | n => n⟩
def TryzB.lays241_ren : Go.Shelf.Ren := ⟨fun | 241 => 184 | 277 => 201 | n => n, fun | 70 => 58 | 3 => 3 | 0 => 0 | 72 => 60 | 37 => 41 | 5 => 5 | n => n, fun | n => n⟩
def TryzB.lays165_ren : Go.Shelf.Ren := ⟨fun | 165 => 163 | 240 => 147 | 241 => 184 | 276 => 173 | 277 => 201 | n => n, fun | 70 => 58 | 3 => 3 | 0 => 0 | 4 => 4 | 9 => 9 | 20 => 20 | 72 => 60 | 37 => 41 | 164 => 204 | 5 => 5 | n => n, fun | n => n⟩
def TryzB.lays231_ren : Go.Shelf.Ren := ⟨fun | 231 => 187 | n => n, fun | 9 => 9 | 5 => 5 | 3 => 3 | 4 => 4 | n => n, fun | n => n⟩
def TryzB.lays232_ren : Go.Shelf.Ren := ⟨fun | 232 => 191 | n => n, fun | 9 => 9 | 5 => 5 | 3 => 3 | 4 => 4 | n => n, fun | n => n⟩
def TryzB.lays161_ren : Go.Shelf.Ren := ⟨fun | 161 => 169 | 231 => 187 | 227 => 188 | 233 => 189 | 235 => 190 | 228 => 202 | 197 => 203 | 151 => 204 | 260 => 213 | 152 => 214 | 137 => 221 | 119 => 222 | 224 => 223 | 225 => 224 | 217 => 228 | 266 => 229 | n => n, fun | 9 => 9 | 4 => 4 | 3 => 3 | 5 => 5 | 117 => 224 | 116 => 223 | 0 => 0 | 124 => 227 | 105 => 235 | 21 => 21 | 119 => 209 | 46 => 143 | 139 => 212 | 138 => 211 | n => n, fun | 3 => 5 | 4 => 6 | n => n⟩
def TryzB.lays162_ren : Go.Shelf.Ren := ⟨fun | 162 => 170 | 232 => 191 | 227 => 188 | 234 => 192 | 236 => 193 | 228 => 202 | 271 => 205 | 151 => 204 | 120 => 215 | 197 => 203 | 152 => 214 | 260 => 213 | 137 => 221 | 119 => 222 | 224 => 223 | 225 => 224 | 217 => 228 | 266 => 229 | n => n, fun | 9 => 9 | 4 => 4 | 3 => 3 | 5 => 5 | 117 => 224 | 116 => 223 | 0 => 0 | 124 => 227 | 21 => 21 | 105 => 235 | 46 => 143 | 119 => 209 | 139 => 212 | 138 => 211 | n => n, fun | 3 => 5 | 4 => 6 | n => n⟩
def TryzB.lays160_ren : Go.Shelf.Ren := ⟨fun | 160 => 176 | 232 => 191 | 231 => 187 | 227 => 188 | 234 => 192 | 233 => 189 | 236 => 193 | 235 => 190 | 228 => 202 | 271 => 205 | 151 => 204 | 197 => 203 | 120 => 215 | 152 => 214 | 260 => 213 | 137 => 221 | 119 => 222 | 224 => 223 | 225 => 224 | 217 => 228 | 266 => 229 | n => n, fun | 9 => 9 | 4 => 4 | 3 => 3 | 5 => 5 | 117 => 224 | 116 => 223 | 0 => 0 | 124 => 227 | 21 => 21 | 105 => 235 | 46 => 143 | 119 => 209 | 139 => 212 | 138 => 211 | n => n, fun | 3 => 5 | 4 => 6 | n => n⟩
def TryzB.lays119_ren : Go.Shelf.Ren := ⟨fun | 119 => 222 | n => n, fun | 21 => 21 | 4 => 4 | n => n, fun | n => n⟩
def TryzB.lays120_ren : Go.Shelf.Ren := ⟨fun | 120 => 215 | n => n, fun | 5 => 5 | 4 => 4 | n => n, fun | n => n⟩
def TryzB.lays137_ren : Go.Shelf.Ren := ⟨fun | 137 => 221 | 217 => 228 | 266 => 229 | n => n, fun | 9 => 9 | 5 => 5 | 3 => 3 | n => n, fun | n => n⟩
def TryzB.lays129_ren : Go.Shelf.Ren := ⟨fun | 129 => 129 | n => n, fun | 53 => 24 | 3 => 3 | 4 => 4 | 46 => 143 | 5 => 5 | 9 => 9 | n => n, fun | n => n⟩
def TryzB.lays317_ren : Go.Shelf.Ren := ⟨fun | 317 => 216 | n => n, fun | 3 => 3 | 46 => 143 | n => n, fun | n => n⟩
def TryzB.lays318_ren : Go.Shelf.Ren := ⟨fun | 318 => 217 | n => n, fun | 3 => 3 | 4 => 4 | n => n, fun | n => n⟩
def TryzB.lays283_ren : Go.Shelf.Ren := ⟨fun | 283 => 206 | n => n, fun | 3 => 3 | 9 => 9 | 4 => 4 | n => n, fun | n => n⟩
def TryzB.laysM284_ren : Go.Shelf.Ren := ⟨fun | 284 => 207 | 129 => 129 | 317 => 216 | 318 => 217 | n => n, fun | 53 => 24 | 3 => 3 | 212 => 248 | 0 => 0 | 4 => 4 | 46 => 143 | 5 => 5 | 9 => 9 | n => n, fun | 17 => 10 | n => n⟩
def TryzB.lays285_ren : Go.Shelf.Ren := ⟨fun | 285 => 208 | n => n, fun | 37 => 41 | 53 => 24 | 3 => 3 | 4 => 4 | 51 => 214 | 9 => 9 | 5 => 5 | 0 => 0 | n => n, fun | n => n⟩
def TryzB.laysM246_ren : Go.Shelf.Ren := ⟨fun | 246 => 227 | 283 => 206 | 284 => 207 | 285 => 208 | 286 => 209 | 129 => 129 | 317 => 216 | 318 => 217 | 319 => 218 | 320 => 219 | 337 => 225 | 338 => 226 | n => n, fun | 2 => 2 | 3 => 3 | 9 => 9 | 4 => 4 | 171 => 238 | 0 => 0 | 53 => 24 | 37 => 41 | 5 => 5 | 173 => 240 | 212 => 248 | 51 => 214 | 20 => 20 | 213 => 249 | 46 => 143 | 232 => 257 | 233 => 258 | n => n, fun | 17 => 10 | 18 => 11 | 19 => 12 | n => n⟩
def TryzB.lays246_ren : Go.Shelf.Ren := ⟨fun | 246 => 227 | 283 => 206 | 284 => 207 | 285 => 208 | 286 => 209 | 129 => 129 | 317 => 216 | 318 => 217 | 319 => 218 | 320 => 219 | 337 => 225 | 338 => 226 | n => n, fun | 2 => 2 | 3 => 3 | 9 => 9 | 4 => 4 | 171 => 238 | 0 => 0 | 53 => 24 | 37 => 41 | 5 => 5 | 173 => 240 | 212 => 248 | 51 => 214 | 20 => 20 | 213 => 249 | 46 => 143 | 232 => 257 | 233 => 258 | n => n, fun | 17 => 10 | 18 => 11 | 19 => 12 | n => n⟩
def TryzB.laysM243_ren : Go.Shelf.Ren := ⟨fun | 243 => 220 | 246 => 227 | 283 => 206 | 284 => 207 | 285 => 208 | 286 => 209 | 129 => 129 | 317 => 216 | 318 => 217 | 319 => 218 | 320 => 219 | 337 => 225 | 338 => 226 | n => n, fun | 3 => 3 | 9 => 9 | 2 => 2 | 4 => 4 | 171 => 238 | 0 => 0 | 53 => 24 | 37 => 41 | 5 => 5 | 173 => 240 | 212 => 248 | 51 => 214 | 20 => 20 | 213 => 249 | 46 => 143 | 232 => 257 | 233 => 258 | n => n, fun | 17 => 10 | 18 => 11 | 19 => 12 | n => n⟩
def TryzB.lays243_ren : Go.Shelf.Ren := ⟨fun | 243 => 220 | 246 => 227 | 283 => 206 | 284 => 207 | 285 => 208 | 286 => 209 | 129 => 129 | 317 => 216 | 318 => 217 | 319 => 218 | 320 => 219 | 337 => 225 | 338 => 226 | n => n, fun | 3 => 3 | 9 => 9 | 2 => 2 | 4 => 4 | 171 => 238 | 0 => 0 | 53 => 24 | 37 => 41 | 5 => 5 | 173 => 240 | 212 => 248 | 51 => 214 | 20 => 20 | 213 => 249 | 46 => 143 | 232 => 257 | 233 => 258 | n => n, fun | 17 => 10 | 18 => 11 | 19 => 12 | n => n⟩
def TryzB.laysM171_ren : Go.Shelf.Ren := ⟨fun | 171 => 212 | 243 => 220 | 246 => 227 | 283 => 206 | 284 => 207 | 285 => 208 | 286 => 209 | 129 => 129 | 317 => 216 | 318 => 217 | 319 => 218 | 320 => 219 | 337 => 225 | 338 => 226 | n => n, fun | 3 => 3 | 9 => 9 | 2 => 2 | 4 => 4 | 171 => 238 | 0 => 0 | 53 => 24 | 37 => 41 | 5 => 5 | 173 => 240 | 212 => 248 | 51 => 214 | 20 => 20 | 213 => 249 | 46 => 143 | 232 => 257 | 233 => 258 | n => n, fun | 17 => 10 | 18 => 11 | 19 => 12 | n => n⟩
def TryzB.lays171_ren : Go.Shelf.Ren := ⟨fun | 171 => 212 | 243 => 220 | 246 => 227 | 283 => 206 | 284 => 207 | 285 => 208 | 286 => 209 | 129 => 129 | 317 => 216 | 318 => 217 | 319 => 218 | 320 => 219 | 337 => 225 | 338 => 226 | n => n, fun | 3 => 3 | 9 => 9 | 2 => 2 | 4 => 4 | 171 => 238 | 0 => 0 | 53 => 24 | 37 => 41 | 5 => 5 | 173 => 240 | 212 => 248 | 51 => 214 | 20 => 20 | 213 => 249 | 46 => 143 | 232 => 257 | 233 => 258 | n => n, fun | 17 => 10 | 18 => 11 | 19 => 12 | n => n⟩
def TryzB.laysM316_ren : Go.Shelf.Ren := ⟨fun | 316 => 210 | n => n, fun | 9 => 9 | 3 => 3 | 4 => 4 | 37 => 41 | 0 => 0 | 127 => 89 | 5 => 5 | n => n, fun | n => n⟩
def TryzB.laysM279_ren : Go.Shelf.Ren := ⟨fun | 279 => 197 | 316 => 210 | n => n, fun | 9 => 9 | 168 => 230 | 75 => 70 | 210 => 243 | 3 => 3 | 4 => 4 | 37 => 41 | 0 => 0 | 127 => 89 | 80 => 64 | 5 => 5 | n => n, fun | 15 => 7 | n => n⟩
def TryzB.laysC245_ren : Go.Shelf.Ren := ⟨fun | 245 => 180 | 279 => 197 | 280 => 198 | 281 => 199 | 282 => 200 | 316 => 210 | 171 => 212 | 205 => 211 | 243 => 220 | 246 => 227 | 283 => 206 | 284 => 207 | 285 => 208 | 286 => 209 | 129 => 129 | 317 => 216 | 318 => 217 | 319 => 218 | 320 => 219 | 337 => 225 | 338 => 226 | n => n, fun | 9 => 9 | 3 => 3 | 75 => 70 | 167 => 228 | 4 => 4 | 168 => 230 | 210 => 243 | 37 => 41 | 0 => 0 | 127 => 89 | 145 => 253 | 143 => 251 | 2 => 2 | 171 => 238 | 53 => 24 | 5 => 5 | 173 => 240 | 212 => 248 | 51 => 214 | 20 => 20 | 213 => 249 | 46 => 143 | 232 => 257 | 233 => 258 | 80 => 64 | n => n, fun | 15 => 7 | 16 => 8 | 17 => 10 | 18 => 11 | 19 => 12 | n => n⟩
def TryzB.lays321_ren : Go.Shelf.Ren := ⟨fun | 321 => 195 | n => n, fun | 5 => 5 | n => n, fun | n => n⟩
def TryzB.lays287_ren : Go.Shelf.Ren := ⟨fun | 287 => 179 | 321 => 195 | 322 => 196 | n => n, fun | 9 => 9 | 3 => 3 | 53 => 24 | 75 => 70 | 4 => 4 | 167 => 228 | 5 => 5 | 46 => 143 | 37 => 41 | 0 => 0 | 21 => 21 | 80 => 64 | n => n, fun | n => n⟩
def TryzB.laysM280_ren : Go.Shelf.Ren := ⟨fun | 280 => 198 | 316 => 210 | n => n, fun | 9 => 9 | 168 => 230 | 75 => 70 | 210 => 243 | 3 => 3 | 4 => 4 | 37 => 41 | 0 => 0 | 127 => 89 | 80 => 64 | 5 => 5 | n => n, fun | 16 => 8 | n => n⟩
def TryzB.laysPu14_ren : Go.Shelf.Ren := ⟨fun | 14 => 160 | 16 => 179 | 17 => 180 | 19 => 195 | 20 => 196 | 21 => 197 | 22 => 198 | 23 => 199 | 24 => 200 | 25 => 210 | 27 => 212 | 26 => 211 | 28 => 220 | 29 => 227 | 30 => 206 | 31 => 207 | 32 => 208 | 33 => 209 | 35 => 129 | 34 => 216 | 36 => 217 | 37 => 218 | 38 => 219 | 39 => 225 | 40 => 226 | n => n, fun | 9 => 9 | 3 => 3 | 22 => 24 | 24 => 70 | 25 => 108 | 4 => 4 | 34 => 228 | 5 => 5 | 36 => 143 | 37 => 41 | 0 => 0 | 39 => 230 | 21 => 21 | 44 => 243 | 47 => 89 | 50 => 253 | 48 => 251 | 2 => 2 | 52 => 238 | 55 => 240 | 59 => 248 | 60 => 214 | 20 => 20 | 61 => 249 | 65 => 257 | 66 => 258 | 67 => 64 | n => n, fun | 0 => 7 | 1 => 8 | 2 => 10 | 3 => 11 | 4 => 12 | n => n⟩
def TryzB.lays217_ren : Go.Shelf.Ren := ⟨fun | 217 => 228 | 266 => 229 | n => n, fun | 9 => 9 | 5 => 5 | 3 => 3 | n => n, fun | n => n⟩
def TryzB.lays224_ren : Go.Shelf.Ren := ⟨fun | 224 => 223 | n => n, fun | 3 => 3 | n => n, fun | n => n⟩
def TryzB.lays315_ren : Go.Shelf.Ren := ⟨fun | 315 => 186 | n => n, fun | 9 => 9 | 40 => 200 | 4 => 4 | 3 => 3 | 0 => 0 | 21 => 21 | n => n, fun | n => n⟩
def TryzB.laysGw15_ren : Go.Shelf.Ren := ⟨fun | 15 => 168 | 20 => 186 | n => n, fun | 9 => 9 | 23 => 200 | 3 => 3 | 4 => 4 | 0 => 0 | 21 => 21 | n => n, fun | n => n⟩
def TryzB.lays206_ren : Go.Shelf.Ren := ⟨fun | 206 => 183 | n => n, fun | 9 => 9 | 4 => 4 | 3 => 3 | n => n, fun | n => n⟩
def TryzB.lays99_ren : Go.Shelf.Ren := ⟨fun | 99 => 162 | 206 => 183 | n => n, fun | 9 => 9 | 4 => 4 | 3 => 3 | n => n, fun | n => n⟩
def TryzB.lays207_ren : Go.Shelf.Ren := ⟨fun | 207 => 177 | n => n, fun | 9 => 9 | 4 => 4 | 3 => 3 | n => n, fun | n => n⟩
def TryzB.lays100_ren : Go.Shelf.Ren := ⟨fun | 100 => 154 | 207 => 177 | n => n, fun | 9 => 9 | 4 => 4 | 3 => 3 | n => n, fun | n => n⟩
def TryzB.lays197_ren : Go.Shelf.Ren := ⟨fun | 197 => 203 | 260 => 213 | n => n, fun | 9 => 9 | 21 => 21 | 3 => 3 | 4 => 4 | 5 => 5 | 105 => 235 | 119 => 209 | 0 => 0 | 46 => 143 | 139 => 212 | 138 => 211 | n => n, fun | 3 => 5 | 4 => 6 | n => n⟩
def TryzB.lays152_ren : Go.Shelf.Ren := ⟨fun | 152 => 214 | 137 => 221 | 119 => 222 | 224 => 223 | 225 => 224 | 217 => 228 | 266 => 229 | n => n, fun | 9 => 9 | 21 => 21 | 3 => 3 | 4 => 4 | 5 => 5 | 0 => 0 | 46 => 143 | n => n, fun | n => n⟩
def TryzB.lays151_ren : Go.Shelf.Ren := ⟨fun | 151 => 204 | 152 => 214 | 137 => 221 | 119 => 222 | 224 => 223 | 225 => 224 | 217 => 228 | 266 => 229 | n => n, fun | 9 => 9 | 21 => 21 | 4 => 4 | 3 => 3 | 5 => 5 | 0 => 0 | 46 => 143 | n => n, fun | n => n⟩
def TryzB.lays227_ren : Go.Shelf.Ren := ⟨fun | 227 => 188 | n => n, fun | 9 => 9 | 116 => 223 | 4 => 4 | 0 => 0 | 3 => 3 | 5 => 5 | n => n, fun | n => n⟩
def TryzB.lays228_ren : Go.Shelf.Ren := ⟨fun | 228 => 202 | n => n, fun | 124 => 227 | 5 => 5 | 4 => 4 | 0 => 0 | 116 => 223 | n => n, fun | n => n⟩
def TryzB.lays264_ren : Go.Shelf.Ren := ⟨fun | 264 => 182 | n => n, fun | 53 => 24 | 46 => 143 | n => n, fun | n => n⟩
def TryzB.lays212_ren : Go.Shelf.Ren := ⟨fun | 212 => 161 | 263 => 181 | 264 => 182 | n => n, fun | 46 => 143 | 51 => 214 | 146 => 215 | 53 => 24 | 148 => 217 | n => n, fun | n => n⟩
def TryzB.lays105_ren : Go.Shelf.Ren := ⟨fun | 105 => 139 | 212 => 161 | 99 => 162 | 165 => 163 | 166 => 118 | 170 => 164 | 169 => 31 | 263 => 181 | 264 => 182 | 206 => 183 | 240 => 147 | 241 => 184 | 276 => 173 | 277 => 201 | n => n, fun | 9 => 9 | 3 => 3 | 4 => 4 | 20 => 20 | 0 => 0 | 46 => 143 | 109 => 194 | 5 => 5 | 72 => 60 | 76 => 154 | 51 => 214 | 146 => 215 | 53 => 24 | 148 => 217 | 70 => 58 | 37 => 41 | 75 => 70 | 127 => 89 | 164 => 204 | 80 => 64 | n => n, fun | n => n⟩
def TryzB.lays260_ren : Go.Shelf.Ren := ⟨fun | 260 => 213 | n => n, fun | 9 => 9 | 21 => 21 | 3 => 3 | 4 => 4 | 5 => 5 | 119 => 209 | 0 => 0 | 46 => 143 | 139 => 212 | 138 => 211 | n => n, fun | 3 => 5 | 4 => 6 | n => n⟩
def TryzB.lays271_ren : Go.Shelf.Ren := ⟨fun | 271 => 205 | 120 => 215 | 197 => 203 | 260 => 213 | n => n, fun | 9 => 9 | 21 => 21 | 3 => 3 | 4 => 4 | 5 => 5 | 105 => 235 | 119 => 209 | 0 => 0 | 46 => 143 | 139 => 212 | 138 => 211 | n => n, fun | 3 => 5 | 4 => 6 | n => n⟩
def TryzB.lays108_ren : Go.Shelf.Ren := ⟨fun | 108 => 158 | n => n, fun | 28 => 145 | 3 => 3 | 0 => 0 | 4 => 4 | n => n, fun | n => n⟩
theorem TryzB.lays108 : Go.Proofs.Lays.n108 Tryz.prog TryzB.lays108_ren := {
  mixed := by kernel_rfl
  f108 := Tryz.func158.trans (congrArg some (by kernel_rfl))
  t0 := Tryz.underlying0
  a0 := Tryz.isAgg0
  z0 := Tryz.sizeOf0
  v0 := Tryz.zeroValue0
  t3 := Tryz.underlying3
  a3 := Tryz.isAgg3
  z3 := Tryz.sizeOf3
  v3 := Tryz.zeroValue3
  t4 := Tryz.underlying4
  a4 := Tryz.isAgg4
  z4 := Tryz.sizeOf4
  v4 := Tryz.zeroValue4
  t28 := Tryz.underlying145
  a28 := Tryz.isAgg145
  z28 := Tryz.sizeOf145
  v28 := Tryz.zeroValue145 }
open Go.Lib in
theorem TryzB.slices_Index_int (b off n c : Nat) (zs : List Int) (x : Int) (w : World) (hz : n ≤ zs.length) (hbig : n ≤ 9223372036854775807) (hc : ∀ j, j < zs.length → w.cell? ⟨b, off + j, none⟩ = some (.int .i64 (zs.getD j 0))) :
    Calls Tryz.prog 158 #[.slice (some ⟨b, off, none⟩) n c, .int .i64 x] w fun e w' => e = .returned (.int .i64 (Lib.idxOf (zs.take n) x)) ∧ w' = w := Any.slices_Index_int TryzB.lays108 b off n c zs x w hz hbig hc
def TryzB.lays107_ren : Go.Shelf.Ren := ⟨fun | 107 => 135 | 108 => 158 | n => n, fun | 28 => 145 | 3 => 3 | 4 => 4 | 0 => 0 | n => n, fun | n => n⟩
theorem TryzB.lays107 : Go.Proofs.Lays.n107 Tryz.prog TryzB.lays107_ren := {
  mixed := by kernel_rfl
  f107 := Tryz.func135.trans (congrArg some (by kernel_rfl))
  f108 := Tryz.func158.trans (congrArg some (by kernel_rfl))
  t0 := Tryz.underlying0
  a0 := Tryz.isAgg0
  z0 := Tryz.sizeOf0
  v0 := Tryz.zeroValue0
  t3 := Tryz.underlying3
  a3 := Tryz.isAgg3
  z3 := Tryz.sizeOf3
  v3 := Tryz.zeroValue3
  t4 := Tryz.underlying4
  a4 := Tryz.isAgg4
  z4 := Tryz.sizeOf4
  v4 := Tryz.zeroValue4
  t28 := Tryz.underlying145
  a28 := Tryz.isAgg145
  z28 := Tryz.sizeOf145
  v28 := Tryz.zeroValue145 }
open Go.Lib in
theorem TryzB.slices_Contains_int (b off n c : Nat) (zs : List Int) (x : Int) (w : World) (hz : n ≤ zs.length) (hbig : n ≤ 9223372036854775807) (hc : ∀ j, j < zs.length → w.cell? ⟨b, off + j, none⟩ = some (.int .i64 (zs.getD j 0))) :
    Calls Tryz.prog 135 #[.slice (some ⟨b, off, none⟩) n c, .int .i64 x] w fun e w' => e = .returned (.bool ((zs.take n).contains x)) ∧ w' = w := Any.slices_Contains_int TryzB.lays107 b off n c zs x w hz hbig hc
def TryzB.lays196_ren : Go.Shelf.Ren := ⟨fun | 196 => 155 | 259 => 178 | n => n, fun | 0 => 0 | 3 => 3 | 4 => 4 | 5 => 5 | 9 => 9 | 12 => 12 | 46 => 143 | 53 => 24 | 119 => 209 | 138 => 211 | 139 => 212 | n => n, fun | 3 => 5 | 4 => 6 | n => n⟩
theorem TryzB.lays196 : Go.Proofs.Lays.n196 Tryz.prog TryzB.lays196_ren := {
  mixed := by kernel_rfl
  f196 := Tryz.func155.trans (congrArg some (by kernel_rfl))
  f259 := Tryz.func178.trans (congrArg some (by kernel_rfl))
  t0 := Tryz.underlying0
  a0 := Tryz.isAgg0
  z0 := Tryz.sizeOf0
  v0 := Tryz.zeroValue0
  t3 := Tryz.underlying3
  a3 := Tryz.isAgg3
  z3 := Tryz.sizeOf3
  v3 := Tryz.zeroValue3
  t4 := Tryz.underlying4
  a4 := Tryz.isAgg4
  z4 := Tryz.sizeOf4
  v4 := Tryz.zeroValue4
  t5 := Tryz.underlying5
  a5 := Tryz.isAgg5
  z5 := Tryz.sizeOf5
  v5 := Tryz.zeroValue5
  t9 := Tryz.underlying9
  a9 := Tryz.isAgg9
  z9 := Tryz.sizeOf9
  v9 := Tryz.zeroValue9
  t12 := Tryz.underlying12
  a12 := Tryz.isAgg12
  z12 := Tryz.sizeOf12
  v12 := Tryz.zeroValue12
  t46 := Tryz.underlying143
  a46 := Tryz.isAgg143
  z46 := Tryz.sizeOf143
  v46 := Tryz.zeroValue143
  t53 := Tryz.underlying24
  a53 := Tryz.isAgg24
  z53 := Tryz.sizeOf24
  v53 := Tryz.zeroValue24
  t119 := Tryz.underlying209
  a119 := Tryz.isAgg209
  z119 := Tryz.sizeOf209
  t138 := Tryz.underlying211
  a138 := Tryz.isAgg211
  z138 := Tryz.sizeOf211
  v138 := Tryz.zeroValue211
  t139 := Tryz.underlying212
  a139 := Tryz.isAgg212
  z139 := Tryz.sizeOf212
  v139 := Tryz.zeroValue212
  g3 := by kernel_rfl
  g4 := by kernel_rfl }
open Go.RowKit in
theorem TryzB.utf8_ValidString (s : ByteArray) (w : World) (hs : s.size ≤ 9223372036854775807) (hT : Lib.Utf8Tabs 5 6 w) :
    Calls Tryz.prog 155 #[.string s] w fun e w' => e = .returned (.bool (Lib.validD s.data.toList)) ∧ Below w.heap.size w w' := Any.utf8_ValidString TryzB.lays196 s w hs hT
end Go.Proofs
