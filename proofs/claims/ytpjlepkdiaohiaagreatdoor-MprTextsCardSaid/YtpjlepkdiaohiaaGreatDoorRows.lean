/-
  NARROWER THAN 'FOR EVERY INPUT', by the rows' own cells (each row's printed sentence says how): MpwApart: loops, laid · MpwWrites: loops, laid · MpwNumbers: laid · MpwSizes: loops, laid · MpwTexts: laid · MprFits: laid · MprBehind: laid · MprNumbers: laid · MprTexts: laid · MprLists: laid · MpwBack: loops, laid · MpwTurns: laid.
  DERIVED. THE GIVEN ROWS OF THIS SEAT. 12 by the template 'for every input the law returns true; each argument reads behind the call as it read before'; 0 by the template 'total and deterministic' (their statements: YtpjlepkdiaohiaaGreatDoorTotals.lean).
  GIVEN WITH THE SEED: the statements are not yours to turn. If you find one false, say at which input.
  Laid BY PROGRAM, IN A SANDBOX (cutbox-rows.mjs): the forced cells as the released guide's own fill.sh prints them over the translation 9cefb8396492fc49… (all of the seat's roots in one cut). By AI agents, Wed Nov 11 2026. No macro, syntax, notation, axiom, sorry.
-/
import Derived.Test.YtpjlepkdiaohiaaGreatDoorChecked
import GoSem.PinnedTables
import GoSem.Claim
import GoSem.ClaimJoined
import GoSem.ClaimMapViews
import Derived.JoinedTies
import Derived.KernelRfl
namespace Go.Proofs.YtpjlepkdiaohiaaGreatDoor
/- THE CELL 'sum', in the pinned program and in every row, IS THE sha256 OF THE DUMP (.gsa) THAT YtpjlepkdiaohiaaGreatDoorProg.lean LOADS. Nothing in Lean hashes anything: it is a label: what it is worth is what the hold of that sum in a sandbox is worth. -/
noncomputable def Tryz.pinned : Pinned := { name := "ytpjlepkdiaohiaagreatdoor", sum := "9cefb8396492fc4934fab01d39ea19657d91c4e49f5a1c672fd073dc1a290abf", checked := Tryz.checked }
namespace Rows
def none {H : Type} : Left H := { results := [], args := [] }

/- WHAT THE LISTED PACKAGE-LEVEL VARIABLES READ AS WHEN THE CALL BEGINS. Each datum BY PROGRAM (the guide's laid-datum.mjs) off the statement by which the dump's own 'gosem.cut.vars' lays the variable. In a bare row this is a premise. The card (YtpjlepkdiaohiaaGreatDoorCards.lean) ties it to the program's text. -/
def laid_math_bits_deBruijn32tab {H : Type} : DataW H := .agg [.lit (.int .u8 0), .lit (.int .u8 1), .lit (.int .u8 28), .lit (.int .u8 2), .lit (.int .u8 29), .lit (.int .u8 14), .lit (.int .u8 24), .lit (.int .u8 3), .lit (.int .u8 30), .lit (.int .u8 22), .lit (.int .u8 20), .lit (.int .u8 15), .lit (.int .u8 25), .lit (.int .u8 17), .lit (.int .u8 4), .lit (.int .u8 8), .lit (.int .u8 31), .lit (.int .u8 27), .lit (.int .u8 13), .lit (.int .u8 23), .lit (.int .u8 21), .lit (.int .u8 19), .lit (.int .u8 16), .lit (.int .u8 7), .lit (.int .u8 26), .lit (.int .u8 12), .lit (.int .u8 18), .lit (.int .u8 6), .lit (.int .u8 11), .lit (.int .u8 5), .lit (.int .u8 10), .lit (.int .u8 9)]
def laid_math_bits_deBruijn64tab {H : Type} : DataW H := .agg [.lit (.int .u8 0), .lit (.int .u8 1), .lit (.int .u8 56), .lit (.int .u8 2), .lit (.int .u8 57), .lit (.int .u8 49), .lit (.int .u8 28), .lit (.int .u8 3), .lit (.int .u8 61), .lit (.int .u8 58), .lit (.int .u8 42), .lit (.int .u8 50), .lit (.int .u8 38), .lit (.int .u8 29), .lit (.int .u8 17), .lit (.int .u8 4), .lit (.int .u8 62), .lit (.int .u8 47), .lit (.int .u8 59), .lit (.int .u8 36), .lit (.int .u8 45), .lit (.int .u8 43), .lit (.int .u8 51), .lit (.int .u8 22), .lit (.int .u8 53), .lit (.int .u8 39), .lit (.int .u8 33), .lit (.int .u8 30), .lit (.int .u8 24), .lit (.int .u8 18), .lit (.int .u8 12), .lit (.int .u8 5), .lit (.int .u8 63), .lit (.int .u8 55), .lit (.int .u8 48), .lit (.int .u8 27), .lit (.int .u8 60), .lit (.int .u8 41), .lit (.int .u8 37), .lit (.int .u8 16), .lit (.int .u8 46), .lit (.int .u8 35), .lit (.int .u8 44), .lit (.int .u8 21), .lit (.int .u8 52), .lit (.int .u8 32), .lit (.int .u8 23), .lit (.int .u8 11), .lit (.int .u8 54), .lit (.int .u8 26), .lit (.int .u8 40), .lit (.int .u8 15), .lit (.int .u8 34), .lit (.int .u8 20), .lit (.int .u8 31), .lit (.int .u8 10), .lit (.int .u8 25), .lit (.int .u8 14), .lit (.int .u8 19), .lit (.int .u8 9), .lit (.int .u8 13), .lit (.int .u8 8), .lit (.int .u8 7), .lit (.int .u8 6)]
def laid_internal_strconv_uint64pow10 {H : Type} : DataW H := .agg [.lit (.int .u64 1), .lit (.int .u64 10), .lit (.int .u64 100), .lit (.int .u64 1000), .lit (.int .u64 10000), .lit (.int .u64 100000), .lit (.int .u64 1000000), .lit (.int .u64 10000000), .lit (.int .u64 100000000), .lit (.int .u64 1000000000), .lit (.int .u64 10000000000), .lit (.int .u64 100000000000), .lit (.int .u64 1000000000000), .lit (.int .u64 10000000000000), .lit (.int .u64 100000000000000), .lit (.int .u64 1000000000000000), .lit (.int .u64 10000000000000000), .lit (.int .u64 100000000000000000), .lit (.int .u64 1000000000000000000), .lit (.int .u64 10000000000000000000)]
def laid_unicode_utf8_acceptRanges {H : Type} : DataW H := .agg [.agg [.lit (.int .u8 128), .lit (.int .u8 191)], .agg [.lit (.int .u8 160), .lit (.int .u8 191)], .agg [.lit (.int .u8 128), .lit (.int .u8 159)], .agg [.lit (.int .u8 144), .lit (.int .u8 191)], .agg [.lit (.int .u8 128), .lit (.int .u8 143)], .agg [.lit (.int .u8 0), .lit (.int .u8 0)], .agg [.lit (.int .u8 0), .lit (.int .u8 0)], .agg [.lit (.int .u8 0), .lit (.int .u8 0)], .agg [.lit (.int .u8 0), .lit (.int .u8 0)], .agg [.lit (.int .u8 0), .lit (.int .u8 0)], .agg [.lit (.int .u8 0), .lit (.int .u8 0)], .agg [.lit (.int .u8 0), .lit (.int .u8 0)], .agg [.lit (.int .u8 0), .lit (.int .u8 0)], .agg [.lit (.int .u8 0), .lit (.int .u8 0)], .agg [.lit (.int .u8 0), .lit (.int .u8 0)], .agg [.lit (.int .u8 0), .lit (.int .u8 0)]]
def laid_strconv_ErrRange {H : Type} : DataW H := .iface "*errors.errorString" (.ptr (.agg [.lit (.string [118, 97, 108, 117, 101, 32, 111, 117, 116, 32, 111, 102, 32, 114, 97, 110, 103, 101])]))
def laid_strconv_ErrSyntax {H : Type} : DataW H := .iface "*errors.errorString" (.ptr (.agg [.lit (.string [105, 110, 118, 97, 108, 105, 100, 32, 115, 121, 110, 116, 97, 120])]))
def laid_targum_tree_errTree {H : Type} : DataW H := .iface "*errors.errorString" (.ptr (.agg [.lit (.string [110, 111, 32, 116, 114, 101, 101])]))
def laid_targum_tree_errForm {H : Type} : DataW H := .iface "*errors.errorString" (.ptr (.agg [.lit (.string [110, 111, 32, 115, 117, 99, 104, 32, 102, 111, 114, 109])]))
/-- One of Go's own tables, pinned by name: the form's constant. -/
def laid_unicode_utf8_first : DataW Unit := Go.Pinned.utf8First
def laid_targum_mpr_errMore {H : Type} : DataW H := .iface "*errors.errorString" (.ptr (.agg [.lit (.string [109, 111, 114, 101])]))
def laid_targum_mpr_errPack {H : Type} : DataW H := .iface "*errors.errorString" (.ptr (.agg [.lit (.string [110, 111, 32, 105, 116, 101, 109])]))
def laid_targum_mpr_errTree {H : Type} : DataW H := .iface "*errors.errorString" (.ptr (.agg [.lit (.string [116, 111, 111, 32, 100, 101, 101, 112])]))

/-- 'targumlaw15.MpwApart': WHATEVER THE INPUT: true; the input reads as it did. -/
def mpwApartSpec : ChangeSpec := { name := "mpwApart", fn := fun _ => fun
  | [d1, d2] => { results := [.lit (.bool true)], args := [d1, d2] }
  | _ => none }
def mpwApartRow : OpenClaim := { program := "ytpjlepkdiaohiaagreatdoor", sum := "9cefb8396492fc4934fab01d39ea19657d91c4e49f5a1c672fd073dc1a290abf", func := "targum/targumlaw15.MpwApart", spec := "mpwApart", inPlace := ["internal/bytealg.IndexByteString", "internal/bytealg.IndexString", "internal/abi.NoEscape", "internal/bytealg.MakeNoZero", "internal/reflectlite.TypeOf"], unfollowed := true, recurses := true, named := ["targum/tree.errTree", "targum/tree.errForm", "unicode/utf8.first", "unicode/utf8.acceptRanges", "strconv.ErrSyntax", "strconv.ErrRange", "internal/strconv.uint64pow10", "math/bits.deBruijn32tab", "math/bits.deBruijn64tab", "internal/bytealg.MaxLen"], loops := true, apart := false, laid := [("math/bits.deBruijn32tab", laid_math_bits_deBruijn32tab), ("math/bits.deBruijn64tab", laid_math_bits_deBruijn64tab), ("internal/strconv.uint64pow10", laid_internal_strconv_uint64pow10), ("unicode/utf8.acceptRanges", laid_unicode_utf8_acceptRanges), ("strconv.ErrRange", laid_strconv_ErrRange), ("strconv.ErrSyntax", laid_strconv_ErrSyntax), ("targum/tree.errTree", laid_targum_tree_errTree), ("targum/tree.errForm", laid_targum_tree_errForm), ("unicode/utf8.first", laid_unicode_utf8_first)] }
def MpwApartSaid : Prop := mpwApartRow.holds Tryz.pinned (OpenSpec.ofChange mpwApartSpec)

/-- ITS FALSE NEIGHBOUR: 'it returns false'. Refute it at one input. -/
def mpwApartWrong : ChangeSpec := { name := "mpwApart", fn := fun _ => fun
  | [d1, d2] => { results := [.lit (.bool false)], args := [d1, d2] }
  | _ => none }
def MpwApartWrongFalsely : Prop := mpwApartRow.holds Tryz.pinned (OpenSpec.ofChange mpwApartWrong)

/-- 'targumlaw15.MpwWrites': WHATEVER THE INPUT: true; the input reads as it did. -/
def mpwWritesSpec : ChangeSpec := { name := "mpwWrites", fn := fun _ => fun
  | [d] => { results := [.lit (.bool true)], args := [d] }
  | _ => none }
def mpwWritesRow : OpenClaim := { program := "ytpjlepkdiaohiaagreatdoor", sum := "9cefb8396492fc4934fab01d39ea19657d91c4e49f5a1c672fd073dc1a290abf", func := "targum/targumlaw15.MpwWrites", spec := "mpwWrites", inPlace := ["internal/bytealg.IndexByteString", "internal/bytealg.IndexString", "internal/abi.NoEscape", "internal/bytealg.MakeNoZero", "internal/reflectlite.TypeOf"], unfollowed := true, recurses := true, named := ["targum/tree.errTree", "targum/tree.errForm", "unicode/utf8.first", "unicode/utf8.acceptRanges", "strconv.ErrSyntax", "strconv.ErrRange", "internal/strconv.uint64pow10", "math/bits.deBruijn32tab", "math/bits.deBruijn64tab", "internal/bytealg.MaxLen"], loops := true, apart := false, laid := [("math/bits.deBruijn32tab", laid_math_bits_deBruijn32tab), ("math/bits.deBruijn64tab", laid_math_bits_deBruijn64tab), ("internal/strconv.uint64pow10", laid_internal_strconv_uint64pow10), ("unicode/utf8.acceptRanges", laid_unicode_utf8_acceptRanges), ("strconv.ErrRange", laid_strconv_ErrRange), ("strconv.ErrSyntax", laid_strconv_ErrSyntax), ("targum/tree.errTree", laid_targum_tree_errTree), ("targum/tree.errForm", laid_targum_tree_errForm), ("unicode/utf8.first", laid_unicode_utf8_first)] }
def MpwWritesSaid : Prop := mpwWritesRow.holds Tryz.pinned (OpenSpec.ofChange mpwWritesSpec)

/-- ITS FALSE NEIGHBOUR: 'it returns false'. Refute it at one input. -/
def mpwWritesWrong : ChangeSpec := { name := "mpwWrites", fn := fun _ => fun
  | [d] => { results := [.lit (.bool false)], args := [d] }
  | _ => none }
def MpwWritesWrongFalsely : Prop := mpwWritesRow.holds Tryz.pinned (OpenSpec.ofChange mpwWritesWrong)

/-- 'targumlaw15.MpwNumbers': WHATEVER THE INPUT: true; the input reads as it did. -/
def mpwNumbersSpec : ChangeSpec := { name := "mpwNumbers", fn := fun _ => fun
  | [d1, d2, d3] => { results := [.lit (.bool true)], args := [d1, d2, d3] }
  | _ => none }
def mpwNumbersRow : OpenClaim := { program := "ytpjlepkdiaohiaagreatdoor", sum := "9cefb8396492fc4934fab01d39ea19657d91c4e49f5a1c672fd073dc1a290abf", func := "targum/targumlaw15.MpwNumbers", spec := "mpwNumbers", inPlace := ["internal/bytealg.IndexByteString", "internal/bytealg.IndexString", "internal/abi.NoEscape", "internal/bytealg.MakeNoZero", "internal/reflectlite.TypeOf"], unfollowed := true, recurses := true, named := ["targum/tree.errTree", "targum/tree.errForm", "unicode/utf8.first", "unicode/utf8.acceptRanges", "strconv.ErrSyntax", "strconv.ErrRange", "internal/strconv.uint64pow10", "math/bits.deBruijn32tab", "math/bits.deBruijn64tab", "internal/bytealg.MaxLen"], apart := false, laid := [("math/bits.deBruijn32tab", laid_math_bits_deBruijn32tab), ("math/bits.deBruijn64tab", laid_math_bits_deBruijn64tab), ("internal/strconv.uint64pow10", laid_internal_strconv_uint64pow10), ("unicode/utf8.acceptRanges", laid_unicode_utf8_acceptRanges), ("strconv.ErrRange", laid_strconv_ErrRange), ("strconv.ErrSyntax", laid_strconv_ErrSyntax), ("targum/tree.errTree", laid_targum_tree_errTree), ("targum/tree.errForm", laid_targum_tree_errForm), ("unicode/utf8.first", laid_unicode_utf8_first)] }
def MpwNumbersSaid : Prop := mpwNumbersRow.holds Tryz.pinned (OpenSpec.ofChange mpwNumbersSpec)

/-- ITS FALSE NEIGHBOUR: 'it returns false'. Refute it at one input. -/
def mpwNumbersWrong : ChangeSpec := { name := "mpwNumbers", fn := fun _ => fun
  | [d1, d2, d3] => { results := [.lit (.bool false)], args := [d1, d2, d3] }
  | _ => none }
def MpwNumbersWrongFalsely : Prop := mpwNumbersRow.holds Tryz.pinned (OpenSpec.ofChange mpwNumbersWrong)

/-- 'targumlaw15.MpwSizes': WHATEVER THE INPUT: true; the input reads as it did. -/
def mpwSizesSpec : ChangeSpec := { name := "mpwSizes", fn := fun _ => fun
  | [d] => { results := [.lit (.bool true)], args := [d] }
  | _ => none }
def mpwSizesRow : OpenClaim := { program := "ytpjlepkdiaohiaagreatdoor", sum := "9cefb8396492fc4934fab01d39ea19657d91c4e49f5a1c672fd073dc1a290abf", func := "targum/targumlaw15.MpwSizes", spec := "mpwSizes", inPlace := ["internal/bytealg.IndexByteString", "internal/bytealg.IndexString", "internal/abi.NoEscape", "internal/bytealg.MakeNoZero", "internal/reflectlite.TypeOf"], unfollowed := true, recurses := true, named := ["targum/tree.errTree", "targum/tree.errForm", "unicode/utf8.first", "unicode/utf8.acceptRanges", "strconv.ErrSyntax", "strconv.ErrRange", "internal/strconv.uint64pow10", "math/bits.deBruijn32tab", "math/bits.deBruijn64tab", "internal/bytealg.MaxLen"], loops := true, apart := false, laid := [("math/bits.deBruijn32tab", laid_math_bits_deBruijn32tab), ("math/bits.deBruijn64tab", laid_math_bits_deBruijn64tab), ("internal/strconv.uint64pow10", laid_internal_strconv_uint64pow10), ("unicode/utf8.acceptRanges", laid_unicode_utf8_acceptRanges), ("strconv.ErrRange", laid_strconv_ErrRange), ("strconv.ErrSyntax", laid_strconv_ErrSyntax), ("targum/tree.errTree", laid_targum_tree_errTree), ("targum/tree.errForm", laid_targum_tree_errForm), ("unicode/utf8.first", laid_unicode_utf8_first)] }
def MpwSizesSaid : Prop := mpwSizesRow.holds Tryz.pinned (OpenSpec.ofChange mpwSizesSpec)

/-- ITS FALSE NEIGHBOUR: 'it returns false'. Refute it at one input. -/
def mpwSizesWrong : ChangeSpec := { name := "mpwSizes", fn := fun _ => fun
  | [d] => { results := [.lit (.bool false)], args := [d] }
  | _ => none }
def MpwSizesWrongFalsely : Prop := mpwSizesRow.holds Tryz.pinned (OpenSpec.ofChange mpwSizesWrong)

/-- 'targumlaw15.MpwTexts': WHATEVER THE INPUT: true; the input reads as it did. -/
def mpwTextsSpec : ChangeSpec := { name := "mpwTexts", fn := fun _ => fun
  | [d1, d2] => { results := [.lit (.bool true)], args := [d1, d2] }
  | _ => none }
def mpwTextsRow : OpenClaim := { program := "ytpjlepkdiaohiaagreatdoor", sum := "9cefb8396492fc4934fab01d39ea19657d91c4e49f5a1c672fd073dc1a290abf", func := "targum/targumlaw15.MpwTexts", spec := "mpwTexts", inPlace := ["internal/bytealg.IndexByteString", "internal/bytealg.IndexString", "internal/abi.NoEscape", "internal/bytealg.MakeNoZero", "internal/reflectlite.TypeOf"], unfollowed := true, recurses := true, named := ["targum/tree.errTree", "targum/tree.errForm", "unicode/utf8.first", "unicode/utf8.acceptRanges", "strconv.ErrSyntax", "strconv.ErrRange", "internal/strconv.uint64pow10", "math/bits.deBruijn32tab", "math/bits.deBruijn64tab", "internal/bytealg.MaxLen"], apart := false, laid := [("math/bits.deBruijn32tab", laid_math_bits_deBruijn32tab), ("math/bits.deBruijn64tab", laid_math_bits_deBruijn64tab), ("internal/strconv.uint64pow10", laid_internal_strconv_uint64pow10), ("unicode/utf8.acceptRanges", laid_unicode_utf8_acceptRanges), ("strconv.ErrRange", laid_strconv_ErrRange), ("strconv.ErrSyntax", laid_strconv_ErrSyntax), ("targum/tree.errTree", laid_targum_tree_errTree), ("targum/tree.errForm", laid_targum_tree_errForm), ("unicode/utf8.first", laid_unicode_utf8_first)] }
def MpwTextsSaid : Prop := mpwTextsRow.holds Tryz.pinned (OpenSpec.ofChange mpwTextsSpec)

/-- ITS FALSE NEIGHBOUR: 'it returns false'. Refute it at one input. -/
def mpwTextsWrong : ChangeSpec := { name := "mpwTexts", fn := fun _ => fun
  | [d1, d2] => { results := [.lit (.bool false)], args := [d1, d2] }
  | _ => none }
def MpwTextsWrongFalsely : Prop := mpwTextsRow.holds Tryz.pinned (OpenSpec.ofChange mpwTextsWrong)

/-- 'targumlaw14.MprFits': WHATEVER THE INPUT: true; the input reads as it did. -/
def mprFitsSpec : ChangeSpec := { name := "mprFits", fn := fun _ => fun
  | [d] => { results := [.lit (.bool true)], args := [d] }
  | _ => none }
def mprFitsRow : OpenClaim := { program := "ytpjlepkdiaohiaagreatdoor", sum := "9cefb8396492fc4934fab01d39ea19657d91c4e49f5a1c672fd073dc1a290abf", func := "targum/targumlaw14.MprFits", spec := "mprFits", inPlace := ["internal/bytealg.IndexByteString", "internal/bytealg.IndexString", "internal/reflectlite.TypeOf", "internal/abi.NoEscape", "internal/bytealg.MakeNoZero"], unfollowed := true, recurses := true, named := ["targum/mpr.errTree", "targum/mpr.errMore", "targum/mpr.errPack", "internal/strconv.uint64pow10", "math/bits.deBruijn32tab", "math/bits.deBruijn64tab", "unicode/utf8.first", "unicode/utf8.acceptRanges", "targum/tree.errTree", "targum/tree.errForm", "strconv.ErrSyntax", "strconv.ErrRange", "internal/bytealg.MaxLen"], apart := false, laid := [("math/bits.deBruijn32tab", laid_math_bits_deBruijn32tab), ("math/bits.deBruijn64tab", laid_math_bits_deBruijn64tab), ("internal/strconv.uint64pow10", laid_internal_strconv_uint64pow10), ("unicode/utf8.acceptRanges", laid_unicode_utf8_acceptRanges), ("strconv.ErrRange", laid_strconv_ErrRange), ("strconv.ErrSyntax", laid_strconv_ErrSyntax), ("targum/tree.errTree", laid_targum_tree_errTree), ("targum/tree.errForm", laid_targum_tree_errForm), ("targum/mpr.errMore", laid_targum_mpr_errMore), ("targum/mpr.errPack", laid_targum_mpr_errPack), ("targum/mpr.errTree", laid_targum_mpr_errTree), ("unicode/utf8.first", laid_unicode_utf8_first)] }
def MprFitsSaid : Prop := mprFitsRow.holds Tryz.pinned (OpenSpec.ofChange mprFitsSpec)

/-- ITS FALSE NEIGHBOUR: 'it returns false'. Refute it at one input. -/
def mprFitsWrong : ChangeSpec := { name := "mprFits", fn := fun _ => fun
  | [d] => { results := [.lit (.bool false)], args := [d] }
  | _ => none }
def MprFitsWrongFalsely : Prop := mprFitsRow.holds Tryz.pinned (OpenSpec.ofChange mprFitsWrong)

/-- 'targumlaw14.MprBehind': WHATEVER THE INPUT: true; the input reads as it did. -/
def mprBehindSpec : ChangeSpec := { name := "mprBehind", fn := fun _ => fun
  | [d1, d2, d3] => { results := [.lit (.bool true)], args := [d1, d2, d3] }
  | _ => none }
def mprBehindRow : OpenClaim := { program := "ytpjlepkdiaohiaagreatdoor", sum := "9cefb8396492fc4934fab01d39ea19657d91c4e49f5a1c672fd073dc1a290abf", func := "targum/targumlaw14.MprBehind", spec := "mprBehind", inPlace := ["internal/bytealg.IndexByteString", "internal/bytealg.IndexString", "internal/reflectlite.TypeOf", "internal/abi.NoEscape", "internal/bytealg.MakeNoZero"], unfollowed := true, recurses := true, named := ["targum/mpr.errTree", "targum/mpr.errMore", "targum/mpr.errPack", "internal/strconv.uint64pow10", "math/bits.deBruijn32tab", "math/bits.deBruijn64tab", "unicode/utf8.first", "unicode/utf8.acceptRanges", "targum/tree.errTree", "targum/tree.errForm", "strconv.ErrSyntax", "strconv.ErrRange", "internal/bytealg.MaxLen"], apart := false, laid := [("math/bits.deBruijn32tab", laid_math_bits_deBruijn32tab), ("math/bits.deBruijn64tab", laid_math_bits_deBruijn64tab), ("internal/strconv.uint64pow10", laid_internal_strconv_uint64pow10), ("unicode/utf8.acceptRanges", laid_unicode_utf8_acceptRanges), ("strconv.ErrRange", laid_strconv_ErrRange), ("strconv.ErrSyntax", laid_strconv_ErrSyntax), ("targum/tree.errTree", laid_targum_tree_errTree), ("targum/tree.errForm", laid_targum_tree_errForm), ("targum/mpr.errMore", laid_targum_mpr_errMore), ("targum/mpr.errPack", laid_targum_mpr_errPack), ("targum/mpr.errTree", laid_targum_mpr_errTree), ("unicode/utf8.first", laid_unicode_utf8_first)] }
def MprBehindSaid : Prop := mprBehindRow.holds Tryz.pinned (OpenSpec.ofChange mprBehindSpec)

/-- ITS FALSE NEIGHBOUR: 'it returns false'. Refute it at one input. -/
def mprBehindWrong : ChangeSpec := { name := "mprBehind", fn := fun _ => fun
  | [d1, d2, d3] => { results := [.lit (.bool false)], args := [d1, d2, d3] }
  | _ => none }
def MprBehindWrongFalsely : Prop := mprBehindRow.holds Tryz.pinned (OpenSpec.ofChange mprBehindWrong)

/-- 'targumlaw14.MprNumbers': WHATEVER THE INPUT: true; the input reads as it did. -/
def mprNumbersSpec : ChangeSpec := { name := "mprNumbers", fn := fun _ => fun
  | [d] => { results := [.lit (.bool true)], args := [d] }
  | _ => none }
def mprNumbersRow : OpenClaim := { program := "ytpjlepkdiaohiaagreatdoor", sum := "9cefb8396492fc4934fab01d39ea19657d91c4e49f5a1c672fd073dc1a290abf", func := "targum/targumlaw14.MprNumbers", spec := "mprNumbers", inPlace := ["internal/bytealg.IndexByteString", "internal/bytealg.IndexString", "internal/reflectlite.TypeOf", "internal/abi.NoEscape", "internal/bytealg.MakeNoZero"], unfollowed := true, recurses := true, named := ["targum/mpr.errTree", "targum/mpr.errMore", "targum/mpr.errPack", "internal/strconv.uint64pow10", "math/bits.deBruijn32tab", "math/bits.deBruijn64tab", "unicode/utf8.first", "unicode/utf8.acceptRanges", "targum/tree.errTree", "targum/tree.errForm", "strconv.ErrSyntax", "strconv.ErrRange", "internal/bytealg.MaxLen"], apart := false, laid := [("math/bits.deBruijn32tab", laid_math_bits_deBruijn32tab), ("math/bits.deBruijn64tab", laid_math_bits_deBruijn64tab), ("internal/strconv.uint64pow10", laid_internal_strconv_uint64pow10), ("unicode/utf8.acceptRanges", laid_unicode_utf8_acceptRanges), ("strconv.ErrRange", laid_strconv_ErrRange), ("strconv.ErrSyntax", laid_strconv_ErrSyntax), ("targum/tree.errTree", laid_targum_tree_errTree), ("targum/tree.errForm", laid_targum_tree_errForm), ("targum/mpr.errMore", laid_targum_mpr_errMore), ("targum/mpr.errPack", laid_targum_mpr_errPack), ("targum/mpr.errTree", laid_targum_mpr_errTree), ("unicode/utf8.first", laid_unicode_utf8_first)] }
def MprNumbersSaid : Prop := mprNumbersRow.holds Tryz.pinned (OpenSpec.ofChange mprNumbersSpec)

/-- ITS FALSE NEIGHBOUR: 'it returns false'. Refute it at one input. -/
def mprNumbersWrong : ChangeSpec := { name := "mprNumbers", fn := fun _ => fun
  | [d] => { results := [.lit (.bool false)], args := [d] }
  | _ => none }
def MprNumbersWrongFalsely : Prop := mprNumbersRow.holds Tryz.pinned (OpenSpec.ofChange mprNumbersWrong)

/-- 'targumlaw14.MprTexts': WHATEVER THE INPUT: true; the input reads as it did. -/
def mprTextsSpec : ChangeSpec := { name := "mprTexts", fn := fun _ => fun
  | [d1, d2] => { results := [.lit (.bool true)], args := [d1, d2] }
  | _ => none }
def mprTextsRow : OpenClaim := { program := "ytpjlepkdiaohiaagreatdoor", sum := "9cefb8396492fc4934fab01d39ea19657d91c4e49f5a1c672fd073dc1a290abf", func := "targum/targumlaw14.MprTexts", spec := "mprTexts", inPlace := ["internal/bytealg.IndexByteString", "internal/bytealg.IndexString", "internal/reflectlite.TypeOf", "internal/abi.NoEscape", "internal/bytealg.MakeNoZero"], unfollowed := true, recurses := true, named := ["targum/mpr.errTree", "targum/mpr.errMore", "targum/mpr.errPack", "internal/strconv.uint64pow10", "math/bits.deBruijn32tab", "math/bits.deBruijn64tab", "unicode/utf8.first", "unicode/utf8.acceptRanges", "targum/tree.errTree", "targum/tree.errForm", "strconv.ErrSyntax", "strconv.ErrRange", "internal/bytealg.MaxLen"], apart := false, laid := [("math/bits.deBruijn32tab", laid_math_bits_deBruijn32tab), ("math/bits.deBruijn64tab", laid_math_bits_deBruijn64tab), ("internal/strconv.uint64pow10", laid_internal_strconv_uint64pow10), ("unicode/utf8.acceptRanges", laid_unicode_utf8_acceptRanges), ("strconv.ErrRange", laid_strconv_ErrRange), ("strconv.ErrSyntax", laid_strconv_ErrSyntax), ("targum/tree.errTree", laid_targum_tree_errTree), ("targum/tree.errForm", laid_targum_tree_errForm), ("targum/mpr.errMore", laid_targum_mpr_errMore), ("targum/mpr.errPack", laid_targum_mpr_errPack), ("targum/mpr.errTree", laid_targum_mpr_errTree), ("unicode/utf8.first", laid_unicode_utf8_first)] }
def MprTextsSaid : Prop := mprTextsRow.holds Tryz.pinned (OpenSpec.ofChange mprTextsSpec)

/-- ITS FALSE NEIGHBOUR: 'it returns false'. Refute it at one input. -/
def mprTextsWrong : ChangeSpec := { name := "mprTexts", fn := fun _ => fun
  | [d1, d2] => { results := [.lit (.bool false)], args := [d1, d2] }
  | _ => none }
def MprTextsWrongFalsely : Prop := mprTextsRow.holds Tryz.pinned (OpenSpec.ofChange mprTextsWrong)

/-- 'targumlaw14.MprLists': WHATEVER THE INPUT: true; the input reads as it did. -/
def mprListsSpec : ChangeSpec := { name := "mprLists", fn := fun _ => fun
  | [d] => { results := [.lit (.bool true)], args := [d] }
  | _ => none }
def mprListsRow : OpenClaim := { program := "ytpjlepkdiaohiaagreatdoor", sum := "9cefb8396492fc4934fab01d39ea19657d91c4e49f5a1c672fd073dc1a290abf", func := "targum/targumlaw14.MprLists", spec := "mprLists", inPlace := ["internal/bytealg.IndexByteString", "internal/bytealg.IndexString", "internal/reflectlite.TypeOf", "internal/abi.NoEscape", "internal/bytealg.MakeNoZero"], unfollowed := true, recurses := true, named := ["targum/mpr.errTree", "targum/mpr.errMore", "targum/mpr.errPack", "internal/strconv.uint64pow10", "math/bits.deBruijn32tab", "math/bits.deBruijn64tab", "unicode/utf8.first", "unicode/utf8.acceptRanges", "targum/tree.errTree", "targum/tree.errForm", "strconv.ErrSyntax", "strconv.ErrRange", "internal/bytealg.MaxLen"], apart := false, laid := [("math/bits.deBruijn32tab", laid_math_bits_deBruijn32tab), ("math/bits.deBruijn64tab", laid_math_bits_deBruijn64tab), ("internal/strconv.uint64pow10", laid_internal_strconv_uint64pow10), ("unicode/utf8.acceptRanges", laid_unicode_utf8_acceptRanges), ("strconv.ErrRange", laid_strconv_ErrRange), ("strconv.ErrSyntax", laid_strconv_ErrSyntax), ("targum/tree.errTree", laid_targum_tree_errTree), ("targum/tree.errForm", laid_targum_tree_errForm), ("targum/mpr.errMore", laid_targum_mpr_errMore), ("targum/mpr.errPack", laid_targum_mpr_errPack), ("targum/mpr.errTree", laid_targum_mpr_errTree), ("unicode/utf8.first", laid_unicode_utf8_first)] }
def MprListsSaid : Prop := mprListsRow.holds Tryz.pinned (OpenSpec.ofChange mprListsSpec)

/-- ITS FALSE NEIGHBOUR: 'it returns false'. Refute it at one input. -/
def mprListsWrong : ChangeSpec := { name := "mprLists", fn := fun _ => fun
  | [d] => { results := [.lit (.bool false)], args := [d] }
  | _ => none }
def MprListsWrongFalsely : Prop := mprListsRow.holds Tryz.pinned (OpenSpec.ofChange mprListsWrong)

/-- 'targumlaw15.MpwBack': WHATEVER THE INPUT: true; the input reads as it did. -/
def mpwBackSpec : ChangeSpec := { name := "mpwBack", fn := fun _ => fun
  | [d1, d2] => { results := [.lit (.bool true)], args := [d1, d2] }
  | _ => none }
def mpwBackRow : OpenClaim := { program := "ytpjlepkdiaohiaagreatdoor", sum := "9cefb8396492fc4934fab01d39ea19657d91c4e49f5a1c672fd073dc1a290abf", func := "targum/targumlaw15.MpwBack", spec := "mpwBack", inPlace := ["internal/bytealg.IndexByteString", "internal/bytealg.IndexString", "internal/abi.NoEscape", "internal/bytealg.MakeNoZero", "internal/reflectlite.TypeOf"], unfollowed := true, recurses := true, named := ["targum/tree.errTree", "targum/tree.errForm", "unicode/utf8.first", "unicode/utf8.acceptRanges", "strconv.ErrSyntax", "strconv.ErrRange", "internal/strconv.uint64pow10", "math/bits.deBruijn32tab", "math/bits.deBruijn64tab", "targum/mpr.errTree", "targum/mpr.errMore", "targum/mpr.errPack", "internal/bytealg.MaxLen"], loops := true, apart := false, laid := [("math/bits.deBruijn32tab", laid_math_bits_deBruijn32tab), ("math/bits.deBruijn64tab", laid_math_bits_deBruijn64tab), ("internal/strconv.uint64pow10", laid_internal_strconv_uint64pow10), ("unicode/utf8.acceptRanges", laid_unicode_utf8_acceptRanges), ("strconv.ErrRange", laid_strconv_ErrRange), ("strconv.ErrSyntax", laid_strconv_ErrSyntax), ("targum/tree.errTree", laid_targum_tree_errTree), ("targum/tree.errForm", laid_targum_tree_errForm), ("targum/mpr.errMore", laid_targum_mpr_errMore), ("targum/mpr.errPack", laid_targum_mpr_errPack), ("targum/mpr.errTree", laid_targum_mpr_errTree), ("unicode/utf8.first", laid_unicode_utf8_first)] }
def MpwBackSaid : Prop := mpwBackRow.holds Tryz.pinned (OpenSpec.ofChange mpwBackSpec)

/-- ITS FALSE NEIGHBOUR: 'it returns false'. Refute it at one input. -/
def mpwBackWrong : ChangeSpec := { name := "mpwBack", fn := fun _ => fun
  | [d1, d2] => { results := [.lit (.bool false)], args := [d1, d2] }
  | _ => none }
def MpwBackWrongFalsely : Prop := mpwBackRow.holds Tryz.pinned (OpenSpec.ofChange mpwBackWrong)

/-- 'targumlaw15.MpwTurns': WHATEVER THE INPUT: true; the input reads as it did. -/
def mpwTurnsSpec : ChangeSpec := { name := "mpwTurns", fn := fun _ => fun
  | [d] => { results := [.lit (.bool true)], args := [d] }
  | _ => none }
def mpwTurnsRow : OpenClaim := { program := "ytpjlepkdiaohiaagreatdoor", sum := "9cefb8396492fc4934fab01d39ea19657d91c4e49f5a1c672fd073dc1a290abf", func := "targum/targumlaw15.MpwTurns", spec := "mpwTurns", inPlace := ["internal/bytealg.IndexByteString", "internal/bytealg.IndexString", "internal/abi.NoEscape", "internal/bytealg.MakeNoZero", "internal/reflectlite.TypeOf"], unfollowed := true, recurses := true, named := ["targum/tree.errTree", "targum/tree.errForm", "unicode/utf8.first", "unicode/utf8.acceptRanges", "strconv.ErrSyntax", "strconv.ErrRange", "internal/strconv.uint64pow10", "math/bits.deBruijn32tab", "math/bits.deBruijn64tab", "targum/mpr.errTree", "targum/mpr.errMore", "targum/mpr.errPack", "internal/bytealg.MaxLen"], apart := false, laid := [("math/bits.deBruijn32tab", laid_math_bits_deBruijn32tab), ("math/bits.deBruijn64tab", laid_math_bits_deBruijn64tab), ("internal/strconv.uint64pow10", laid_internal_strconv_uint64pow10), ("unicode/utf8.acceptRanges", laid_unicode_utf8_acceptRanges), ("strconv.ErrRange", laid_strconv_ErrRange), ("strconv.ErrSyntax", laid_strconv_ErrSyntax), ("targum/tree.errTree", laid_targum_tree_errTree), ("targum/tree.errForm", laid_targum_tree_errForm), ("targum/mpr.errMore", laid_targum_mpr_errMore), ("targum/mpr.errPack", laid_targum_mpr_errPack), ("targum/mpr.errTree", laid_targum_mpr_errTree), ("unicode/utf8.first", laid_unicode_utf8_first)] }
def MpwTurnsSaid : Prop := mpwTurnsRow.holds Tryz.pinned (OpenSpec.ofChange mpwTurnsSpec)

/-- ITS FALSE NEIGHBOUR: 'it returns false'. Refute it at one input. -/
def mpwTurnsWrong : ChangeSpec := { name := "mpwTurns", fn := fun _ => fun
  | [d] => { results := [.lit (.bool false)], args := [d] }
  | _ => none }
def MpwTurnsWrongFalsely : Prop := mpwTurnsRow.holds Tryz.pinned (OpenSpec.ofChange mpwTurnsWrong)

/- THE SECOND FORM. 'bulk': how many values and letters a reading holds, each counted each time it is reached (what is shared counts as often as it is met; a slice's spare places count too). A statement '..UptoSaid' is the law's where the arguments, and the package variables that the reading takes, are together of bulk at most 1048576: NARROWER than '..Said'. Prove '..Said' where nothing that the law and all that it calls make is longer than what came in: it says more and counts as full. Else prove '..UptoSaid'. A law counts once. -/
mutual
def uptoBulk {H : Type} : DataW H → Nat
  | .lit (.string bytes) => bytes.length + 1
  | .lit _ => 1
  | .nil => 1
  | .ptr d => uptoBulk d + 1
  | .slice elems spare => uptoBulkAll elems + uptoBulkAll spare + 1
  | .agg parts => uptoBulkAll parts + 1
  | .iface _ d => uptoBulk d + 1
  | .map entries => uptoBulkEntries entries + 1
  | .held _ => 1
def uptoBulkAll {H : Type} : List (DataW H) → Nat
  | [] => 0
  | d :: r => uptoBulk d + uptoBulkAll r
def uptoBulkEntries {H : Type} : List (Lit × DataW H) → Nat
  | [] => 0
  | x :: r => uptoBulkEntry x + uptoBulkEntries r
def uptoBulkEntry {H : Type} : Lit × DataW H → Nat
  | (.string bytes, d) => bytes.length + uptoBulk d + 1
  | (_, d) => uptoBulk d + 1
 end
def uptoSmall : (H : Type) → List (DataW H) → Bool := fun _ ds => decide (uptoBulkAll ds ≤ 1048576)
def OpenSpec.upto (s : _root_.Go.ChangeSpec) : _root_.Go.OpenSpec := { _root_.Go.OpenSpec.ofChange s with cond := some uptoSmall }

/-- 'targumlaw15.MpwApart', WHERE WHAT IT READS IS OF BULK AT MOST 1048576: true; the input reads as it did. -/
def mpwApartUptoRow : OpenClaim := { program := "ytpjlepkdiaohiaagreatdoor", sum := "9cefb8396492fc4934fab01d39ea19657d91c4e49f5a1c672fd073dc1a290abf", func := "targum/targumlaw15.MpwApart", spec := "mpwApart", inPlace := ["internal/bytealg.IndexByteString", "internal/bytealg.IndexString", "internal/abi.NoEscape", "internal/bytealg.MakeNoZero", "internal/reflectlite.TypeOf"], unfollowed := true, recurses := true, named := ["targum/tree.errTree", "targum/tree.errForm", "unicode/utf8.first", "unicode/utf8.acceptRanges", "strconv.ErrSyntax", "strconv.ErrRange", "internal/strconv.uint64pow10", "math/bits.deBruijn32tab", "math/bits.deBruijn64tab", "internal/bytealg.MaxLen"], loops := true, apart := false, laid := [("math/bits.deBruijn32tab", laid_math_bits_deBruijn32tab), ("math/bits.deBruijn64tab", laid_math_bits_deBruijn64tab), ("internal/strconv.uint64pow10", laid_internal_strconv_uint64pow10), ("unicode/utf8.acceptRanges", laid_unicode_utf8_acceptRanges), ("strconv.ErrRange", laid_strconv_ErrRange), ("strconv.ErrSyntax", laid_strconv_ErrSyntax), ("targum/tree.errTree", laid_targum_tree_errTree), ("targum/tree.errForm", laid_targum_tree_errForm), ("unicode/utf8.first", laid_unicode_utf8_first)], narrowed := true }
def MpwApartUptoSaid : Prop := mpwApartUptoRow.holds Tryz.pinned (OpenSpec.upto mpwApartSpec)

/-- 'targumlaw15.MpwWrites', WHERE WHAT IT READS IS OF BULK AT MOST 1048576: true; the input reads as it did. -/
def mpwWritesUptoRow : OpenClaim := { program := "ytpjlepkdiaohiaagreatdoor", sum := "9cefb8396492fc4934fab01d39ea19657d91c4e49f5a1c672fd073dc1a290abf", func := "targum/targumlaw15.MpwWrites", spec := "mpwWrites", inPlace := ["internal/bytealg.IndexByteString", "internal/bytealg.IndexString", "internal/abi.NoEscape", "internal/bytealg.MakeNoZero", "internal/reflectlite.TypeOf"], unfollowed := true, recurses := true, named := ["targum/tree.errTree", "targum/tree.errForm", "unicode/utf8.first", "unicode/utf8.acceptRanges", "strconv.ErrSyntax", "strconv.ErrRange", "internal/strconv.uint64pow10", "math/bits.deBruijn32tab", "math/bits.deBruijn64tab", "internal/bytealg.MaxLen"], loops := true, apart := false, laid := [("math/bits.deBruijn32tab", laid_math_bits_deBruijn32tab), ("math/bits.deBruijn64tab", laid_math_bits_deBruijn64tab), ("internal/strconv.uint64pow10", laid_internal_strconv_uint64pow10), ("unicode/utf8.acceptRanges", laid_unicode_utf8_acceptRanges), ("strconv.ErrRange", laid_strconv_ErrRange), ("strconv.ErrSyntax", laid_strconv_ErrSyntax), ("targum/tree.errTree", laid_targum_tree_errTree), ("targum/tree.errForm", laid_targum_tree_errForm), ("unicode/utf8.first", laid_unicode_utf8_first)], narrowed := true }
def MpwWritesUptoSaid : Prop := mpwWritesUptoRow.holds Tryz.pinned (OpenSpec.upto mpwWritesSpec)

/-- 'targumlaw15.MpwNumbers', WHERE WHAT IT READS IS OF BULK AT MOST 1048576: true; the input reads as it did. -/
def mpwNumbersUptoRow : OpenClaim := { program := "ytpjlepkdiaohiaagreatdoor", sum := "9cefb8396492fc4934fab01d39ea19657d91c4e49f5a1c672fd073dc1a290abf", func := "targum/targumlaw15.MpwNumbers", spec := "mpwNumbers", inPlace := ["internal/bytealg.IndexByteString", "internal/bytealg.IndexString", "internal/abi.NoEscape", "internal/bytealg.MakeNoZero", "internal/reflectlite.TypeOf"], unfollowed := true, recurses := true, named := ["targum/tree.errTree", "targum/tree.errForm", "unicode/utf8.first", "unicode/utf8.acceptRanges", "strconv.ErrSyntax", "strconv.ErrRange", "internal/strconv.uint64pow10", "math/bits.deBruijn32tab", "math/bits.deBruijn64tab", "internal/bytealg.MaxLen"], apart := false, laid := [("math/bits.deBruijn32tab", laid_math_bits_deBruijn32tab), ("math/bits.deBruijn64tab", laid_math_bits_deBruijn64tab), ("internal/strconv.uint64pow10", laid_internal_strconv_uint64pow10), ("unicode/utf8.acceptRanges", laid_unicode_utf8_acceptRanges), ("strconv.ErrRange", laid_strconv_ErrRange), ("strconv.ErrSyntax", laid_strconv_ErrSyntax), ("targum/tree.errTree", laid_targum_tree_errTree), ("targum/tree.errForm", laid_targum_tree_errForm), ("unicode/utf8.first", laid_unicode_utf8_first)], narrowed := true }
def MpwNumbersUptoSaid : Prop := mpwNumbersUptoRow.holds Tryz.pinned (OpenSpec.upto mpwNumbersSpec)

/-- 'targumlaw15.MpwSizes', WHERE WHAT IT READS IS OF BULK AT MOST 1048576: true; the input reads as it did. -/
def mpwSizesUptoRow : OpenClaim := { program := "ytpjlepkdiaohiaagreatdoor", sum := "9cefb8396492fc4934fab01d39ea19657d91c4e49f5a1c672fd073dc1a290abf", func := "targum/targumlaw15.MpwSizes", spec := "mpwSizes", inPlace := ["internal/bytealg.IndexByteString", "internal/bytealg.IndexString", "internal/abi.NoEscape", "internal/bytealg.MakeNoZero", "internal/reflectlite.TypeOf"], unfollowed := true, recurses := true, named := ["targum/tree.errTree", "targum/tree.errForm", "unicode/utf8.first", "unicode/utf8.acceptRanges", "strconv.ErrSyntax", "strconv.ErrRange", "internal/strconv.uint64pow10", "math/bits.deBruijn32tab", "math/bits.deBruijn64tab", "internal/bytealg.MaxLen"], loops := true, apart := false, laid := [("math/bits.deBruijn32tab", laid_math_bits_deBruijn32tab), ("math/bits.deBruijn64tab", laid_math_bits_deBruijn64tab), ("internal/strconv.uint64pow10", laid_internal_strconv_uint64pow10), ("unicode/utf8.acceptRanges", laid_unicode_utf8_acceptRanges), ("strconv.ErrRange", laid_strconv_ErrRange), ("strconv.ErrSyntax", laid_strconv_ErrSyntax), ("targum/tree.errTree", laid_targum_tree_errTree), ("targum/tree.errForm", laid_targum_tree_errForm), ("unicode/utf8.first", laid_unicode_utf8_first)], narrowed := true }
def MpwSizesUptoSaid : Prop := mpwSizesUptoRow.holds Tryz.pinned (OpenSpec.upto mpwSizesSpec)

/-- 'targumlaw15.MpwTexts', WHERE WHAT IT READS IS OF BULK AT MOST 1048576: true; the input reads as it did. -/
def mpwTextsUptoRow : OpenClaim := { program := "ytpjlepkdiaohiaagreatdoor", sum := "9cefb8396492fc4934fab01d39ea19657d91c4e49f5a1c672fd073dc1a290abf", func := "targum/targumlaw15.MpwTexts", spec := "mpwTexts", inPlace := ["internal/bytealg.IndexByteString", "internal/bytealg.IndexString", "internal/abi.NoEscape", "internal/bytealg.MakeNoZero", "internal/reflectlite.TypeOf"], unfollowed := true, recurses := true, named := ["targum/tree.errTree", "targum/tree.errForm", "unicode/utf8.first", "unicode/utf8.acceptRanges", "strconv.ErrSyntax", "strconv.ErrRange", "internal/strconv.uint64pow10", "math/bits.deBruijn32tab", "math/bits.deBruijn64tab", "internal/bytealg.MaxLen"], apart := false, laid := [("math/bits.deBruijn32tab", laid_math_bits_deBruijn32tab), ("math/bits.deBruijn64tab", laid_math_bits_deBruijn64tab), ("internal/strconv.uint64pow10", laid_internal_strconv_uint64pow10), ("unicode/utf8.acceptRanges", laid_unicode_utf8_acceptRanges), ("strconv.ErrRange", laid_strconv_ErrRange), ("strconv.ErrSyntax", laid_strconv_ErrSyntax), ("targum/tree.errTree", laid_targum_tree_errTree), ("targum/tree.errForm", laid_targum_tree_errForm), ("unicode/utf8.first", laid_unicode_utf8_first)], narrowed := true }
def MpwTextsUptoSaid : Prop := mpwTextsUptoRow.holds Tryz.pinned (OpenSpec.upto mpwTextsSpec)

/-- 'targumlaw14.MprFits', WHERE WHAT IT READS IS OF BULK AT MOST 1048576: true; the input reads as it did. -/
def mprFitsUptoRow : OpenClaim := { program := "ytpjlepkdiaohiaagreatdoor", sum := "9cefb8396492fc4934fab01d39ea19657d91c4e49f5a1c672fd073dc1a290abf", func := "targum/targumlaw14.MprFits", spec := "mprFits", inPlace := ["internal/bytealg.IndexByteString", "internal/bytealg.IndexString", "internal/reflectlite.TypeOf", "internal/abi.NoEscape", "internal/bytealg.MakeNoZero"], unfollowed := true, recurses := true, named := ["targum/mpr.errTree", "targum/mpr.errMore", "targum/mpr.errPack", "internal/strconv.uint64pow10", "math/bits.deBruijn32tab", "math/bits.deBruijn64tab", "unicode/utf8.first", "unicode/utf8.acceptRanges", "targum/tree.errTree", "targum/tree.errForm", "strconv.ErrSyntax", "strconv.ErrRange", "internal/bytealg.MaxLen"], apart := false, laid := [("math/bits.deBruijn32tab", laid_math_bits_deBruijn32tab), ("math/bits.deBruijn64tab", laid_math_bits_deBruijn64tab), ("internal/strconv.uint64pow10", laid_internal_strconv_uint64pow10), ("unicode/utf8.acceptRanges", laid_unicode_utf8_acceptRanges), ("strconv.ErrRange", laid_strconv_ErrRange), ("strconv.ErrSyntax", laid_strconv_ErrSyntax), ("targum/tree.errTree", laid_targum_tree_errTree), ("targum/tree.errForm", laid_targum_tree_errForm), ("targum/mpr.errMore", laid_targum_mpr_errMore), ("targum/mpr.errPack", laid_targum_mpr_errPack), ("targum/mpr.errTree", laid_targum_mpr_errTree), ("unicode/utf8.first", laid_unicode_utf8_first)], narrowed := true }
def MprFitsUptoSaid : Prop := mprFitsUptoRow.holds Tryz.pinned (OpenSpec.upto mprFitsSpec)

/-- 'targumlaw14.MprBehind', WHERE WHAT IT READS IS OF BULK AT MOST 1048576: true; the input reads as it did. -/
def mprBehindUptoRow : OpenClaim := { program := "ytpjlepkdiaohiaagreatdoor", sum := "9cefb8396492fc4934fab01d39ea19657d91c4e49f5a1c672fd073dc1a290abf", func := "targum/targumlaw14.MprBehind", spec := "mprBehind", inPlace := ["internal/bytealg.IndexByteString", "internal/bytealg.IndexString", "internal/reflectlite.TypeOf", "internal/abi.NoEscape", "internal/bytealg.MakeNoZero"], unfollowed := true, recurses := true, named := ["targum/mpr.errTree", "targum/mpr.errMore", "targum/mpr.errPack", "internal/strconv.uint64pow10", "math/bits.deBruijn32tab", "math/bits.deBruijn64tab", "unicode/utf8.first", "unicode/utf8.acceptRanges", "targum/tree.errTree", "targum/tree.errForm", "strconv.ErrSyntax", "strconv.ErrRange", "internal/bytealg.MaxLen"], apart := false, laid := [("math/bits.deBruijn32tab", laid_math_bits_deBruijn32tab), ("math/bits.deBruijn64tab", laid_math_bits_deBruijn64tab), ("internal/strconv.uint64pow10", laid_internal_strconv_uint64pow10), ("unicode/utf8.acceptRanges", laid_unicode_utf8_acceptRanges), ("strconv.ErrRange", laid_strconv_ErrRange), ("strconv.ErrSyntax", laid_strconv_ErrSyntax), ("targum/tree.errTree", laid_targum_tree_errTree), ("targum/tree.errForm", laid_targum_tree_errForm), ("targum/mpr.errMore", laid_targum_mpr_errMore), ("targum/mpr.errPack", laid_targum_mpr_errPack), ("targum/mpr.errTree", laid_targum_mpr_errTree), ("unicode/utf8.first", laid_unicode_utf8_first)], narrowed := true }
def MprBehindUptoSaid : Prop := mprBehindUptoRow.holds Tryz.pinned (OpenSpec.upto mprBehindSpec)

/-- 'targumlaw14.MprNumbers', WHERE WHAT IT READS IS OF BULK AT MOST 1048576: true; the input reads as it did. -/
def mprNumbersUptoRow : OpenClaim := { program := "ytpjlepkdiaohiaagreatdoor", sum := "9cefb8396492fc4934fab01d39ea19657d91c4e49f5a1c672fd073dc1a290abf", func := "targum/targumlaw14.MprNumbers", spec := "mprNumbers", inPlace := ["internal/bytealg.IndexByteString", "internal/bytealg.IndexString", "internal/reflectlite.TypeOf", "internal/abi.NoEscape", "internal/bytealg.MakeNoZero"], unfollowed := true, recurses := true, named := ["targum/mpr.errTree", "targum/mpr.errMore", "targum/mpr.errPack", "internal/strconv.uint64pow10", "math/bits.deBruijn32tab", "math/bits.deBruijn64tab", "unicode/utf8.first", "unicode/utf8.acceptRanges", "targum/tree.errTree", "targum/tree.errForm", "strconv.ErrSyntax", "strconv.ErrRange", "internal/bytealg.MaxLen"], apart := false, laid := [("math/bits.deBruijn32tab", laid_math_bits_deBruijn32tab), ("math/bits.deBruijn64tab", laid_math_bits_deBruijn64tab), ("internal/strconv.uint64pow10", laid_internal_strconv_uint64pow10), ("unicode/utf8.acceptRanges", laid_unicode_utf8_acceptRanges), ("strconv.ErrRange", laid_strconv_ErrRange), ("strconv.ErrSyntax", laid_strconv_ErrSyntax), ("targum/tree.errTree", laid_targum_tree_errTree), ("targum/tree.errForm", laid_targum_tree_errForm), ("targum/mpr.errMore", laid_targum_mpr_errMore), ("targum/mpr.errPack", laid_targum_mpr_errPack), ("targum/mpr.errTree", laid_targum_mpr_errTree), ("unicode/utf8.first", laid_unicode_utf8_first)], narrowed := true }
def MprNumbersUptoSaid : Prop := mprNumbersUptoRow.holds Tryz.pinned (OpenSpec.upto mprNumbersSpec)

/-- 'targumlaw14.MprTexts', WHERE WHAT IT READS IS OF BULK AT MOST 1048576: true; the input reads as it did. -/
def mprTextsUptoRow : OpenClaim := { program := "ytpjlepkdiaohiaagreatdoor", sum := "9cefb8396492fc4934fab01d39ea19657d91c4e49f5a1c672fd073dc1a290abf", func := "targum/targumlaw14.MprTexts", spec := "mprTexts", inPlace := ["internal/bytealg.IndexByteString", "internal/bytealg.IndexString", "internal/reflectlite.TypeOf", "internal/abi.NoEscape", "internal/bytealg.MakeNoZero"], unfollowed := true, recurses := true, named := ["targum/mpr.errTree", "targum/mpr.errMore", "targum/mpr.errPack", "internal/strconv.uint64pow10", "math/bits.deBruijn32tab", "math/bits.deBruijn64tab", "unicode/utf8.first", "unicode/utf8.acceptRanges", "targum/tree.errTree", "targum/tree.errForm", "strconv.ErrSyntax", "strconv.ErrRange", "internal/bytealg.MaxLen"], apart := false, laid := [("math/bits.deBruijn32tab", laid_math_bits_deBruijn32tab), ("math/bits.deBruijn64tab", laid_math_bits_deBruijn64tab), ("internal/strconv.uint64pow10", laid_internal_strconv_uint64pow10), ("unicode/utf8.acceptRanges", laid_unicode_utf8_acceptRanges), ("strconv.ErrRange", laid_strconv_ErrRange), ("strconv.ErrSyntax", laid_strconv_ErrSyntax), ("targum/tree.errTree", laid_targum_tree_errTree), ("targum/tree.errForm", laid_targum_tree_errForm), ("targum/mpr.errMore", laid_targum_mpr_errMore), ("targum/mpr.errPack", laid_targum_mpr_errPack), ("targum/mpr.errTree", laid_targum_mpr_errTree), ("unicode/utf8.first", laid_unicode_utf8_first)], narrowed := true }
def MprTextsUptoSaid : Prop := mprTextsUptoRow.holds Tryz.pinned (OpenSpec.upto mprTextsSpec)

/-- 'targumlaw14.MprLists', WHERE WHAT IT READS IS OF BULK AT MOST 1048576: true; the input reads as it did. -/
def mprListsUptoRow : OpenClaim := { program := "ytpjlepkdiaohiaagreatdoor", sum := "9cefb8396492fc4934fab01d39ea19657d91c4e49f5a1c672fd073dc1a290abf", func := "targum/targumlaw14.MprLists", spec := "mprLists", inPlace := ["internal/bytealg.IndexByteString", "internal/bytealg.IndexString", "internal/reflectlite.TypeOf", "internal/abi.NoEscape", "internal/bytealg.MakeNoZero"], unfollowed := true, recurses := true, named := ["targum/mpr.errTree", "targum/mpr.errMore", "targum/mpr.errPack", "internal/strconv.uint64pow10", "math/bits.deBruijn32tab", "math/bits.deBruijn64tab", "unicode/utf8.first", "unicode/utf8.acceptRanges", "targum/tree.errTree", "targum/tree.errForm", "strconv.ErrSyntax", "strconv.ErrRange", "internal/bytealg.MaxLen"], apart := false, laid := [("math/bits.deBruijn32tab", laid_math_bits_deBruijn32tab), ("math/bits.deBruijn64tab", laid_math_bits_deBruijn64tab), ("internal/strconv.uint64pow10", laid_internal_strconv_uint64pow10), ("unicode/utf8.acceptRanges", laid_unicode_utf8_acceptRanges), ("strconv.ErrRange", laid_strconv_ErrRange), ("strconv.ErrSyntax", laid_strconv_ErrSyntax), ("targum/tree.errTree", laid_targum_tree_errTree), ("targum/tree.errForm", laid_targum_tree_errForm), ("targum/mpr.errMore", laid_targum_mpr_errMore), ("targum/mpr.errPack", laid_targum_mpr_errPack), ("targum/mpr.errTree", laid_targum_mpr_errTree), ("unicode/utf8.first", laid_unicode_utf8_first)], narrowed := true }
def MprListsUptoSaid : Prop := mprListsUptoRow.holds Tryz.pinned (OpenSpec.upto mprListsSpec)

/-- 'targumlaw15.MpwBack', WHERE WHAT IT READS IS OF BULK AT MOST 1048576: true; the input reads as it did. -/
def mpwBackUptoRow : OpenClaim := { program := "ytpjlepkdiaohiaagreatdoor", sum := "9cefb8396492fc4934fab01d39ea19657d91c4e49f5a1c672fd073dc1a290abf", func := "targum/targumlaw15.MpwBack", spec := "mpwBack", inPlace := ["internal/bytealg.IndexByteString", "internal/bytealg.IndexString", "internal/abi.NoEscape", "internal/bytealg.MakeNoZero", "internal/reflectlite.TypeOf"], unfollowed := true, recurses := true, named := ["targum/tree.errTree", "targum/tree.errForm", "unicode/utf8.first", "unicode/utf8.acceptRanges", "strconv.ErrSyntax", "strconv.ErrRange", "internal/strconv.uint64pow10", "math/bits.deBruijn32tab", "math/bits.deBruijn64tab", "targum/mpr.errTree", "targum/mpr.errMore", "targum/mpr.errPack", "internal/bytealg.MaxLen"], loops := true, apart := false, laid := [("math/bits.deBruijn32tab", laid_math_bits_deBruijn32tab), ("math/bits.deBruijn64tab", laid_math_bits_deBruijn64tab), ("internal/strconv.uint64pow10", laid_internal_strconv_uint64pow10), ("unicode/utf8.acceptRanges", laid_unicode_utf8_acceptRanges), ("strconv.ErrRange", laid_strconv_ErrRange), ("strconv.ErrSyntax", laid_strconv_ErrSyntax), ("targum/tree.errTree", laid_targum_tree_errTree), ("targum/tree.errForm", laid_targum_tree_errForm), ("targum/mpr.errMore", laid_targum_mpr_errMore), ("targum/mpr.errPack", laid_targum_mpr_errPack), ("targum/mpr.errTree", laid_targum_mpr_errTree), ("unicode/utf8.first", laid_unicode_utf8_first)], narrowed := true }
def MpwBackUptoSaid : Prop := mpwBackUptoRow.holds Tryz.pinned (OpenSpec.upto mpwBackSpec)

/-- 'targumlaw15.MpwTurns', WHERE WHAT IT READS IS OF BULK AT MOST 1048576: true; the input reads as it did. -/
def mpwTurnsUptoRow : OpenClaim := { program := "ytpjlepkdiaohiaagreatdoor", sum := "9cefb8396492fc4934fab01d39ea19657d91c4e49f5a1c672fd073dc1a290abf", func := "targum/targumlaw15.MpwTurns", spec := "mpwTurns", inPlace := ["internal/bytealg.IndexByteString", "internal/bytealg.IndexString", "internal/abi.NoEscape", "internal/bytealg.MakeNoZero", "internal/reflectlite.TypeOf"], unfollowed := true, recurses := true, named := ["targum/tree.errTree", "targum/tree.errForm", "unicode/utf8.first", "unicode/utf8.acceptRanges", "strconv.ErrSyntax", "strconv.ErrRange", "internal/strconv.uint64pow10", "math/bits.deBruijn32tab", "math/bits.deBruijn64tab", "targum/mpr.errTree", "targum/mpr.errMore", "targum/mpr.errPack", "internal/bytealg.MaxLen"], apart := false, laid := [("math/bits.deBruijn32tab", laid_math_bits_deBruijn32tab), ("math/bits.deBruijn64tab", laid_math_bits_deBruijn64tab), ("internal/strconv.uint64pow10", laid_internal_strconv_uint64pow10), ("unicode/utf8.acceptRanges", laid_unicode_utf8_acceptRanges), ("strconv.ErrRange", laid_strconv_ErrRange), ("strconv.ErrSyntax", laid_strconv_ErrSyntax), ("targum/tree.errTree", laid_targum_tree_errTree), ("targum/tree.errForm", laid_targum_tree_errForm), ("targum/mpr.errMore", laid_targum_mpr_errMore), ("targum/mpr.errPack", laid_targum_mpr_errPack), ("targum/mpr.errTree", laid_targum_mpr_errTree), ("unicode/utf8.first", laid_unicode_utf8_first)], narrowed := true }
def MpwTurnsUptoSaid : Prop := mpwTurnsUptoRow.holds Tryz.pinned (OpenSpec.upto mpwTurnsSpec)

end Rows
end Go.Proofs.YtpjlepkdiaohiaaGreatDoor
