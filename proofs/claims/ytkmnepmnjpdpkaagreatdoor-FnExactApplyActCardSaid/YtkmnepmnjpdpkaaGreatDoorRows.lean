/-
  NARROWER THAN 'FOR EVERY INPUT', by the rows' own cells (each row's printed sentence says how): FnBufferAfter: laid · FnRunActsLoad: laid · FnApplyAct: laid · FnApplyActOpen: laid · FnFormatAct: laid · FnParseAct: laid · FnActsIn: laid · FnRunActs: laid · FnExactBufferAfter: laid · FnExactApplyAct: laid · FnExactRunActs: laid.
  DERIVED. THE GIVEN ROWS OF THIS SEAT. 11 by the template 'for every input the law returns true; each argument reads behind the call as it read before'; 0 by the template 'total and deterministic' (their statements: YtkmnepmnjpdpkaaGreatDoorTotals.lean).
  GIVEN WITH THE SEED: the statements are not yours to turn. If you find one false, say at which input.
  Laid BY PROGRAM, IN A SANDBOX (cutbox-rows.mjs): the forced cells as the released guide's own fill.sh prints them over the translation 7d2ee5a4eeb87f1e… (all of the seat's roots in one cut). By AI agents, Wed Nov 11 2026. No macro, syntax, notation, axiom, sorry.
-/
import Derived.Test.YtkmnepmnjpdpkaaGreatDoorChecked
import GoSem.PinnedTables
import GoSem.Claim
import GoSem.ClaimJoined
import GoSem.ClaimMapViews
import Derived.JoinedTies
import Derived.KernelRfl
namespace Go.Proofs.YtkmnepmnjpdpkaaGreatDoor
/- THE CELL 'sum', in the pinned program and in every row, IS THE sha256 OF THE DUMP (.gsa) THAT YtkmnepmnjpdpkaaGreatDoorProg.lean LOADS. Nothing in Lean hashes anything: it is a label: what it is worth is what the hold of that sum in a sandbox is worth. -/
noncomputable def Tryz.pinned : Pinned := { name := "ytkmnepmnjpdpkaagreatdoor", sum := "7d2ee5a4eeb87f1e1400c1ec3ca14ffc7f97390108613f63fee52b3f8c2d91fd", checked := Tryz.checked }
namespace Rows
def none {H : Type} : Left H := { results := [], args := [] }

/- WHAT THE LISTED PACKAGE-LEVEL VARIABLES READ AS WHEN THE CALL BEGINS. Each datum BY PROGRAM (the guide's laid-datum.mjs) off the statement by which the dump's own 'gosem.cut.vars' lays the variable. In a bare row this is a premise. The card (YtkmnepmnjpdpkaaGreatDoorCards.lean) ties it to the program's text. -/
def laid_math_bits_deBruijn32tab {H : Type} : DataW H := .agg [.lit (.int .u8 0), .lit (.int .u8 1), .lit (.int .u8 28), .lit (.int .u8 2), .lit (.int .u8 29), .lit (.int .u8 14), .lit (.int .u8 24), .lit (.int .u8 3), .lit (.int .u8 30), .lit (.int .u8 22), .lit (.int .u8 20), .lit (.int .u8 15), .lit (.int .u8 25), .lit (.int .u8 17), .lit (.int .u8 4), .lit (.int .u8 8), .lit (.int .u8 31), .lit (.int .u8 27), .lit (.int .u8 13), .lit (.int .u8 23), .lit (.int .u8 21), .lit (.int .u8 19), .lit (.int .u8 16), .lit (.int .u8 7), .lit (.int .u8 26), .lit (.int .u8 12), .lit (.int .u8 18), .lit (.int .u8 6), .lit (.int .u8 11), .lit (.int .u8 5), .lit (.int .u8 10), .lit (.int .u8 9)]
def laid_math_bits_deBruijn64tab {H : Type} : DataW H := .agg [.lit (.int .u8 0), .lit (.int .u8 1), .lit (.int .u8 56), .lit (.int .u8 2), .lit (.int .u8 57), .lit (.int .u8 49), .lit (.int .u8 28), .lit (.int .u8 3), .lit (.int .u8 61), .lit (.int .u8 58), .lit (.int .u8 42), .lit (.int .u8 50), .lit (.int .u8 38), .lit (.int .u8 29), .lit (.int .u8 17), .lit (.int .u8 4), .lit (.int .u8 62), .lit (.int .u8 47), .lit (.int .u8 59), .lit (.int .u8 36), .lit (.int .u8 45), .lit (.int .u8 43), .lit (.int .u8 51), .lit (.int .u8 22), .lit (.int .u8 53), .lit (.int .u8 39), .lit (.int .u8 33), .lit (.int .u8 30), .lit (.int .u8 24), .lit (.int .u8 18), .lit (.int .u8 12), .lit (.int .u8 5), .lit (.int .u8 63), .lit (.int .u8 55), .lit (.int .u8 48), .lit (.int .u8 27), .lit (.int .u8 60), .lit (.int .u8 41), .lit (.int .u8 37), .lit (.int .u8 16), .lit (.int .u8 46), .lit (.int .u8 35), .lit (.int .u8 44), .lit (.int .u8 21), .lit (.int .u8 52), .lit (.int .u8 32), .lit (.int .u8 23), .lit (.int .u8 11), .lit (.int .u8 54), .lit (.int .u8 26), .lit (.int .u8 40), .lit (.int .u8 15), .lit (.int .u8 34), .lit (.int .u8 20), .lit (.int .u8 31), .lit (.int .u8 10), .lit (.int .u8 25), .lit (.int .u8 14), .lit (.int .u8 19), .lit (.int .u8 9), .lit (.int .u8 13), .lit (.int .u8 8), .lit (.int .u8 7), .lit (.int .u8 6)]
def laid_internal_strconv_uint64pow10 {H : Type} : DataW H := .agg [.lit (.int .u64 1), .lit (.int .u64 10), .lit (.int .u64 100), .lit (.int .u64 1000), .lit (.int .u64 10000), .lit (.int .u64 100000), .lit (.int .u64 1000000), .lit (.int .u64 10000000), .lit (.int .u64 100000000), .lit (.int .u64 1000000000), .lit (.int .u64 10000000000), .lit (.int .u64 100000000000), .lit (.int .u64 1000000000000), .lit (.int .u64 10000000000000), .lit (.int .u64 100000000000000), .lit (.int .u64 1000000000000000), .lit (.int .u64 10000000000000000), .lit (.int .u64 100000000000000000), .lit (.int .u64 1000000000000000000), .lit (.int .u64 10000000000000000000)]
def laid_unicode_utf8_acceptRanges {H : Type} : DataW H := .agg [.agg [.lit (.int .u8 128), .lit (.int .u8 191)], .agg [.lit (.int .u8 160), .lit (.int .u8 191)], .agg [.lit (.int .u8 128), .lit (.int .u8 159)], .agg [.lit (.int .u8 144), .lit (.int .u8 191)], .agg [.lit (.int .u8 128), .lit (.int .u8 143)], .agg [.lit (.int .u8 0), .lit (.int .u8 0)], .agg [.lit (.int .u8 0), .lit (.int .u8 0)], .agg [.lit (.int .u8 0), .lit (.int .u8 0)], .agg [.lit (.int .u8 0), .lit (.int .u8 0)], .agg [.lit (.int .u8 0), .lit (.int .u8 0)], .agg [.lit (.int .u8 0), .lit (.int .u8 0)], .agg [.lit (.int .u8 0), .lit (.int .u8 0)], .agg [.lit (.int .u8 0), .lit (.int .u8 0)], .agg [.lit (.int .u8 0), .lit (.int .u8 0)], .agg [.lit (.int .u8 0), .lit (.int .u8 0)], .agg [.lit (.int .u8 0), .lit (.int .u8 0)]]
def laid_strconv_ErrRange {H : Type} : DataW H := .iface "*errors.errorString" (.ptr (.agg [.lit (.string [118, 97, 108, 117, 101, 32, 111, 117, 116, 32, 111, 102, 32, 114, 97, 110, 103, 101])]))
def laid_strconv_ErrSyntax {H : Type} : DataW H := .iface "*errors.errorString" (.ptr (.agg [.lit (.string [105, 110, 118, 97, 108, 105, 100, 32, 115, 121, 110, 116, 97, 120])]))
def laid_loop_example_strideviews_impl_actNames {H : Type} : DataW H := .agg [.lit (.string [115, 105, 122, 101]), .lit (.string [118, 105, 101, 119]), .lit (.string [112, 97, 114, 116]), .lit (.string [102, 108, 105, 112]), .lit (.string [102, 105, 108, 108]), .lit (.string [99, 111, 112, 121]), .lit (.string [108, 111, 97, 100]), .lit (.string [102, 114, 101, 101])]
def laid_loop_example_strideviews_impl_actCounts {H : Type} : DataW H := .agg [.lit (.int .i64 1), .lit (.int .i64 3), .lit (.int .i64 4), .lit (.int .i64 1), .lit (.int .i64 2), .lit (.int .i64 2), .lit (.int .i64 1), .lit (.int .i64 1)]
/-- One of Go's own tables, pinned by name: the form's constant. -/
def laid_unicode_utf8_first : DataW Unit := Go.Pinned.utf8First

/-- 'laws.FnBufferAfter': WHATEVER THE INPUT: true; the input reads as it did. -/
def fnBufferAfterSpec : ChangeSpec := { name := "fnBufferAfter", vars := ["loop.example/strideviews/impl.actNames", "loop.example/strideviews/impl.actCounts"], fn := fun _ => fun
  | [d, g1, g2] => { results := [.lit (.bool true)], args := [d], vars := [g1, g2] }
  | _ => none }
def fnBufferAfterRow : OpenClaim := { program := "ytkmnepmnjpdpkaagreatdoor", sum := "7d2ee5a4eeb87f1e1400c1ec3ca14ffc7f97390108613f63fee52b3f8c2d91fd", func := "loop.example/strideviews/laws.FnBufferAfter", spec := "fnBufferAfter", inPlace := ["internal/bytealg.IndexByteString", "internal/bytealg.IndexString", "internal/bytealg.CountString"], unfollowed := true, recurses := true, named := ["internal/bytealg.MaxLen", "loop.example/strideviews/impl.actNames", "unicode/utf8.first", "unicode/utf8.acceptRanges", "strconv.ErrSyntax", "strconv.ErrRange", "internal/strconv.uint64pow10", "math/bits.deBruijn32tab", "math/bits.deBruijn64tab", "loop.example/strideviews/impl.actCounts"], apart := false, laid := [("math/bits.deBruijn32tab", laid_math_bits_deBruijn32tab), ("math/bits.deBruijn64tab", laid_math_bits_deBruijn64tab), ("internal/strconv.uint64pow10", laid_internal_strconv_uint64pow10), ("unicode/utf8.acceptRanges", laid_unicode_utf8_acceptRanges), ("strconv.ErrRange", laid_strconv_ErrRange), ("strconv.ErrSyntax", laid_strconv_ErrSyntax), ("loop.example/strideviews/impl.actNames", laid_loop_example_strideviews_impl_actNames), ("loop.example/strideviews/impl.actCounts", laid_loop_example_strideviews_impl_actCounts), ("unicode/utf8.first", laid_unicode_utf8_first)] }
def FnBufferAfterSaid : Prop := fnBufferAfterRow.holds Tryz.pinned (OpenSpec.ofChange fnBufferAfterSpec)

/-- ITS FALSE NEIGHBOUR: 'it returns false'. Refute it at one input. -/
def fnBufferAfterWrong : ChangeSpec := { name := "fnBufferAfter", vars := ["loop.example/strideviews/impl.actNames", "loop.example/strideviews/impl.actCounts"], fn := fun _ => fun
  | [d, g1, g2] => { results := [.lit (.bool false)], args := [d], vars := [g1, g2] }
  | _ => none }
def FnBufferAfterWrongFalsely : Prop := fnBufferAfterRow.holds Tryz.pinned (OpenSpec.ofChange fnBufferAfterWrong)

/-- 'laws.FnRunActsLoad': WHATEVER THE INPUT: true; the input reads as it did. -/
def fnRunActsLoadSpec : ChangeSpec := { name := "fnRunActsLoad", vars := ["loop.example/strideviews/impl.actNames", "loop.example/strideviews/impl.actCounts"], fn := fun _ => fun
  | [d, g1, g2] => { results := [.lit (.bool true)], args := [d], vars := [g1, g2] }
  | _ => none }
def fnRunActsLoadRow : OpenClaim := { program := "ytkmnepmnjpdpkaagreatdoor", sum := "7d2ee5a4eeb87f1e1400c1ec3ca14ffc7f97390108613f63fee52b3f8c2d91fd", func := "loop.example/strideviews/laws.FnRunActsLoad", spec := "fnRunActsLoad", inPlace := ["internal/bytealg.IndexByteString", "internal/bytealg.IndexString", "internal/bytealg.CountString"], unfollowed := true, recurses := true, named := ["internal/bytealg.MaxLen", "loop.example/strideviews/impl.actNames", "unicode/utf8.first", "unicode/utf8.acceptRanges", "strconv.ErrSyntax", "strconv.ErrRange", "internal/strconv.uint64pow10", "math/bits.deBruijn32tab", "math/bits.deBruijn64tab", "loop.example/strideviews/impl.actCounts"], apart := false, laid := [("math/bits.deBruijn32tab", laid_math_bits_deBruijn32tab), ("math/bits.deBruijn64tab", laid_math_bits_deBruijn64tab), ("internal/strconv.uint64pow10", laid_internal_strconv_uint64pow10), ("unicode/utf8.acceptRanges", laid_unicode_utf8_acceptRanges), ("strconv.ErrRange", laid_strconv_ErrRange), ("strconv.ErrSyntax", laid_strconv_ErrSyntax), ("loop.example/strideviews/impl.actNames", laid_loop_example_strideviews_impl_actNames), ("loop.example/strideviews/impl.actCounts", laid_loop_example_strideviews_impl_actCounts), ("unicode/utf8.first", laid_unicode_utf8_first)] }
def FnRunActsLoadSaid : Prop := fnRunActsLoadRow.holds Tryz.pinned (OpenSpec.ofChange fnRunActsLoadSpec)

/-- ITS FALSE NEIGHBOUR: 'it returns false'. Refute it at one input. -/
def fnRunActsLoadWrong : ChangeSpec := { name := "fnRunActsLoad", vars := ["loop.example/strideviews/impl.actNames", "loop.example/strideviews/impl.actCounts"], fn := fun _ => fun
  | [d, g1, g2] => { results := [.lit (.bool false)], args := [d], vars := [g1, g2] }
  | _ => none }
def FnRunActsLoadWrongFalsely : Prop := fnRunActsLoadRow.holds Tryz.pinned (OpenSpec.ofChange fnRunActsLoadWrong)

/-- 'laws.FnApplyAct': WHATEVER THE INPUT: true; the input reads as it did. -/
def fnApplyActSpec : ChangeSpec := { name := "fnApplyAct", vars := ["loop.example/strideviews/impl.actCounts"], fn := fun _ => fun
  | [d, g1] => { results := [.lit (.bool true)], args := [d], vars := [g1] }
  | _ => none }
def fnApplyActRow : OpenClaim := { program := "ytkmnepmnjpdpkaagreatdoor", sum := "7d2ee5a4eeb87f1e1400c1ec3ca14ffc7f97390108613f63fee52b3f8c2d91fd", func := "loop.example/strideviews/laws.FnApplyAct", spec := "fnApplyAct", unfollowed := true, recurses := true, named := ["loop.example/strideviews/impl.actCounts", "internal/strconv.uint64pow10", "math/bits.deBruijn32tab", "math/bits.deBruijn64tab"], apart := false, laid := [("math/bits.deBruijn32tab", laid_math_bits_deBruijn32tab), ("math/bits.deBruijn64tab", laid_math_bits_deBruijn64tab), ("internal/strconv.uint64pow10", laid_internal_strconv_uint64pow10), ("loop.example/strideviews/impl.actCounts", laid_loop_example_strideviews_impl_actCounts)] }
def FnApplyActSaid : Prop := fnApplyActRow.holds Tryz.pinned (OpenSpec.ofChange fnApplyActSpec)

/-- ITS FALSE NEIGHBOUR: 'it returns false'. Refute it at one input. -/
def fnApplyActWrong : ChangeSpec := { name := "fnApplyAct", vars := ["loop.example/strideviews/impl.actCounts"], fn := fun _ => fun
  | [d, g1] => { results := [.lit (.bool false)], args := [d], vars := [g1] }
  | _ => none }
def FnApplyActWrongFalsely : Prop := fnApplyActRow.holds Tryz.pinned (OpenSpec.ofChange fnApplyActWrong)

/-- 'laws.FnApplyActOpen': WHATEVER THE INPUT: true; the input reads as it did. -/
def fnApplyActOpenSpec : ChangeSpec := { name := "fnApplyActOpen", vars := ["loop.example/strideviews/impl.actCounts"], fn := fun _ => fun
  | [d, g1] => { results := [.lit (.bool true)], args := [d], vars := [g1] }
  | _ => none }
def fnApplyActOpenRow : OpenClaim := { program := "ytkmnepmnjpdpkaagreatdoor", sum := "7d2ee5a4eeb87f1e1400c1ec3ca14ffc7f97390108613f63fee52b3f8c2d91fd", func := "loop.example/strideviews/laws.FnApplyActOpen", spec := "fnApplyActOpen", unfollowed := true, recurses := true, named := ["loop.example/strideviews/impl.actCounts", "internal/strconv.uint64pow10", "math/bits.deBruijn32tab", "math/bits.deBruijn64tab"], apart := false, laid := [("math/bits.deBruijn32tab", laid_math_bits_deBruijn32tab), ("math/bits.deBruijn64tab", laid_math_bits_deBruijn64tab), ("internal/strconv.uint64pow10", laid_internal_strconv_uint64pow10), ("loop.example/strideviews/impl.actCounts", laid_loop_example_strideviews_impl_actCounts)] }
def FnApplyActOpenSaid : Prop := fnApplyActOpenRow.holds Tryz.pinned (OpenSpec.ofChange fnApplyActOpenSpec)

/-- ITS FALSE NEIGHBOUR: 'it returns false'. Refute it at one input. -/
def fnApplyActOpenWrong : ChangeSpec := { name := "fnApplyActOpen", vars := ["loop.example/strideviews/impl.actCounts"], fn := fun _ => fun
  | [d, g1] => { results := [.lit (.bool false)], args := [d], vars := [g1] }
  | _ => none }
def FnApplyActOpenWrongFalsely : Prop := fnApplyActOpenRow.holds Tryz.pinned (OpenSpec.ofChange fnApplyActOpenWrong)

/-- 'laws.FnFormatAct': WHATEVER THE INPUT: true; the input reads as it did. -/
def fnFormatActSpec : ChangeSpec := { name := "fnFormatAct", vars := ["loop.example/strideviews/impl.actNames", "loop.example/strideviews/impl.actCounts"], fn := fun _ => fun
  | [d, g1, g2] => { results := [.lit (.bool true)], args := [d], vars := [g1, g2] }
  | _ => none }
def fnFormatActRow : OpenClaim := { program := "ytkmnepmnjpdpkaagreatdoor", sum := "7d2ee5a4eeb87f1e1400c1ec3ca14ffc7f97390108613f63fee52b3f8c2d91fd", func := "loop.example/strideviews/laws.FnFormatAct", spec := "fnFormatAct", inPlace := ["internal/bytealg.CountString", "internal/bytealg.IndexByteString", "internal/bytealg.IndexString"], unfollowed := true, recurses := true, named := ["loop.example/strideviews/impl.actNames", "loop.example/strideviews/impl.actCounts", "internal/strconv.uint64pow10", "math/bits.deBruijn32tab", "math/bits.deBruijn64tab", "unicode/utf8.first", "unicode/utf8.acceptRanges", "internal/bytealg.MaxLen", "strconv.ErrSyntax", "strconv.ErrRange"], apart := false, laid := [("math/bits.deBruijn32tab", laid_math_bits_deBruijn32tab), ("math/bits.deBruijn64tab", laid_math_bits_deBruijn64tab), ("internal/strconv.uint64pow10", laid_internal_strconv_uint64pow10), ("unicode/utf8.acceptRanges", laid_unicode_utf8_acceptRanges), ("strconv.ErrRange", laid_strconv_ErrRange), ("strconv.ErrSyntax", laid_strconv_ErrSyntax), ("loop.example/strideviews/impl.actNames", laid_loop_example_strideviews_impl_actNames), ("loop.example/strideviews/impl.actCounts", laid_loop_example_strideviews_impl_actCounts), ("unicode/utf8.first", laid_unicode_utf8_first)] }
def FnFormatActSaid : Prop := fnFormatActRow.holds Tryz.pinned (OpenSpec.ofChange fnFormatActSpec)

/-- ITS FALSE NEIGHBOUR: 'it returns false'. Refute it at one input. -/
def fnFormatActWrong : ChangeSpec := { name := "fnFormatAct", vars := ["loop.example/strideviews/impl.actNames", "loop.example/strideviews/impl.actCounts"], fn := fun _ => fun
  | [d, g1, g2] => { results := [.lit (.bool false)], args := [d], vars := [g1, g2] }
  | _ => none }
def FnFormatActWrongFalsely : Prop := fnFormatActRow.holds Tryz.pinned (OpenSpec.ofChange fnFormatActWrong)

/-- 'laws.FnParseAct': WHATEVER THE INPUT: true; the input reads as it did. -/
def fnParseActSpec : ChangeSpec := { name := "fnParseAct", vars := ["loop.example/strideviews/impl.actNames", "loop.example/strideviews/impl.actCounts"], fn := fun _ => fun
  | [d, g1, g2] => { results := [.lit (.bool true)], args := [d], vars := [g1, g2] }
  | _ => none }
def fnParseActRow : OpenClaim := { program := "ytkmnepmnjpdpkaagreatdoor", sum := "7d2ee5a4eeb87f1e1400c1ec3ca14ffc7f97390108613f63fee52b3f8c2d91fd", func := "loop.example/strideviews/laws.FnParseAct", spec := "fnParseAct", inPlace := ["internal/bytealg.CountString", "internal/bytealg.IndexByteString", "internal/bytealg.IndexString"], unfollowed := true, recurses := true, named := ["loop.example/strideviews/impl.actNames", "unicode/utf8.first", "unicode/utf8.acceptRanges", "internal/bytealg.MaxLen", "strconv.ErrSyntax", "strconv.ErrRange", "internal/strconv.uint64pow10", "math/bits.deBruijn32tab", "math/bits.deBruijn64tab", "loop.example/strideviews/impl.actCounts"], apart := false, laid := [("math/bits.deBruijn32tab", laid_math_bits_deBruijn32tab), ("math/bits.deBruijn64tab", laid_math_bits_deBruijn64tab), ("internal/strconv.uint64pow10", laid_internal_strconv_uint64pow10), ("unicode/utf8.acceptRanges", laid_unicode_utf8_acceptRanges), ("strconv.ErrRange", laid_strconv_ErrRange), ("strconv.ErrSyntax", laid_strconv_ErrSyntax), ("loop.example/strideviews/impl.actNames", laid_loop_example_strideviews_impl_actNames), ("loop.example/strideviews/impl.actCounts", laid_loop_example_strideviews_impl_actCounts), ("unicode/utf8.first", laid_unicode_utf8_first)] }
def FnParseActSaid : Prop := fnParseActRow.holds Tryz.pinned (OpenSpec.ofChange fnParseActSpec)

/-- ITS FALSE NEIGHBOUR: 'it returns false'. Refute it at one input. -/
def fnParseActWrong : ChangeSpec := { name := "fnParseAct", vars := ["loop.example/strideviews/impl.actNames", "loop.example/strideviews/impl.actCounts"], fn := fun _ => fun
  | [d, g1, g2] => { results := [.lit (.bool false)], args := [d], vars := [g1, g2] }
  | _ => none }
def FnParseActWrongFalsely : Prop := fnParseActRow.holds Tryz.pinned (OpenSpec.ofChange fnParseActWrong)

/-- 'laws.FnActsIn': WHATEVER THE INPUT: true; the input reads as it did. -/
def fnActsInSpec : ChangeSpec := { name := "fnActsIn", vars := ["loop.example/strideviews/impl.actNames", "loop.example/strideviews/impl.actCounts"], fn := fun _ => fun
  | [d, g1, g2] => { results := [.lit (.bool true)], args := [d], vars := [g1, g2] }
  | _ => none }
def fnActsInRow : OpenClaim := { program := "ytkmnepmnjpdpkaagreatdoor", sum := "7d2ee5a4eeb87f1e1400c1ec3ca14ffc7f97390108613f63fee52b3f8c2d91fd", func := "loop.example/strideviews/laws.FnActsIn", spec := "fnActsIn", inPlace := ["internal/bytealg.IndexByteString", "internal/bytealg.IndexString", "internal/bytealg.CountString"], unfollowed := true, recurses := true, named := ["internal/bytealg.MaxLen", "loop.example/strideviews/impl.actNames", "unicode/utf8.first", "unicode/utf8.acceptRanges", "strconv.ErrSyntax", "strconv.ErrRange", "internal/strconv.uint64pow10", "math/bits.deBruijn32tab", "math/bits.deBruijn64tab", "loop.example/strideviews/impl.actCounts"], apart := false, laid := [("math/bits.deBruijn32tab", laid_math_bits_deBruijn32tab), ("math/bits.deBruijn64tab", laid_math_bits_deBruijn64tab), ("internal/strconv.uint64pow10", laid_internal_strconv_uint64pow10), ("unicode/utf8.acceptRanges", laid_unicode_utf8_acceptRanges), ("strconv.ErrRange", laid_strconv_ErrRange), ("strconv.ErrSyntax", laid_strconv_ErrSyntax), ("loop.example/strideviews/impl.actNames", laid_loop_example_strideviews_impl_actNames), ("loop.example/strideviews/impl.actCounts", laid_loop_example_strideviews_impl_actCounts), ("unicode/utf8.first", laid_unicode_utf8_first)] }
def FnActsInSaid : Prop := fnActsInRow.holds Tryz.pinned (OpenSpec.ofChange fnActsInSpec)

/-- ITS FALSE NEIGHBOUR: 'it returns false'. Refute it at one input. -/
def fnActsInWrong : ChangeSpec := { name := "fnActsIn", vars := ["loop.example/strideviews/impl.actNames", "loop.example/strideviews/impl.actCounts"], fn := fun _ => fun
  | [d, g1, g2] => { results := [.lit (.bool false)], args := [d], vars := [g1, g2] }
  | _ => none }
def FnActsInWrongFalsely : Prop := fnActsInRow.holds Tryz.pinned (OpenSpec.ofChange fnActsInWrong)

/-- 'laws.FnRunActs': WHATEVER THE INPUT: true; the input reads as it did. -/
def fnRunActsSpec : ChangeSpec := { name := "fnRunActs", vars := ["loop.example/strideviews/impl.actNames", "loop.example/strideviews/impl.actCounts"], fn := fun _ => fun
  | [d, g1, g2] => { results := [.lit (.bool true)], args := [d], vars := [g1, g2] }
  | _ => none }
def fnRunActsRow : OpenClaim := { program := "ytkmnepmnjpdpkaagreatdoor", sum := "7d2ee5a4eeb87f1e1400c1ec3ca14ffc7f97390108613f63fee52b3f8c2d91fd", func := "loop.example/strideviews/laws.FnRunActs", spec := "fnRunActs", inPlace := ["internal/bytealg.IndexByteString", "internal/bytealg.IndexString", "internal/bytealg.CountString"], unfollowed := true, recurses := true, named := ["internal/bytealg.MaxLen", "loop.example/strideviews/impl.actNames", "unicode/utf8.first", "unicode/utf8.acceptRanges", "strconv.ErrSyntax", "strconv.ErrRange", "internal/strconv.uint64pow10", "math/bits.deBruijn32tab", "math/bits.deBruijn64tab", "loop.example/strideviews/impl.actCounts"], apart := false, laid := [("math/bits.deBruijn32tab", laid_math_bits_deBruijn32tab), ("math/bits.deBruijn64tab", laid_math_bits_deBruijn64tab), ("internal/strconv.uint64pow10", laid_internal_strconv_uint64pow10), ("unicode/utf8.acceptRanges", laid_unicode_utf8_acceptRanges), ("strconv.ErrRange", laid_strconv_ErrRange), ("strconv.ErrSyntax", laid_strconv_ErrSyntax), ("loop.example/strideviews/impl.actNames", laid_loop_example_strideviews_impl_actNames), ("loop.example/strideviews/impl.actCounts", laid_loop_example_strideviews_impl_actCounts), ("unicode/utf8.first", laid_unicode_utf8_first)] }
def FnRunActsSaid : Prop := fnRunActsRow.holds Tryz.pinned (OpenSpec.ofChange fnRunActsSpec)

/-- ITS FALSE NEIGHBOUR: 'it returns false'. Refute it at one input. -/
def fnRunActsWrong : ChangeSpec := { name := "fnRunActs", vars := ["loop.example/strideviews/impl.actNames", "loop.example/strideviews/impl.actCounts"], fn := fun _ => fun
  | [d, g1, g2] => { results := [.lit (.bool false)], args := [d], vars := [g1, g2] }
  | _ => none }
def FnRunActsWrongFalsely : Prop := fnRunActsRow.holds Tryz.pinned (OpenSpec.ofChange fnRunActsWrong)

/-- 'laws.FnExactBufferAfter': WHATEVER THE INPUT: true; the input reads as it did. -/
def fnExactBufferAfterSpec : ChangeSpec := { name := "fnExactBufferAfter", vars := ["loop.example/strideviews/impl.actNames", "loop.example/strideviews/impl.actCounts"], fn := fun _ => fun
  | [d, g1, g2] => { results := [.lit (.bool true)], args := [d], vars := [g1, g2] }
  | _ => none }
def fnExactBufferAfterRow : OpenClaim := { program := "ytkmnepmnjpdpkaagreatdoor", sum := "7d2ee5a4eeb87f1e1400c1ec3ca14ffc7f97390108613f63fee52b3f8c2d91fd", func := "loop.example/strideviews/laws.FnExactBufferAfter", spec := "fnExactBufferAfter", inPlace := ["internal/bytealg.IndexByteString", "internal/bytealg.IndexString", "internal/bytealg.CountString"], unfollowed := true, recurses := true, named := ["internal/bytealg.MaxLen", "loop.example/strideviews/impl.actNames", "unicode/utf8.first", "unicode/utf8.acceptRanges", "strconv.ErrSyntax", "strconv.ErrRange", "internal/strconv.uint64pow10", "math/bits.deBruijn32tab", "math/bits.deBruijn64tab", "loop.example/strideviews/impl.actCounts"], apart := false, laid := [("math/bits.deBruijn32tab", laid_math_bits_deBruijn32tab), ("math/bits.deBruijn64tab", laid_math_bits_deBruijn64tab), ("internal/strconv.uint64pow10", laid_internal_strconv_uint64pow10), ("unicode/utf8.acceptRanges", laid_unicode_utf8_acceptRanges), ("strconv.ErrRange", laid_strconv_ErrRange), ("strconv.ErrSyntax", laid_strconv_ErrSyntax), ("loop.example/strideviews/impl.actNames", laid_loop_example_strideviews_impl_actNames), ("loop.example/strideviews/impl.actCounts", laid_loop_example_strideviews_impl_actCounts), ("unicode/utf8.first", laid_unicode_utf8_first)] }
def FnExactBufferAfterSaid : Prop := fnExactBufferAfterRow.holds Tryz.pinned (OpenSpec.ofChange fnExactBufferAfterSpec)

/-- ITS FALSE NEIGHBOUR: 'it returns false'. Refute it at one input. -/
def fnExactBufferAfterWrong : ChangeSpec := { name := "fnExactBufferAfter", vars := ["loop.example/strideviews/impl.actNames", "loop.example/strideviews/impl.actCounts"], fn := fun _ => fun
  | [d, g1, g2] => { results := [.lit (.bool false)], args := [d], vars := [g1, g2] }
  | _ => none }
def FnExactBufferAfterWrongFalsely : Prop := fnExactBufferAfterRow.holds Tryz.pinned (OpenSpec.ofChange fnExactBufferAfterWrong)

/-- 'laws.FnExactApplyAct': WHATEVER THE INPUT: true; the input reads as it did. -/
def fnExactApplyActSpec : ChangeSpec := { name := "fnExactApplyAct", vars := ["loop.example/strideviews/impl.actCounts"], fn := fun _ => fun
  | [d1, d2, g1] => { results := [.lit (.bool true)], args := [d1, d2], vars := [g1] }
  | _ => none }
def fnExactApplyActRow : OpenClaim := { program := "ytkmnepmnjpdpkaagreatdoor", sum := "7d2ee5a4eeb87f1e1400c1ec3ca14ffc7f97390108613f63fee52b3f8c2d91fd", func := "loop.example/strideviews/laws.FnExactApplyAct", spec := "fnExactApplyAct", unfollowed := true, recurses := true, named := ["loop.example/strideviews/impl.actCounts", "internal/strconv.uint64pow10", "math/bits.deBruijn32tab", "math/bits.deBruijn64tab"], apart := false, laid := [("math/bits.deBruijn32tab", laid_math_bits_deBruijn32tab), ("math/bits.deBruijn64tab", laid_math_bits_deBruijn64tab), ("internal/strconv.uint64pow10", laid_internal_strconv_uint64pow10), ("loop.example/strideviews/impl.actCounts", laid_loop_example_strideviews_impl_actCounts)] }
def FnExactApplyActSaid : Prop := fnExactApplyActRow.holds Tryz.pinned (OpenSpec.ofChange fnExactApplyActSpec)

/-- ITS FALSE NEIGHBOUR: 'it returns false'. Refute it at one input. -/
def fnExactApplyActWrong : ChangeSpec := { name := "fnExactApplyAct", vars := ["loop.example/strideviews/impl.actCounts"], fn := fun _ => fun
  | [d1, d2, g1] => { results := [.lit (.bool false)], args := [d1, d2], vars := [g1] }
  | _ => none }
def FnExactApplyActWrongFalsely : Prop := fnExactApplyActRow.holds Tryz.pinned (OpenSpec.ofChange fnExactApplyActWrong)

/-- 'laws.FnExactRunActs': WHATEVER THE INPUT: true; the input reads as it did. -/
def fnExactRunActsSpec : ChangeSpec := { name := "fnExactRunActs", vars := ["loop.example/strideviews/impl.actNames", "loop.example/strideviews/impl.actCounts"], fn := fun _ => fun
  | [d, g1, g2] => { results := [.lit (.bool true)], args := [d], vars := [g1, g2] }
  | _ => none }
def fnExactRunActsRow : OpenClaim := { program := "ytkmnepmnjpdpkaagreatdoor", sum := "7d2ee5a4eeb87f1e1400c1ec3ca14ffc7f97390108613f63fee52b3f8c2d91fd", func := "loop.example/strideviews/laws.FnExactRunActs", spec := "fnExactRunActs", inPlace := ["internal/bytealg.IndexByteString", "internal/bytealg.IndexString", "internal/bytealg.CountString"], unfollowed := true, recurses := true, named := ["internal/bytealg.MaxLen", "loop.example/strideviews/impl.actNames", "unicode/utf8.first", "unicode/utf8.acceptRanges", "strconv.ErrSyntax", "strconv.ErrRange", "internal/strconv.uint64pow10", "math/bits.deBruijn32tab", "math/bits.deBruijn64tab", "loop.example/strideviews/impl.actCounts"], apart := false, laid := [("math/bits.deBruijn32tab", laid_math_bits_deBruijn32tab), ("math/bits.deBruijn64tab", laid_math_bits_deBruijn64tab), ("internal/strconv.uint64pow10", laid_internal_strconv_uint64pow10), ("unicode/utf8.acceptRanges", laid_unicode_utf8_acceptRanges), ("strconv.ErrRange", laid_strconv_ErrRange), ("strconv.ErrSyntax", laid_strconv_ErrSyntax), ("loop.example/strideviews/impl.actNames", laid_loop_example_strideviews_impl_actNames), ("loop.example/strideviews/impl.actCounts", laid_loop_example_strideviews_impl_actCounts), ("unicode/utf8.first", laid_unicode_utf8_first)] }
def FnExactRunActsSaid : Prop := fnExactRunActsRow.holds Tryz.pinned (OpenSpec.ofChange fnExactRunActsSpec)

/-- ITS FALSE NEIGHBOUR: 'it returns false'. Refute it at one input. -/
def fnExactRunActsWrong : ChangeSpec := { name := "fnExactRunActs", vars := ["loop.example/strideviews/impl.actNames", "loop.example/strideviews/impl.actCounts"], fn := fun _ => fun
  | [d, g1, g2] => { results := [.lit (.bool false)], args := [d], vars := [g1, g2] }
  | _ => none }
def FnExactRunActsWrongFalsely : Prop := fnExactRunActsRow.holds Tryz.pinned (OpenSpec.ofChange fnExactRunActsWrong)

/- THE SECOND FORM. 'bulk': how many values and letters a reading holds, each counted each time it is reached (what is shared counts as often as it is met; a slice's spare places count too). A statement '..UptoSaid' is the law's where the arguments, and the package variables that the reading takes, are together of bulk at most 1048576: NARROWER than '..Said'. Prove '..Said' where nothing that the law and all that it calls make is longer than what came in: it says more and counts as full. Else prove '..UptoSaid'. A law counts once. -/
mutual
def uptoBulk {H : Type} : DataW H → Nat
  | .lit (.string bytes) => bytes.length + 1
  | .lit _ => 1
  | .nil => 1
  | .ptr d => uptoBulk d + 1
  | .slice elems spare => uptoBulkAll elems + uptoBulkAll spare + 1
  | .agg parts => uptoBulkAll parts + 1
  | .iface _ d => uptoBulk d + 1
  | .map entries => uptoBulkEntries entries + 1
  | .held _ => 1
def uptoBulkAll {H : Type} : List (DataW H) → Nat
  | [] => 0
  | d :: r => uptoBulk d + uptoBulkAll r
def uptoBulkEntries {H : Type} : List (Lit × DataW H) → Nat
  | [] => 0
  | x :: r => uptoBulkEntry x + uptoBulkEntries r
def uptoBulkEntry {H : Type} : Lit × DataW H → Nat
  | (.string bytes, d) => bytes.length + uptoBulk d + 1
  | (_, d) => uptoBulk d + 1
 end
def uptoSmall : (H : Type) → List (DataW H) → Bool := fun _ ds => decide (uptoBulkAll ds ≤ 1048576)
def OpenSpec.upto (s : _root_.Go.ChangeSpec) : _root_.Go.OpenSpec := { _root_.Go.OpenSpec.ofChange s with cond := some uptoSmall }

/-- 'laws.FnBufferAfter', WHERE WHAT IT READS IS OF BULK AT MOST 1048576: true; the input reads as it did. -/
def fnBufferAfterUptoRow : OpenClaim := { program := "ytkmnepmnjpdpkaagreatdoor", sum := "7d2ee5a4eeb87f1e1400c1ec3ca14ffc7f97390108613f63fee52b3f8c2d91fd", func := "loop.example/strideviews/laws.FnBufferAfter", spec := "fnBufferAfter", inPlace := ["internal/bytealg.IndexByteString", "internal/bytealg.IndexString", "internal/bytealg.CountString"], unfollowed := true, recurses := true, named := ["internal/bytealg.MaxLen", "loop.example/strideviews/impl.actNames", "unicode/utf8.first", "unicode/utf8.acceptRanges", "strconv.ErrSyntax", "strconv.ErrRange", "internal/strconv.uint64pow10", "math/bits.deBruijn32tab", "math/bits.deBruijn64tab", "loop.example/strideviews/impl.actCounts"], apart := false, laid := [("math/bits.deBruijn32tab", laid_math_bits_deBruijn32tab), ("math/bits.deBruijn64tab", laid_math_bits_deBruijn64tab), ("internal/strconv.uint64pow10", laid_internal_strconv_uint64pow10), ("unicode/utf8.acceptRanges", laid_unicode_utf8_acceptRanges), ("strconv.ErrRange", laid_strconv_ErrRange), ("strconv.ErrSyntax", laid_strconv_ErrSyntax), ("loop.example/strideviews/impl.actNames", laid_loop_example_strideviews_impl_actNames), ("loop.example/strideviews/impl.actCounts", laid_loop_example_strideviews_impl_actCounts), ("unicode/utf8.first", laid_unicode_utf8_first)], narrowed := true }
def FnBufferAfterUptoSaid : Prop := fnBufferAfterUptoRow.holds Tryz.pinned (OpenSpec.upto fnBufferAfterSpec)

/-- 'laws.FnRunActsLoad', WHERE WHAT IT READS IS OF BULK AT MOST 1048576: true; the input reads as it did. -/
def fnRunActsLoadUptoRow : OpenClaim := { program := "ytkmnepmnjpdpkaagreatdoor", sum := "7d2ee5a4eeb87f1e1400c1ec3ca14ffc7f97390108613f63fee52b3f8c2d91fd", func := "loop.example/strideviews/laws.FnRunActsLoad", spec := "fnRunActsLoad", inPlace := ["internal/bytealg.IndexByteString", "internal/bytealg.IndexString", "internal/bytealg.CountString"], unfollowed := true, recurses := true, named := ["internal/bytealg.MaxLen", "loop.example/strideviews/impl.actNames", "unicode/utf8.first", "unicode/utf8.acceptRanges", "strconv.ErrSyntax", "strconv.ErrRange", "internal/strconv.uint64pow10", "math/bits.deBruijn32tab", "math/bits.deBruijn64tab", "loop.example/strideviews/impl.actCounts"], apart := false, laid := [("math/bits.deBruijn32tab", laid_math_bits_deBruijn32tab), ("math/bits.deBruijn64tab", laid_math_bits_deBruijn64tab), ("internal/strconv.uint64pow10", laid_internal_strconv_uint64pow10), ("unicode/utf8.acceptRanges", laid_unicode_utf8_acceptRanges), ("strconv.ErrRange", laid_strconv_ErrRange), ("strconv.ErrSyntax", laid_strconv_ErrSyntax), ("loop.example/strideviews/impl.actNames", laid_loop_example_strideviews_impl_actNames), ("loop.example/strideviews/impl.actCounts", laid_loop_example_strideviews_impl_actCounts), ("unicode/utf8.first", laid_unicode_utf8_first)], narrowed := true }
def FnRunActsLoadUptoSaid : Prop := fnRunActsLoadUptoRow.holds Tryz.pinned (OpenSpec.upto fnRunActsLoadSpec)

/-- 'laws.FnApplyAct', WHERE WHAT IT READS IS OF BULK AT MOST 1048576: true; the input reads as it did. -/
def fnApplyActUptoRow : OpenClaim := { program := "ytkmnepmnjpdpkaagreatdoor", sum := "7d2ee5a4eeb87f1e1400c1ec3ca14ffc7f97390108613f63fee52b3f8c2d91fd", func := "loop.example/strideviews/laws.FnApplyAct", spec := "fnApplyAct", unfollowed := true, recurses := true, named := ["loop.example/strideviews/impl.actCounts", "internal/strconv.uint64pow10", "math/bits.deBruijn32tab", "math/bits.deBruijn64tab"], apart := false, laid := [("math/bits.deBruijn32tab", laid_math_bits_deBruijn32tab), ("math/bits.deBruijn64tab", laid_math_bits_deBruijn64tab), ("internal/strconv.uint64pow10", laid_internal_strconv_uint64pow10), ("loop.example/strideviews/impl.actCounts", laid_loop_example_strideviews_impl_actCounts)], narrowed := true }
def FnApplyActUptoSaid : Prop := fnApplyActUptoRow.holds Tryz.pinned (OpenSpec.upto fnApplyActSpec)

/-- 'laws.FnApplyActOpen', WHERE WHAT IT READS IS OF BULK AT MOST 1048576: true; the input reads as it did. -/
def fnApplyActOpenUptoRow : OpenClaim := { program := "ytkmnepmnjpdpkaagreatdoor", sum := "7d2ee5a4eeb87f1e1400c1ec3ca14ffc7f97390108613f63fee52b3f8c2d91fd", func := "loop.example/strideviews/laws.FnApplyActOpen", spec := "fnApplyActOpen", unfollowed := true, recurses := true, named := ["loop.example/strideviews/impl.actCounts", "internal/strconv.uint64pow10", "math/bits.deBruijn32tab", "math/bits.deBruijn64tab"], apart := false, laid := [("math/bits.deBruijn32tab", laid_math_bits_deBruijn32tab), ("math/bits.deBruijn64tab", laid_math_bits_deBruijn64tab), ("internal/strconv.uint64pow10", laid_internal_strconv_uint64pow10), ("loop.example/strideviews/impl.actCounts", laid_loop_example_strideviews_impl_actCounts)], narrowed := true }
def FnApplyActOpenUptoSaid : Prop := fnApplyActOpenUptoRow.holds Tryz.pinned (OpenSpec.upto fnApplyActOpenSpec)

/-- 'laws.FnFormatAct', WHERE WHAT IT READS IS OF BULK AT MOST 1048576: true; the input reads as it did. -/
def fnFormatActUptoRow : OpenClaim := { program := "ytkmnepmnjpdpkaagreatdoor", sum := "7d2ee5a4eeb87f1e1400c1ec3ca14ffc7f97390108613f63fee52b3f8c2d91fd", func := "loop.example/strideviews/laws.FnFormatAct", spec := "fnFormatAct", inPlace := ["internal/bytealg.CountString", "internal/bytealg.IndexByteString", "internal/bytealg.IndexString"], unfollowed := true, recurses := true, named := ["loop.example/strideviews/impl.actNames", "loop.example/strideviews/impl.actCounts", "internal/strconv.uint64pow10", "math/bits.deBruijn32tab", "math/bits.deBruijn64tab", "unicode/utf8.first", "unicode/utf8.acceptRanges", "internal/bytealg.MaxLen", "strconv.ErrSyntax", "strconv.ErrRange"], apart := false, laid := [("math/bits.deBruijn32tab", laid_math_bits_deBruijn32tab), ("math/bits.deBruijn64tab", laid_math_bits_deBruijn64tab), ("internal/strconv.uint64pow10", laid_internal_strconv_uint64pow10), ("unicode/utf8.acceptRanges", laid_unicode_utf8_acceptRanges), ("strconv.ErrRange", laid_strconv_ErrRange), ("strconv.ErrSyntax", laid_strconv_ErrSyntax), ("loop.example/strideviews/impl.actNames", laid_loop_example_strideviews_impl_actNames), ("loop.example/strideviews/impl.actCounts", laid_loop_example_strideviews_impl_actCounts), ("unicode/utf8.first", laid_unicode_utf8_first)], narrowed := true }
def FnFormatActUptoSaid : Prop := fnFormatActUptoRow.holds Tryz.pinned (OpenSpec.upto fnFormatActSpec)

/-- 'laws.FnParseAct', WHERE WHAT IT READS IS OF BULK AT MOST 1048576: true; the input reads as it did. -/
def fnParseActUptoRow : OpenClaim := { program := "ytkmnepmnjpdpkaagreatdoor", sum := "7d2ee5a4eeb87f1e1400c1ec3ca14ffc7f97390108613f63fee52b3f8c2d91fd", func := "loop.example/strideviews/laws.FnParseAct", spec := "fnParseAct", inPlace := ["internal/bytealg.CountString", "internal/bytealg.IndexByteString", "internal/bytealg.IndexString"], unfollowed := true, recurses := true, named := ["loop.example/strideviews/impl.actNames", "unicode/utf8.first", "unicode/utf8.acceptRanges", "internal/bytealg.MaxLen", "strconv.ErrSyntax", "strconv.ErrRange", "internal/strconv.uint64pow10", "math/bits.deBruijn32tab", "math/bits.deBruijn64tab", "loop.example/strideviews/impl.actCounts"], apart := false, laid := [("math/bits.deBruijn32tab", laid_math_bits_deBruijn32tab), ("math/bits.deBruijn64tab", laid_math_bits_deBruijn64tab), ("internal/strconv.uint64pow10", laid_internal_strconv_uint64pow10), ("unicode/utf8.acceptRanges", laid_unicode_utf8_acceptRanges), ("strconv.ErrRange", laid_strconv_ErrRange), ("strconv.ErrSyntax", laid_strconv_ErrSyntax), ("loop.example/strideviews/impl.actNames", laid_loop_example_strideviews_impl_actNames), ("loop.example/strideviews/impl.actCounts", laid_loop_example_strideviews_impl_actCounts), ("unicode/utf8.first", laid_unicode_utf8_first)], narrowed := true }
def FnParseActUptoSaid : Prop := fnParseActUptoRow.holds Tryz.pinned (OpenSpec.upto fnParseActSpec)

/-- 'laws.FnActsIn', WHERE WHAT IT READS IS OF BULK AT MOST 1048576: true; the input reads as it did. -/
def fnActsInUptoRow : OpenClaim := { program := "ytkmnepmnjpdpkaagreatdoor", sum := "7d2ee5a4eeb87f1e1400c1ec3ca14ffc7f97390108613f63fee52b3f8c2d91fd", func := "loop.example/strideviews/laws.FnActsIn", spec := "fnActsIn", inPlace := ["internal/bytealg.IndexByteString", "internal/bytealg.IndexString", "internal/bytealg.CountString"], unfollowed := true, recurses := true, named := ["internal/bytealg.MaxLen", "loop.example/strideviews/impl.actNames", "unicode/utf8.first", "unicode/utf8.acceptRanges", "strconv.ErrSyntax", "strconv.ErrRange", "internal/strconv.uint64pow10", "math/bits.deBruijn32tab", "math/bits.deBruijn64tab", "loop.example/strideviews/impl.actCounts"], apart := false, laid := [("math/bits.deBruijn32tab", laid_math_bits_deBruijn32tab), ("math/bits.deBruijn64tab", laid_math_bits_deBruijn64tab), ("internal/strconv.uint64pow10", laid_internal_strconv_uint64pow10), ("unicode/utf8.acceptRanges", laid_unicode_utf8_acceptRanges), ("strconv.ErrRange", laid_strconv_ErrRange), ("strconv.ErrSyntax", laid_strconv_ErrSyntax), ("loop.example/strideviews/impl.actNames", laid_loop_example_strideviews_impl_actNames), ("loop.example/strideviews/impl.actCounts", laid_loop_example_strideviews_impl_actCounts), ("unicode/utf8.first", laid_unicode_utf8_first)], narrowed := true }
def FnActsInUptoSaid : Prop := fnActsInUptoRow.holds Tryz.pinned (OpenSpec.upto fnActsInSpec)

/-- 'laws.FnRunActs', WHERE WHAT IT READS IS OF BULK AT MOST 1048576: true; the input reads as it did. -/
def fnRunActsUptoRow : OpenClaim := { program := "ytkmnepmnjpdpkaagreatdoor", sum := "7d2ee5a4eeb87f1e1400c1ec3ca14ffc7f97390108613f63fee52b3f8c2d91fd", func := "loop.example/strideviews/laws.FnRunActs", spec := "fnRunActs", inPlace := ["internal/bytealg.IndexByteString", "internal/bytealg.IndexString", "internal/bytealg.CountString"], unfollowed := true, recurses := true, named := ["internal/bytealg.MaxLen", "loop.example/strideviews/impl.actNames", "unicode/utf8.first", "unicode/utf8.acceptRanges", "strconv.ErrSyntax", "strconv.ErrRange", "internal/strconv.uint64pow10", "math/bits.deBruijn32tab", "math/bits.deBruijn64tab", "loop.example/strideviews/impl.actCounts"], apart := false, laid := [("math/bits.deBruijn32tab", laid_math_bits_deBruijn32tab), ("math/bits.deBruijn64tab", laid_math_bits_deBruijn64tab), ("internal/strconv.uint64pow10", laid_internal_strconv_uint64pow10), ("unicode/utf8.acceptRanges", laid_unicode_utf8_acceptRanges), ("strconv.ErrRange", laid_strconv_ErrRange), ("strconv.ErrSyntax", laid_strconv_ErrSyntax), ("loop.example/strideviews/impl.actNames", laid_loop_example_strideviews_impl_actNames), ("loop.example/strideviews/impl.actCounts", laid_loop_example_strideviews_impl_actCounts), ("unicode/utf8.first", laid_unicode_utf8_first)], narrowed := true }
def FnRunActsUptoSaid : Prop := fnRunActsUptoRow.holds Tryz.pinned (OpenSpec.upto fnRunActsSpec)

/-- 'laws.FnExactBufferAfter', WHERE WHAT IT READS IS OF BULK AT MOST 1048576: true; the input reads as it did. -/
def fnExactBufferAfterUptoRow : OpenClaim := { program := "ytkmnepmnjpdpkaagreatdoor", sum := "7d2ee5a4eeb87f1e1400c1ec3ca14ffc7f97390108613f63fee52b3f8c2d91fd", func := "loop.example/strideviews/laws.FnExactBufferAfter", spec := "fnExactBufferAfter", inPlace := ["internal/bytealg.IndexByteString", "internal/bytealg.IndexString", "internal/bytealg.CountString"], unfollowed := true, recurses := true, named := ["internal/bytealg.MaxLen", "loop.example/strideviews/impl.actNames", "unicode/utf8.first", "unicode/utf8.acceptRanges", "strconv.ErrSyntax", "strconv.ErrRange", "internal/strconv.uint64pow10", "math/bits.deBruijn32tab", "math/bits.deBruijn64tab", "loop.example/strideviews/impl.actCounts"], apart := false, laid := [("math/bits.deBruijn32tab", laid_math_bits_deBruijn32tab), ("math/bits.deBruijn64tab", laid_math_bits_deBruijn64tab), ("internal/strconv.uint64pow10", laid_internal_strconv_uint64pow10), ("unicode/utf8.acceptRanges", laid_unicode_utf8_acceptRanges), ("strconv.ErrRange", laid_strconv_ErrRange), ("strconv.ErrSyntax", laid_strconv_ErrSyntax), ("loop.example/strideviews/impl.actNames", laid_loop_example_strideviews_impl_actNames), ("loop.example/strideviews/impl.actCounts", laid_loop_example_strideviews_impl_actCounts), ("unicode/utf8.first", laid_unicode_utf8_first)], narrowed := true }
def FnExactBufferAfterUptoSaid : Prop := fnExactBufferAfterUptoRow.holds Tryz.pinned (OpenSpec.upto fnExactBufferAfterSpec)

/-- 'laws.FnExactApplyAct', WHERE WHAT IT READS IS OF BULK AT MOST 1048576: true; the input reads as it did. -/
def fnExactApplyActUptoRow : OpenClaim := { program := "ytkmnepmnjpdpkaagreatdoor", sum := "7d2ee5a4eeb87f1e1400c1ec3ca14ffc7f97390108613f63fee52b3f8c2d91fd", func := "loop.example/strideviews/laws.FnExactApplyAct", spec := "fnExactApplyAct", unfollowed := true, recurses := true, named := ["loop.example/strideviews/impl.actCounts", "internal/strconv.uint64pow10", "math/bits.deBruijn32tab", "math/bits.deBruijn64tab"], apart := false, laid := [("math/bits.deBruijn32tab", laid_math_bits_deBruijn32tab), ("math/bits.deBruijn64tab", laid_math_bits_deBruijn64tab), ("internal/strconv.uint64pow10", laid_internal_strconv_uint64pow10), ("loop.example/strideviews/impl.actCounts", laid_loop_example_strideviews_impl_actCounts)], narrowed := true }
def FnExactApplyActUptoSaid : Prop := fnExactApplyActUptoRow.holds Tryz.pinned (OpenSpec.upto fnExactApplyActSpec)

/-- 'laws.FnExactRunActs', WHERE WHAT IT READS IS OF BULK AT MOST 1048576: true; the input reads as it did. -/
def fnExactRunActsUptoRow : OpenClaim := { program := "ytkmnepmnjpdpkaagreatdoor", sum := "7d2ee5a4eeb87f1e1400c1ec3ca14ffc7f97390108613f63fee52b3f8c2d91fd", func := "loop.example/strideviews/laws.FnExactRunActs", spec := "fnExactRunActs", inPlace := ["internal/bytealg.IndexByteString", "internal/bytealg.IndexString", "internal/bytealg.CountString"], unfollowed := true, recurses := true, named := ["internal/bytealg.MaxLen", "loop.example/strideviews/impl.actNames", "unicode/utf8.first", "unicode/utf8.acceptRanges", "strconv.ErrSyntax", "strconv.ErrRange", "internal/strconv.uint64pow10", "math/bits.deBruijn32tab", "math/bits.deBruijn64tab", "loop.example/strideviews/impl.actCounts"], apart := false, laid := [("math/bits.deBruijn32tab", laid_math_bits_deBruijn32tab), ("math/bits.deBruijn64tab", laid_math_bits_deBruijn64tab), ("internal/strconv.uint64pow10", laid_internal_strconv_uint64pow10), ("unicode/utf8.acceptRanges", laid_unicode_utf8_acceptRanges), ("strconv.ErrRange", laid_strconv_ErrRange), ("strconv.ErrSyntax", laid_strconv_ErrSyntax), ("loop.example/strideviews/impl.actNames", laid_loop_example_strideviews_impl_actNames), ("loop.example/strideviews/impl.actCounts", laid_loop_example_strideviews_impl_actCounts), ("unicode/utf8.first", laid_unicode_utf8_first)], narrowed := true }
def FnExactRunActsUptoSaid : Prop := fnExactRunActsUptoRow.holds Tryz.pinned (OpenSpec.upto fnExactRunActsSpec)

end Rows
end Go.Proofs.YtkmnepmnjpdpkaaGreatDoor
