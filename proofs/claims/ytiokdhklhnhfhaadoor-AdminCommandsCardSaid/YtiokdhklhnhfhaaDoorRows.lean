/-
  NARROWER THAN 'FOR EVERY INPUT', by the rows' own cells (each row's printed sentence says how): ListenerHandle: laid · ListenerHead: laid · ChunkedFeed: laid · ChunkedPieces: laid · ChunkedDecode: laid · ChunkedEncode: laid · ChunkedTorn: laid · ChunkedLimits: laid · AdminReads: laid · AdminLength: laid · AdminCommands: laid · NormalOrder: laid · NormalTwice: laid.
  DERIVED. THE GIVEN ROWS OF THIS SEAT. 13 by the template 'for every input the law returns true; each argument reads behind the call as it read before'; 0 by the template 'total and deterministic' (their statements: YtiokdhklhnhfhaaDoorTotals.lean).
  GIVEN WITH THE SEED: the statements are not yours to turn. If you find one false, say at which input.
  Laid BY PROGRAM, IN A SANDBOX (cutbox-rows.mjs): the forced cells as the released guide's own fill.sh prints them over the translation 7df021f2ec9c7eaf… (all of the seat's roots in one cut). By AI agents, Wed Nov 11 2026. No macro, syntax, notation, axiom, sorry.
-/
import Derived.Test.YtiokdhklhnhfhaaDoorChecked
import GoSem.PinnedTables
import GoSem.Claim
import GoSem.ClaimJoined
import GoSem.ClaimMapViews
import Derived.JoinedTies
import Derived.KernelRfl
namespace Go.Proofs.YtiokdhklhnhfhaaDoor
/- THE CELL 'sum', in the pinned program and in every row, IS THE sha256 OF THE DUMP (.gsa) THAT YtiokdhklhnhfhaaDoorProg.lean LOADS. Nothing in Lean hashes anything: it is a label: what it is worth is what the hold of that sum in a sandbox is worth. -/
noncomputable def Tryd.pinned : Pinned := { name := "ytiokdhklhnhfhaadoor", sum := "7df021f2ec9c7eaf814dfaa0c33b8f33db6759b2514e669d9d812d3bcae4d521", checked := Tryd.checked }
namespace Rows
def none {H : Type} : Left H := { results := [], args := [] }

/- WHAT THE LISTED PACKAGE-LEVEL VARIABLES READ AS WHEN THE CALL BEGINS. Each datum BY PROGRAM (the guide's laid-datum.mjs) off the statement by which the dump's own 'gosem.cut.vars' lays the variable. In a bare row this is a premise. The card (YtiokdhklhnhfhaaDoorCards.lean) ties it to the program's text. -/
def laid_math_bits_deBruijn32tab {H : Type} : DataW H := .agg [.lit (.int .u8 0), .lit (.int .u8 1), .lit (.int .u8 28), .lit (.int .u8 2), .lit (.int .u8 29), .lit (.int .u8 14), .lit (.int .u8 24), .lit (.int .u8 3), .lit (.int .u8 30), .lit (.int .u8 22), .lit (.int .u8 20), .lit (.int .u8 15), .lit (.int .u8 25), .lit (.int .u8 17), .lit (.int .u8 4), .lit (.int .u8 8), .lit (.int .u8 31), .lit (.int .u8 27), .lit (.int .u8 13), .lit (.int .u8 23), .lit (.int .u8 21), .lit (.int .u8 19), .lit (.int .u8 16), .lit (.int .u8 7), .lit (.int .u8 26), .lit (.int .u8 12), .lit (.int .u8 18), .lit (.int .u8 6), .lit (.int .u8 11), .lit (.int .u8 5), .lit (.int .u8 10), .lit (.int .u8 9)]
def laid_math_bits_deBruijn64tab {H : Type} : DataW H := .agg [.lit (.int .u8 0), .lit (.int .u8 1), .lit (.int .u8 56), .lit (.int .u8 2), .lit (.int .u8 57), .lit (.int .u8 49), .lit (.int .u8 28), .lit (.int .u8 3), .lit (.int .u8 61), .lit (.int .u8 58), .lit (.int .u8 42), .lit (.int .u8 50), .lit (.int .u8 38), .lit (.int .u8 29), .lit (.int .u8 17), .lit (.int .u8 4), .lit (.int .u8 62), .lit (.int .u8 47), .lit (.int .u8 59), .lit (.int .u8 36), .lit (.int .u8 45), .lit (.int .u8 43), .lit (.int .u8 51), .lit (.int .u8 22), .lit (.int .u8 53), .lit (.int .u8 39), .lit (.int .u8 33), .lit (.int .u8 30), .lit (.int .u8 24), .lit (.int .u8 18), .lit (.int .u8 12), .lit (.int .u8 5), .lit (.int .u8 63), .lit (.int .u8 55), .lit (.int .u8 48), .lit (.int .u8 27), .lit (.int .u8 60), .lit (.int .u8 41), .lit (.int .u8 37), .lit (.int .u8 16), .lit (.int .u8 46), .lit (.int .u8 35), .lit (.int .u8 44), .lit (.int .u8 21), .lit (.int .u8 52), .lit (.int .u8 32), .lit (.int .u8 23), .lit (.int .u8 11), .lit (.int .u8 54), .lit (.int .u8 26), .lit (.int .u8 40), .lit (.int .u8 15), .lit (.int .u8 34), .lit (.int .u8 20), .lit (.int .u8 31), .lit (.int .u8 10), .lit (.int .u8 25), .lit (.int .u8 14), .lit (.int .u8 19), .lit (.int .u8 9), .lit (.int .u8 13), .lit (.int .u8 8), .lit (.int .u8 7), .lit (.int .u8 6)]
def laid_internal_strconv_uint64pow10 {H : Type} : DataW H := .agg [.lit (.int .u64 1), .lit (.int .u64 10), .lit (.int .u64 100), .lit (.int .u64 1000), .lit (.int .u64 10000), .lit (.int .u64 100000), .lit (.int .u64 1000000), .lit (.int .u64 10000000), .lit (.int .u64 100000000), .lit (.int .u64 1000000000), .lit (.int .u64 10000000000), .lit (.int .u64 100000000000), .lit (.int .u64 1000000000000), .lit (.int .u64 10000000000000), .lit (.int .u64 100000000000000), .lit (.int .u64 1000000000000000), .lit (.int .u64 10000000000000000), .lit (.int .u64 100000000000000000), .lit (.int .u64 1000000000000000000), .lit (.int .u64 10000000000000000000)]
def laid_canary_writer_reasons {H : Type} : DataW H := .agg [.agg [.lit (.int .i64 200), .lit (.string [79, 75])], .agg [.lit (.int .i64 400), .lit (.string [66, 97, 100, 32, 82, 101, 113, 117, 101, 115, 116])], .agg [.lit (.int .i64 404), .lit (.string [78, 111, 116, 32, 70, 111, 117, 110, 100])], .agg [.lit (.int .i64 405), .lit (.string [77, 101, 116, 104, 111, 100, 32, 78, 111, 116, 32, 65, 108, 108, 111, 119, 101, 100])], .agg [.lit (.int .i64 408), .lit (.string [82, 101, 113, 117, 101, 115, 116, 32, 84, 105, 109, 101, 111, 117, 116])], .agg [.lit (.int .i64 409), .lit (.string [67, 111, 110, 102, 108, 105, 99, 116])], .agg [.lit (.int .i64 413), .lit (.string [67, 111, 110, 116, 101, 110, 116, 32, 84, 111, 111, 32, 76, 97, 114, 103, 101])], .agg [.lit (.int .i64 431), .lit (.string [82, 101, 113, 117, 101, 115, 116, 32, 72, 101, 97, 100, 101, 114, 32, 70, 105, 101, 108, 100, 115, 32, 84, 111, 111, 32, 76, 97, 114, 103, 101])], .agg [.lit (.int .i64 502), .lit (.string [66, 97, 100, 32, 71, 97, 116, 101, 119, 97, 121])], .agg [.lit (.int .i64 503), .lit (.string [83, 101, 114, 118, 105, 99, 101, 32, 85, 110, 97, 118, 97, 105, 108, 97, 98, 108, 101])], .agg [.lit (.int .i64 504), .lit (.string [71, 97, 116, 101, 119, 97, 121, 32, 84, 105, 109, 101, 111, 117, 116])], .agg [.lit (.int .i64 505), .lit (.string [72, 84, 84, 80, 32, 86, 101, 114, 115, 105, 111, 110, 32, 78, 111, 116, 32, 83, 117, 112, 112, 111, 114, 116, 101, 100])]]
def laid_canary_admin_names {H : Type} : DataW H := .agg [.lit (.string [105, 100, 108, 101]), .lit (.string [114, 117, 110, 110, 105, 110, 103]), .lit (.string [112, 114, 111, 109, 111, 116, 101, 100]), .lit (.string [114, 111, 108, 108, 101, 100, 98, 97, 99, 107]), .lit (.string [112, 97, 117, 115, 101, 100])]
def laid_canary_admin_commands {H : Type} : DataW H := .agg [.lit (.string []), .lit (.string [115, 116, 97, 114, 116]), .lit (.string [112, 97, 117, 115, 101]), .lit (.string [114, 101, 115, 117, 109, 101]), .lit (.string [112, 114, 111, 109, 111, 116, 101]), .lit (.string [97, 98, 111, 114, 116]), .lit (.string [114, 101, 115, 101, 116])]
def laid_unicode_utf8_acceptRanges {H : Type} : DataW H := .agg [.agg [.lit (.int .u8 128), .lit (.int .u8 191)], .agg [.lit (.int .u8 160), .lit (.int .u8 191)], .agg [.lit (.int .u8 128), .lit (.int .u8 159)], .agg [.lit (.int .u8 144), .lit (.int .u8 191)], .agg [.lit (.int .u8 128), .lit (.int .u8 143)], .agg [.lit (.int .u8 0), .lit (.int .u8 0)], .agg [.lit (.int .u8 0), .lit (.int .u8 0)], .agg [.lit (.int .u8 0), .lit (.int .u8 0)], .agg [.lit (.int .u8 0), .lit (.int .u8 0)], .agg [.lit (.int .u8 0), .lit (.int .u8 0)], .agg [.lit (.int .u8 0), .lit (.int .u8 0)], .agg [.lit (.int .u8 0), .lit (.int .u8 0)], .agg [.lit (.int .u8 0), .lit (.int .u8 0)], .agg [.lit (.int .u8 0), .lit (.int .u8 0)], .agg [.lit (.int .u8 0), .lit (.int .u8 0)], .agg [.lit (.int .u8 0), .lit (.int .u8 0)]]
/-- One of Go's own tables, pinned by name: the form's constant. -/
def laid_unicode_utf8_first : DataW Unit := Go.Pinned.utf8First

/-- 'canarylaw26.ListenerHandle': WHATEVER THE INPUT: true; the input reads as it did. -/
def listenerHandleSpec : ChangeSpec := { name := "listenerHandle", fn := fun _ => fun
  | [d1, d2, d3, d4, d5] => { results := [.lit (.bool true)], args := [d1, d2, d3, d4, d5] }
  | _ => none }
def listenerHandleRow : OpenClaim := { program := "ytiokdhklhnhfhaadoor", sum := "7df021f2ec9c7eaf814dfaa0c33b8f33db6759b2514e669d9d812d3bcae4d521", func := "canary/canarylaw26.ListenerHandle", spec := "listenerHandle", inPlace := ["internal/bytealg.IndexByteString", "internal/bytealg.IndexString", "internal/abi.NoEscape", "internal/bytealg.MakeNoZero"], unfollowed := true, recurses := true, named := ["internal/bytealg.MaxLen", "internal/strconv.uint64pow10", "math/bits.deBruijn32tab", "math/bits.deBruijn64tab", "canary/writer.reasons"], apart := false, laid := [("math/bits.deBruijn32tab", laid_math_bits_deBruijn32tab), ("math/bits.deBruijn64tab", laid_math_bits_deBruijn64tab), ("internal/strconv.uint64pow10", laid_internal_strconv_uint64pow10), ("canary/writer.reasons", laid_canary_writer_reasons)] }
def ListenerHandleSaid : Prop := listenerHandleRow.holds Tryd.pinned (OpenSpec.ofChange listenerHandleSpec)

/-- ITS FALSE NEIGHBOUR: 'it returns false'. Refute it at one input. -/
def listenerHandleWrong : ChangeSpec := { name := "listenerHandle", fn := fun _ => fun
  | [d1, d2, d3, d4, d5] => { results := [.lit (.bool false)], args := [d1, d2, d3, d4, d5] }
  | _ => none }
def ListenerHandleWrongFalsely : Prop := listenerHandleRow.holds Tryd.pinned (OpenSpec.ofChange listenerHandleWrong)

/-- 'canarylaw26.ListenerHead': WHATEVER THE INPUT: true; the input reads as it did. -/
def listenerHeadSpec : ChangeSpec := { name := "listenerHead", fn := fun _ => fun
  | [d1, d2] => { results := [.lit (.bool true)], args := [d1, d2] }
  | _ => none }
def listenerHeadRow : OpenClaim := { program := "ytiokdhklhnhfhaadoor", sum := "7df021f2ec9c7eaf814dfaa0c33b8f33db6759b2514e669d9d812d3bcae4d521", func := "canary/canarylaw26.ListenerHead", spec := "listenerHead", inPlace := ["internal/bytealg.IndexByteString", "internal/bytealg.IndexString", "internal/abi.NoEscape", "internal/bytealg.MakeNoZero"], unfollowed := true, recurses := true, named := ["internal/bytealg.MaxLen", "internal/strconv.uint64pow10", "math/bits.deBruijn32tab", "math/bits.deBruijn64tab", "canary/writer.reasons"], apart := false, laid := [("math/bits.deBruijn32tab", laid_math_bits_deBruijn32tab), ("math/bits.deBruijn64tab", laid_math_bits_deBruijn64tab), ("internal/strconv.uint64pow10", laid_internal_strconv_uint64pow10), ("canary/writer.reasons", laid_canary_writer_reasons)] }
def ListenerHeadSaid : Prop := listenerHeadRow.holds Tryd.pinned (OpenSpec.ofChange listenerHeadSpec)

/-- ITS FALSE NEIGHBOUR: 'it returns false'. Refute it at one input. -/
def listenerHeadWrong : ChangeSpec := { name := "listenerHead", fn := fun _ => fun
  | [d1, d2] => { results := [.lit (.bool false)], args := [d1, d2] }
  | _ => none }
def ListenerHeadWrongFalsely : Prop := listenerHeadRow.holds Tryd.pinned (OpenSpec.ofChange listenerHeadWrong)

/-- 'canarylaw09.ChunkedFeed': WHATEVER THE INPUT: true; the input reads as it did. -/
def chunkedFeedSpec : ChangeSpec := { name := "chunkedFeed", fn := fun _ => fun
  | [d1, d2, d3, d4, d5, d6, d7] => { results := [.lit (.bool true)], args := [d1, d2, d3, d4, d5, d6, d7] }
  | _ => none }
def chunkedFeedRow : OpenClaim := { program := "ytiokdhklhnhfhaadoor", sum := "7df021f2ec9c7eaf814dfaa0c33b8f33db6759b2514e669d9d812d3bcae4d521", func := "canary/canarylaw09.ChunkedFeed", spec := "chunkedFeed", inPlace := ["internal/bytealg.IndexByteString", "internal/bytealg.IndexString"], named := ["internal/bytealg.MaxLen", "internal/strconv.uint64pow10", "math/bits.deBruijn32tab", "math/bits.deBruijn64tab"], apart := false, laid := [("math/bits.deBruijn32tab", laid_math_bits_deBruijn32tab), ("math/bits.deBruijn64tab", laid_math_bits_deBruijn64tab), ("internal/strconv.uint64pow10", laid_internal_strconv_uint64pow10)] }
def ChunkedFeedSaid : Prop := chunkedFeedRow.holds Tryd.pinned (OpenSpec.ofChange chunkedFeedSpec)

/-- ITS FALSE NEIGHBOUR: 'it returns false'. Refute it at one input. -/
def chunkedFeedWrong : ChangeSpec := { name := "chunkedFeed", fn := fun _ => fun
  | [d1, d2, d3, d4, d5, d6, d7] => { results := [.lit (.bool false)], args := [d1, d2, d3, d4, d5, d6, d7] }
  | _ => none }
def ChunkedFeedWrongFalsely : Prop := chunkedFeedRow.holds Tryd.pinned (OpenSpec.ofChange chunkedFeedWrong)

/-- 'canarylaw09.ChunkedPieces': WHATEVER THE INPUT: true; the input reads as it did. -/
def chunkedPiecesSpec : ChangeSpec := { name := "chunkedPieces", fn := fun _ => fun
  | [d1, d2, d3, d4] => { results := [.lit (.bool true)], args := [d1, d2, d3, d4] }
  | _ => none }
def chunkedPiecesRow : OpenClaim := { program := "ytiokdhklhnhfhaadoor", sum := "7df021f2ec9c7eaf814dfaa0c33b8f33db6759b2514e669d9d812d3bcae4d521", func := "canary/canarylaw09.ChunkedPieces", spec := "chunkedPieces", inPlace := ["internal/bytealg.IndexByteString", "internal/bytealg.IndexString"], named := ["internal/bytealg.MaxLen", "internal/strconv.uint64pow10", "math/bits.deBruijn32tab", "math/bits.deBruijn64tab"], apart := false, laid := [("math/bits.deBruijn32tab", laid_math_bits_deBruijn32tab), ("math/bits.deBruijn64tab", laid_math_bits_deBruijn64tab), ("internal/strconv.uint64pow10", laid_internal_strconv_uint64pow10)] }
def ChunkedPiecesSaid : Prop := chunkedPiecesRow.holds Tryd.pinned (OpenSpec.ofChange chunkedPiecesSpec)

/-- ITS FALSE NEIGHBOUR: 'it returns false'. Refute it at one input. -/
def chunkedPiecesWrong : ChangeSpec := { name := "chunkedPieces", fn := fun _ => fun
  | [d1, d2, d3, d4] => { results := [.lit (.bool false)], args := [d1, d2, d3, d4] }
  | _ => none }
def ChunkedPiecesWrongFalsely : Prop := chunkedPiecesRow.holds Tryd.pinned (OpenSpec.ofChange chunkedPiecesWrong)

/-- 'canarylaw09.ChunkedDecode': WHATEVER THE INPUT: true; the input reads as it did. -/
def chunkedDecodeSpec : ChangeSpec := { name := "chunkedDecode", fn := fun _ => fun
  | [d1, d2, d3, d4, d5, d6] => { results := [.lit (.bool true)], args := [d1, d2, d3, d4, d5, d6] }
  | _ => none }
def chunkedDecodeRow : OpenClaim := { program := "ytiokdhklhnhfhaadoor", sum := "7df021f2ec9c7eaf814dfaa0c33b8f33db6759b2514e669d9d812d3bcae4d521", func := "canary/canarylaw09.ChunkedDecode", spec := "chunkedDecode", inPlace := ["internal/bytealg.IndexByteString", "internal/bytealg.IndexString"], named := ["internal/bytealg.MaxLen", "internal/strconv.uint64pow10", "math/bits.deBruijn32tab", "math/bits.deBruijn64tab"], apart := false, laid := [("math/bits.deBruijn32tab", laid_math_bits_deBruijn32tab), ("math/bits.deBruijn64tab", laid_math_bits_deBruijn64tab), ("internal/strconv.uint64pow10", laid_internal_strconv_uint64pow10)] }
def ChunkedDecodeSaid : Prop := chunkedDecodeRow.holds Tryd.pinned (OpenSpec.ofChange chunkedDecodeSpec)

/-- ITS FALSE NEIGHBOUR: 'it returns false'. Refute it at one input. -/
def chunkedDecodeWrong : ChangeSpec := { name := "chunkedDecode", fn := fun _ => fun
  | [d1, d2, d3, d4, d5, d6] => { results := [.lit (.bool false)], args := [d1, d2, d3, d4, d5, d6] }
  | _ => none }
def ChunkedDecodeWrongFalsely : Prop := chunkedDecodeRow.holds Tryd.pinned (OpenSpec.ofChange chunkedDecodeWrong)

/-- 'canarylaw09.ChunkedEncode': WHATEVER THE INPUT: true; the input reads as it did. -/
def chunkedEncodeSpec : ChangeSpec := { name := "chunkedEncode", fn := fun _ => fun
  | [d1, d2] => { results := [.lit (.bool true)], args := [d1, d2] }
  | _ => none }
def chunkedEncodeRow : OpenClaim := { program := "ytiokdhklhnhfhaadoor", sum := "7df021f2ec9c7eaf814dfaa0c33b8f33db6759b2514e669d9d812d3bcae4d521", func := "canary/canarylaw09.ChunkedEncode", spec := "chunkedEncode", inPlace := ["internal/bytealg.IndexByteString", "internal/bytealg.IndexString"], named := ["internal/strconv.uint64pow10", "math/bits.deBruijn32tab", "math/bits.deBruijn64tab", "internal/bytealg.MaxLen"], apart := false, laid := [("math/bits.deBruijn32tab", laid_math_bits_deBruijn32tab), ("math/bits.deBruijn64tab", laid_math_bits_deBruijn64tab), ("internal/strconv.uint64pow10", laid_internal_strconv_uint64pow10)] }
def ChunkedEncodeSaid : Prop := chunkedEncodeRow.holds Tryd.pinned (OpenSpec.ofChange chunkedEncodeSpec)

/-- ITS FALSE NEIGHBOUR: 'it returns false'. Refute it at one input. -/
def chunkedEncodeWrong : ChangeSpec := { name := "chunkedEncode", fn := fun _ => fun
  | [d1, d2] => { results := [.lit (.bool false)], args := [d1, d2] }
  | _ => none }
def ChunkedEncodeWrongFalsely : Prop := chunkedEncodeRow.holds Tryd.pinned (OpenSpec.ofChange chunkedEncodeWrong)

/-- 'canarylaw09.ChunkedTorn': WHATEVER THE INPUT: true; the input reads as it did. -/
def chunkedTornSpec : ChangeSpec := { name := "chunkedTorn", fn := fun _ => fun
  | [d1, d2] => { results := [.lit (.bool true)], args := [d1, d2] }
  | _ => none }
def chunkedTornRow : OpenClaim := { program := "ytiokdhklhnhfhaadoor", sum := "7df021f2ec9c7eaf814dfaa0c33b8f33db6759b2514e669d9d812d3bcae4d521", func := "canary/canarylaw09.ChunkedTorn", spec := "chunkedTorn", inPlace := ["internal/bytealg.IndexByteString", "internal/bytealg.IndexString"], named := ["internal/bytealg.MaxLen", "internal/strconv.uint64pow10", "math/bits.deBruijn32tab", "math/bits.deBruijn64tab"], apart := false, laid := [("math/bits.deBruijn32tab", laid_math_bits_deBruijn32tab), ("math/bits.deBruijn64tab", laid_math_bits_deBruijn64tab), ("internal/strconv.uint64pow10", laid_internal_strconv_uint64pow10)] }
def ChunkedTornSaid : Prop := chunkedTornRow.holds Tryd.pinned (OpenSpec.ofChange chunkedTornSpec)

/-- ITS FALSE NEIGHBOUR: 'it returns false'. Refute it at one input. -/
def chunkedTornWrong : ChangeSpec := { name := "chunkedTorn", fn := fun _ => fun
  | [d1, d2] => { results := [.lit (.bool false)], args := [d1, d2] }
  | _ => none }
def ChunkedTornWrongFalsely : Prop := chunkedTornRow.holds Tryd.pinned (OpenSpec.ofChange chunkedTornWrong)

/-- 'canarylaw09.ChunkedLimits': WHATEVER THE INPUT: true; the input reads as it did. -/
def chunkedLimitsSpec : ChangeSpec := { name := "chunkedLimits", fn := fun _ => fun
  | [d1, d2] => { results := [.lit (.bool true)], args := [d1, d2] }
  | _ => none }
def chunkedLimitsRow : OpenClaim := { program := "ytiokdhklhnhfhaadoor", sum := "7df021f2ec9c7eaf814dfaa0c33b8f33db6759b2514e669d9d812d3bcae4d521", func := "canary/canarylaw09.ChunkedLimits", spec := "chunkedLimits", inPlace := ["internal/bytealg.IndexByteString", "internal/bytealg.IndexString"], named := ["internal/bytealg.MaxLen", "internal/strconv.uint64pow10", "math/bits.deBruijn32tab", "math/bits.deBruijn64tab"], apart := false, laid := [("math/bits.deBruijn32tab", laid_math_bits_deBruijn32tab), ("math/bits.deBruijn64tab", laid_math_bits_deBruijn64tab), ("internal/strconv.uint64pow10", laid_internal_strconv_uint64pow10)] }
def ChunkedLimitsSaid : Prop := chunkedLimitsRow.holds Tryd.pinned (OpenSpec.ofChange chunkedLimitsSpec)

/-- ITS FALSE NEIGHBOUR: 'it returns false'. Refute it at one input. -/
def chunkedLimitsWrong : ChangeSpec := { name := "chunkedLimits", fn := fun _ => fun
  | [d1, d2] => { results := [.lit (.bool false)], args := [d1, d2] }
  | _ => none }
def ChunkedLimitsWrongFalsely : Prop := chunkedLimitsRow.holds Tryd.pinned (OpenSpec.ofChange chunkedLimitsWrong)

/-- 'canarylaw25.AdminReads': WHATEVER THE INPUT: true; the input reads as it did. -/
def adminReadsSpec : ChangeSpec := { name := "adminReads", fn := fun _ => fun
  | [d1, d2, d3, d4] => { results := [.lit (.bool true)], args := [d1, d2, d3, d4] }
  | _ => none }
def adminReadsRow : OpenClaim := { program := "ytiokdhklhnhfhaadoor", sum := "7df021f2ec9c7eaf814dfaa0c33b8f33db6759b2514e669d9d812d3bcae4d521", func := "canary/canarylaw25.AdminReads", spec := "adminReads", inPlace := ["internal/bytealg.IndexByteString", "internal/bytealg.IndexString", "internal/abi.NoEscape", "internal/bytealg.MakeNoZero"], unfollowed := true, recurses := true, named := ["internal/bytealg.MaxLen", "canary/admin.commands", "canary/admin.names", "internal/strconv.uint64pow10", "math/bits.deBruijn32tab", "math/bits.deBruijn64tab", "canary/writer.reasons"], apart := false, laid := [("math/bits.deBruijn32tab", laid_math_bits_deBruijn32tab), ("math/bits.deBruijn64tab", laid_math_bits_deBruijn64tab), ("internal/strconv.uint64pow10", laid_internal_strconv_uint64pow10), ("canary/writer.reasons", laid_canary_writer_reasons), ("canary/admin.names", laid_canary_admin_names), ("canary/admin.commands", laid_canary_admin_commands)] }
def AdminReadsSaid : Prop := adminReadsRow.holds Tryd.pinned (OpenSpec.ofChange adminReadsSpec)

/-- ITS FALSE NEIGHBOUR: 'it returns false'. Refute it at one input. -/
def adminReadsWrong : ChangeSpec := { name := "adminReads", fn := fun _ => fun
  | [d1, d2, d3, d4] => { results := [.lit (.bool false)], args := [d1, d2, d3, d4] }
  | _ => none }
def AdminReadsWrongFalsely : Prop := adminReadsRow.holds Tryd.pinned (OpenSpec.ofChange adminReadsWrong)

/-- 'canarylaw25.AdminLength': WHATEVER THE INPUT: true; the input reads as it did. -/
def adminLengthSpec : ChangeSpec := { name := "adminLength", fn := fun _ => fun
  | [d1, d2, d3, d4] => { results := [.lit (.bool true)], args := [d1, d2, d3, d4] }
  | _ => none }
def adminLengthRow : OpenClaim := { program := "ytiokdhklhnhfhaadoor", sum := "7df021f2ec9c7eaf814dfaa0c33b8f33db6759b2514e669d9d812d3bcae4d521", func := "canary/canarylaw25.AdminLength", spec := "adminLength", inPlace := ["internal/bytealg.IndexByteString", "internal/bytealg.IndexString", "internal/abi.NoEscape", "internal/bytealg.MakeNoZero"], unfollowed := true, recurses := true, named := ["internal/bytealg.MaxLen", "canary/admin.commands", "canary/admin.names", "internal/strconv.uint64pow10", "math/bits.deBruijn32tab", "math/bits.deBruijn64tab", "canary/writer.reasons"], apart := false, laid := [("math/bits.deBruijn32tab", laid_math_bits_deBruijn32tab), ("math/bits.deBruijn64tab", laid_math_bits_deBruijn64tab), ("internal/strconv.uint64pow10", laid_internal_strconv_uint64pow10), ("canary/writer.reasons", laid_canary_writer_reasons), ("canary/admin.names", laid_canary_admin_names), ("canary/admin.commands", laid_canary_admin_commands)] }
def AdminLengthSaid : Prop := adminLengthRow.holds Tryd.pinned (OpenSpec.ofChange adminLengthSpec)

/-- ITS FALSE NEIGHBOUR: 'it returns false'. Refute it at one input. -/
def adminLengthWrong : ChangeSpec := { name := "adminLength", fn := fun _ => fun
  | [d1, d2, d3, d4] => { results := [.lit (.bool false)], args := [d1, d2, d3, d4] }
  | _ => none }
def AdminLengthWrongFalsely : Prop := adminLengthRow.holds Tryd.pinned (OpenSpec.ofChange adminLengthWrong)

/-- 'canarylaw25.AdminCommands': WHATEVER THE INPUT: true; the input reads as it did. -/
def adminCommandsSpec : ChangeSpec := { name := "adminCommands", fn := fun _ => fun
  | [d1, d2] => { results := [.lit (.bool true)], args := [d1, d2] }
  | _ => none }
def adminCommandsRow : OpenClaim := { program := "ytiokdhklhnhfhaadoor", sum := "7df021f2ec9c7eaf814dfaa0c33b8f33db6759b2514e669d9d812d3bcae4d521", func := "canary/canarylaw25.AdminCommands", spec := "adminCommands", inPlace := ["internal/bytealg.IndexByteString", "internal/bytealg.IndexString", "internal/abi.NoEscape", "internal/bytealg.MakeNoZero"], unfollowed := true, recurses := true, named := ["internal/bytealg.MaxLen", "canary/admin.commands", "canary/admin.names", "internal/strconv.uint64pow10", "math/bits.deBruijn32tab", "math/bits.deBruijn64tab", "canary/writer.reasons"], apart := false, laid := [("math/bits.deBruijn32tab", laid_math_bits_deBruijn32tab), ("math/bits.deBruijn64tab", laid_math_bits_deBruijn64tab), ("internal/strconv.uint64pow10", laid_internal_strconv_uint64pow10), ("canary/writer.reasons", laid_canary_writer_reasons), ("canary/admin.names", laid_canary_admin_names), ("canary/admin.commands", laid_canary_admin_commands)] }
def AdminCommandsSaid : Prop := adminCommandsRow.holds Tryd.pinned (OpenSpec.ofChange adminCommandsSpec)

/-- ITS FALSE NEIGHBOUR: 'it returns false'. Refute it at one input. -/
def adminCommandsWrong : ChangeSpec := { name := "adminCommands", fn := fun _ => fun
  | [d1, d2] => { results := [.lit (.bool false)], args := [d1, d2] }
  | _ => none }
def AdminCommandsWrongFalsely : Prop := adminCommandsRow.holds Tryd.pinned (OpenSpec.ofChange adminCommandsWrong)

/-- 'canarylaw19.NormalOrder': WHATEVER THE INPUT: true; the input reads as it did. -/
def normalOrderSpec : ChangeSpec := { name := "normalOrder", fn := fun _ => fun
  | [d1, d2] => { results := [.lit (.bool true)], args := [d1, d2] }
  | _ => none }
def normalOrderRow : OpenClaim := { program := "ytiokdhklhnhfhaadoor", sum := "7df021f2ec9c7eaf814dfaa0c33b8f33db6759b2514e669d9d812d3bcae4d521", func := "canary/canarylaw19.NormalOrder", spec := "normalOrder", inPlace := ["internal/bytealg.CountString", "internal/bytealg.IndexByteString", "internal/bytealg.IndexString", "internal/abi.NoEscape", "internal/bytealg.MakeNoZero", "internal/bytealg.abigen_runtime_cmpstring"], unfollowed := true, recurses := true, named := ["unicode/utf8.first", "unicode/utf8.acceptRanges", "internal/bytealg.MaxLen"], apart := false, laid := [("unicode/utf8.acceptRanges", laid_unicode_utf8_acceptRanges), ("unicode/utf8.first", laid_unicode_utf8_first)] }
def NormalOrderSaid : Prop := normalOrderRow.holds Tryd.pinned (OpenSpec.ofChange normalOrderSpec)

/-- ITS FALSE NEIGHBOUR: 'it returns false'. Refute it at one input. -/
def normalOrderWrong : ChangeSpec := { name := "normalOrder", fn := fun _ => fun
  | [d1, d2] => { results := [.lit (.bool false)], args := [d1, d2] }
  | _ => none }
def NormalOrderWrongFalsely : Prop := normalOrderRow.holds Tryd.pinned (OpenSpec.ofChange normalOrderWrong)

/-- 'canarylaw19.NormalTwice': WHATEVER THE INPUT: true; the input reads as it did. -/
def normalTwiceSpec : ChangeSpec := { name := "normalTwice", fn := fun _ => fun
  | [d1, d2, d3] => { results := [.lit (.bool true)], args := [d1, d2, d3] }
  | _ => none }
def normalTwiceRow : OpenClaim := { program := "ytiokdhklhnhfhaadoor", sum := "7df021f2ec9c7eaf814dfaa0c33b8f33db6759b2514e669d9d812d3bcae4d521", func := "canary/canarylaw19.NormalTwice", spec := "normalTwice", inPlace := ["internal/bytealg.CountString", "internal/bytealg.IndexByteString", "internal/bytealg.IndexString", "internal/abi.NoEscape", "internal/bytealg.MakeNoZero", "internal/bytealg.abigen_runtime_cmpstring"], unfollowed := true, recurses := true, named := ["unicode/utf8.first", "unicode/utf8.acceptRanges", "internal/bytealg.MaxLen"], apart := false, laid := [("unicode/utf8.acceptRanges", laid_unicode_utf8_acceptRanges), ("unicode/utf8.first", laid_unicode_utf8_first)] }
def NormalTwiceSaid : Prop := normalTwiceRow.holds Tryd.pinned (OpenSpec.ofChange normalTwiceSpec)

/-- ITS FALSE NEIGHBOUR: 'it returns false'. Refute it at one input. -/
def normalTwiceWrong : ChangeSpec := { name := "normalTwice", fn := fun _ => fun
  | [d1, d2, d3] => { results := [.lit (.bool false)], args := [d1, d2, d3] }
  | _ => none }
def NormalTwiceWrongFalsely : Prop := normalTwiceRow.holds Tryd.pinned (OpenSpec.ofChange normalTwiceWrong)

/- THE SECOND FORM. 'bulk': how many values and letters a reading holds, each counted each time it is reached (what is shared counts as often as it is met; a slice's spare places count too). A statement '..UptoSaid' is the law's where the arguments, and the package variables that the reading takes, are together of bulk at most 1048576: NARROWER than '..Said'. Prove '..Said' where nothing that the law and all that it calls make is longer than what came in: it says more and counts as full. Else prove '..UptoSaid'. A law counts once. -/
mutual
def uptoBulk {H : Type} : DataW H → Nat
  | .lit (.string bytes) => bytes.length + 1
  | .lit _ => 1
  | .nil => 1
  | .ptr d => uptoBulk d + 1
  | .slice elems spare => uptoBulkAll elems + uptoBulkAll spare + 1
  | .agg parts => uptoBulkAll parts + 1
  | .iface _ d => uptoBulk d + 1
  | .map entries => uptoBulkEntries entries + 1
  | .held _ => 1
def uptoBulkAll {H : Type} : List (DataW H) → Nat
  | [] => 0
  | d :: r => uptoBulk d + uptoBulkAll r
def uptoBulkEntries {H : Type} : List (Lit × DataW H) → Nat
  | [] => 0
  | x :: r => uptoBulkEntry x + uptoBulkEntries r
def uptoBulkEntry {H : Type} : Lit × DataW H → Nat
  | (.string bytes, d) => bytes.length + uptoBulk d + 1
  | (_, d) => uptoBulk d + 1
 end
def uptoSmall : (H : Type) → List (DataW H) → Bool := fun _ ds => decide (uptoBulkAll ds ≤ 1048576)
def OpenSpec.upto (s : _root_.Go.ChangeSpec) : _root_.Go.OpenSpec := { _root_.Go.OpenSpec.ofChange s with cond := some uptoSmall }

/-- 'canarylaw26.ListenerHandle', WHERE WHAT IT READS IS OF BULK AT MOST 1048576: true; the input reads as it did. -/
def listenerHandleUptoRow : OpenClaim := { program := "ytiokdhklhnhfhaadoor", sum := "7df021f2ec9c7eaf814dfaa0c33b8f33db6759b2514e669d9d812d3bcae4d521", func := "canary/canarylaw26.ListenerHandle", spec := "listenerHandle", inPlace := ["internal/bytealg.IndexByteString", "internal/bytealg.IndexString", "internal/abi.NoEscape", "internal/bytealg.MakeNoZero"], unfollowed := true, recurses := true, named := ["internal/bytealg.MaxLen", "internal/strconv.uint64pow10", "math/bits.deBruijn32tab", "math/bits.deBruijn64tab", "canary/writer.reasons"], apart := false, laid := [("math/bits.deBruijn32tab", laid_math_bits_deBruijn32tab), ("math/bits.deBruijn64tab", laid_math_bits_deBruijn64tab), ("internal/strconv.uint64pow10", laid_internal_strconv_uint64pow10), ("canary/writer.reasons", laid_canary_writer_reasons)], narrowed := true }
def ListenerHandleUptoSaid : Prop := listenerHandleUptoRow.holds Tryd.pinned (OpenSpec.upto listenerHandleSpec)

/-- 'canarylaw26.ListenerHead', WHERE WHAT IT READS IS OF BULK AT MOST 1048576: true; the input reads as it did. -/
def listenerHeadUptoRow : OpenClaim := { program := "ytiokdhklhnhfhaadoor", sum := "7df021f2ec9c7eaf814dfaa0c33b8f33db6759b2514e669d9d812d3bcae4d521", func := "canary/canarylaw26.ListenerHead", spec := "listenerHead", inPlace := ["internal/bytealg.IndexByteString", "internal/bytealg.IndexString", "internal/abi.NoEscape", "internal/bytealg.MakeNoZero"], unfollowed := true, recurses := true, named := ["internal/bytealg.MaxLen", "internal/strconv.uint64pow10", "math/bits.deBruijn32tab", "math/bits.deBruijn64tab", "canary/writer.reasons"], apart := false, laid := [("math/bits.deBruijn32tab", laid_math_bits_deBruijn32tab), ("math/bits.deBruijn64tab", laid_math_bits_deBruijn64tab), ("internal/strconv.uint64pow10", laid_internal_strconv_uint64pow10), ("canary/writer.reasons", laid_canary_writer_reasons)], narrowed := true }
def ListenerHeadUptoSaid : Prop := listenerHeadUptoRow.holds Tryd.pinned (OpenSpec.upto listenerHeadSpec)

/-- 'canarylaw09.ChunkedFeed', WHERE WHAT IT READS IS OF BULK AT MOST 1048576: true; the input reads as it did. -/
def chunkedFeedUptoRow : OpenClaim := { program := "ytiokdhklhnhfhaadoor", sum := "7df021f2ec9c7eaf814dfaa0c33b8f33db6759b2514e669d9d812d3bcae4d521", func := "canary/canarylaw09.ChunkedFeed", spec := "chunkedFeed", inPlace := ["internal/bytealg.IndexByteString", "internal/bytealg.IndexString"], named := ["internal/bytealg.MaxLen", "internal/strconv.uint64pow10", "math/bits.deBruijn32tab", "math/bits.deBruijn64tab"], apart := false, laid := [("math/bits.deBruijn32tab", laid_math_bits_deBruijn32tab), ("math/bits.deBruijn64tab", laid_math_bits_deBruijn64tab), ("internal/strconv.uint64pow10", laid_internal_strconv_uint64pow10)], narrowed := true }
def ChunkedFeedUptoSaid : Prop := chunkedFeedUptoRow.holds Tryd.pinned (OpenSpec.upto chunkedFeedSpec)

/-- 'canarylaw09.ChunkedPieces', WHERE WHAT IT READS IS OF BULK AT MOST 1048576: true; the input reads as it did. -/
def chunkedPiecesUptoRow : OpenClaim := { program := "ytiokdhklhnhfhaadoor", sum := "7df021f2ec9c7eaf814dfaa0c33b8f33db6759b2514e669d9d812d3bcae4d521", func := "canary/canarylaw09.ChunkedPieces", spec := "chunkedPieces", inPlace := ["internal/bytealg.IndexByteString", "internal/bytealg.IndexString"], named := ["internal/bytealg.MaxLen", "internal/strconv.uint64pow10", "math/bits.deBruijn32tab", "math/bits.deBruijn64tab"], apart := false, laid := [("math/bits.deBruijn32tab", laid_math_bits_deBruijn32tab), ("math/bits.deBruijn64tab", laid_math_bits_deBruijn64tab), ("internal/strconv.uint64pow10", laid_internal_strconv_uint64pow10)], narrowed := true }
def ChunkedPiecesUptoSaid : Prop := chunkedPiecesUptoRow.holds Tryd.pinned (OpenSpec.upto chunkedPiecesSpec)

/-- 'canarylaw09.ChunkedDecode', WHERE WHAT IT READS IS OF BULK AT MOST 1048576: true; the input reads as it did. -/
def chunkedDecodeUptoRow : OpenClaim := { program := "ytiokdhklhnhfhaadoor", sum := "7df021f2ec9c7eaf814dfaa0c33b8f33db6759b2514e669d9d812d3bcae4d521", func := "canary/canarylaw09.ChunkedDecode", spec := "chunkedDecode", inPlace := ["internal/bytealg.IndexByteString", "internal/bytealg.IndexString"], named := ["internal/bytealg.MaxLen", "internal/strconv.uint64pow10", "math/bits.deBruijn32tab", "math/bits.deBruijn64tab"], apart := false, laid := [("math/bits.deBruijn32tab", laid_math_bits_deBruijn32tab), ("math/bits.deBruijn64tab", laid_math_bits_deBruijn64tab), ("internal/strconv.uint64pow10", laid_internal_strconv_uint64pow10)], narrowed := true }
def ChunkedDecodeUptoSaid : Prop := chunkedDecodeUptoRow.holds Tryd.pinned (OpenSpec.upto chunkedDecodeSpec)

/-- 'canarylaw09.ChunkedEncode', WHERE WHAT IT READS IS OF BULK AT MOST 1048576: true; the input reads as it did. -/
def chunkedEncodeUptoRow : OpenClaim := { program := "ytiokdhklhnhfhaadoor", sum := "7df021f2ec9c7eaf814dfaa0c33b8f33db6759b2514e669d9d812d3bcae4d521", func := "canary/canarylaw09.ChunkedEncode", spec := "chunkedEncode", inPlace := ["internal/bytealg.IndexByteString", "internal/bytealg.IndexString"], named := ["internal/strconv.uint64pow10", "math/bits.deBruijn32tab", "math/bits.deBruijn64tab", "internal/bytealg.MaxLen"], apart := false, laid := [("math/bits.deBruijn32tab", laid_math_bits_deBruijn32tab), ("math/bits.deBruijn64tab", laid_math_bits_deBruijn64tab), ("internal/strconv.uint64pow10", laid_internal_strconv_uint64pow10)], narrowed := true }
def ChunkedEncodeUptoSaid : Prop := chunkedEncodeUptoRow.holds Tryd.pinned (OpenSpec.upto chunkedEncodeSpec)

/-- 'canarylaw09.ChunkedTorn', WHERE WHAT IT READS IS OF BULK AT MOST 1048576: true; the input reads as it did. -/
def chunkedTornUptoRow : OpenClaim := { program := "ytiokdhklhnhfhaadoor", sum := "7df021f2ec9c7eaf814dfaa0c33b8f33db6759b2514e669d9d812d3bcae4d521", func := "canary/canarylaw09.ChunkedTorn", spec := "chunkedTorn", inPlace := ["internal/bytealg.IndexByteString", "internal/bytealg.IndexString"], named := ["internal/bytealg.MaxLen", "internal/strconv.uint64pow10", "math/bits.deBruijn32tab", "math/bits.deBruijn64tab"], apart := false, laid := [("math/bits.deBruijn32tab", laid_math_bits_deBruijn32tab), ("math/bits.deBruijn64tab", laid_math_bits_deBruijn64tab), ("internal/strconv.uint64pow10", laid_internal_strconv_uint64pow10)], narrowed := true }
def ChunkedTornUptoSaid : Prop := chunkedTornUptoRow.holds Tryd.pinned (OpenSpec.upto chunkedTornSpec)

/-- 'canarylaw09.ChunkedLimits', WHERE WHAT IT READS IS OF BULK AT MOST 1048576: true; the input reads as it did. -/
def chunkedLimitsUptoRow : OpenClaim := { program := "ytiokdhklhnhfhaadoor", sum := "7df021f2ec9c7eaf814dfaa0c33b8f33db6759b2514e669d9d812d3bcae4d521", func := "canary/canarylaw09.ChunkedLimits", spec := "chunkedLimits", inPlace := ["internal/bytealg.IndexByteString", "internal/bytealg.IndexString"], named := ["internal/bytealg.MaxLen", "internal/strconv.uint64pow10", "math/bits.deBruijn32tab", "math/bits.deBruijn64tab"], apart := false, laid := [("math/bits.deBruijn32tab", laid_math_bits_deBruijn32tab), ("math/bits.deBruijn64tab", laid_math_bits_deBruijn64tab), ("internal/strconv.uint64pow10", laid_internal_strconv_uint64pow10)], narrowed := true }
def ChunkedLimitsUptoSaid : Prop := chunkedLimitsUptoRow.holds Tryd.pinned (OpenSpec.upto chunkedLimitsSpec)

/-- 'canarylaw25.AdminReads', WHERE WHAT IT READS IS OF BULK AT MOST 1048576: true; the input reads as it did. -/
def adminReadsUptoRow : OpenClaim := { program := "ytiokdhklhnhfhaadoor", sum := "7df021f2ec9c7eaf814dfaa0c33b8f33db6759b2514e669d9d812d3bcae4d521", func := "canary/canarylaw25.AdminReads", spec := "adminReads", inPlace := ["internal/bytealg.IndexByteString", "internal/bytealg.IndexString", "internal/abi.NoEscape", "internal/bytealg.MakeNoZero"], unfollowed := true, recurses := true, named := ["internal/bytealg.MaxLen", "canary/admin.commands", "canary/admin.names", "internal/strconv.uint64pow10", "math/bits.deBruijn32tab", "math/bits.deBruijn64tab", "canary/writer.reasons"], apart := false, laid := [("math/bits.deBruijn32tab", laid_math_bits_deBruijn32tab), ("math/bits.deBruijn64tab", laid_math_bits_deBruijn64tab), ("internal/strconv.uint64pow10", laid_internal_strconv_uint64pow10), ("canary/writer.reasons", laid_canary_writer_reasons), ("canary/admin.names", laid_canary_admin_names), ("canary/admin.commands", laid_canary_admin_commands)], narrowed := true }
def AdminReadsUptoSaid : Prop := adminReadsUptoRow.holds Tryd.pinned (OpenSpec.upto adminReadsSpec)

/-- 'canarylaw25.AdminLength', WHERE WHAT IT READS IS OF BULK AT MOST 1048576: true; the input reads as it did. -/
def adminLengthUptoRow : OpenClaim := { program := "ytiokdhklhnhfhaadoor", sum := "7df021f2ec9c7eaf814dfaa0c33b8f33db6759b2514e669d9d812d3bcae4d521", func := "canary/canarylaw25.AdminLength", spec := "adminLength", inPlace := ["internal/bytealg.IndexByteString", "internal/bytealg.IndexString", "internal/abi.NoEscape", "internal/bytealg.MakeNoZero"], unfollowed := true, recurses := true, named := ["internal/bytealg.MaxLen", "canary/admin.commands", "canary/admin.names", "internal/strconv.uint64pow10", "math/bits.deBruijn32tab", "math/bits.deBruijn64tab", "canary/writer.reasons"], apart := false, laid := [("math/bits.deBruijn32tab", laid_math_bits_deBruijn32tab), ("math/bits.deBruijn64tab", laid_math_bits_deBruijn64tab), ("internal/strconv.uint64pow10", laid_internal_strconv_uint64pow10), ("canary/writer.reasons", laid_canary_writer_reasons), ("canary/admin.names", laid_canary_admin_names), ("canary/admin.commands", laid_canary_admin_commands)], narrowed := true }
def AdminLengthUptoSaid : Prop := adminLengthUptoRow.holds Tryd.pinned (OpenSpec.upto adminLengthSpec)

/-- 'canarylaw25.AdminCommands', WHERE WHAT IT READS IS OF BULK AT MOST 1048576: true; the input reads as it did. -/
def adminCommandsUptoRow : OpenClaim := { program := "ytiokdhklhnhfhaadoor", sum := "7df021f2ec9c7eaf814dfaa0c33b8f33db6759b2514e669d9d812d3bcae4d521", func := "canary/canarylaw25.AdminCommands", spec := "adminCommands", inPlace := ["internal/bytealg.IndexByteString", "internal/bytealg.IndexString", "internal/abi.NoEscape", "internal/bytealg.MakeNoZero"], unfollowed := true, recurses := true, named := ["internal/bytealg.MaxLen", "canary/admin.commands", "canary/admin.names", "internal/strconv.uint64pow10", "math/bits.deBruijn32tab", "math/bits.deBruijn64tab", "canary/writer.reasons"], apart := false, laid := [("math/bits.deBruijn32tab", laid_math_bits_deBruijn32tab), ("math/bits.deBruijn64tab", laid_math_bits_deBruijn64tab), ("internal/strconv.uint64pow10", laid_internal_strconv_uint64pow10), ("canary/writer.reasons", laid_canary_writer_reasons), ("canary/admin.names", laid_canary_admin_names), ("canary/admin.commands", laid_canary_admin_commands)], narrowed := true }
def AdminCommandsUptoSaid : Prop := adminCommandsUptoRow.holds Tryd.pinned (OpenSpec.upto adminCommandsSpec)

/-- 'canarylaw19.NormalOrder', WHERE WHAT IT READS IS OF BULK AT MOST 1048576: true; the input reads as it did. -/
def normalOrderUptoRow : OpenClaim := { program := "ytiokdhklhnhfhaadoor", sum := "7df021f2ec9c7eaf814dfaa0c33b8f33db6759b2514e669d9d812d3bcae4d521", func := "canary/canarylaw19.NormalOrder", spec := "normalOrder", inPlace := ["internal/bytealg.CountString", "internal/bytealg.IndexByteString", "internal/bytealg.IndexString", "internal/abi.NoEscape", "internal/bytealg.MakeNoZero", "internal/bytealg.abigen_runtime_cmpstring"], unfollowed := true, recurses := true, named := ["unicode/utf8.first", "unicode/utf8.acceptRanges", "internal/bytealg.MaxLen"], apart := false, laid := [("unicode/utf8.acceptRanges", laid_unicode_utf8_acceptRanges), ("unicode/utf8.first", laid_unicode_utf8_first)], narrowed := true }
def NormalOrderUptoSaid : Prop := normalOrderUptoRow.holds Tryd.pinned (OpenSpec.upto normalOrderSpec)

/-- 'canarylaw19.NormalTwice', WHERE WHAT IT READS IS OF BULK AT MOST 1048576: true; the input reads as it did. -/
def normalTwiceUptoRow : OpenClaim := { program := "ytiokdhklhnhfhaadoor", sum := "7df021f2ec9c7eaf814dfaa0c33b8f33db6759b2514e669d9d812d3bcae4d521", func := "canary/canarylaw19.NormalTwice", spec := "normalTwice", inPlace := ["internal/bytealg.CountString", "internal/bytealg.IndexByteString", "internal/bytealg.IndexString", "internal/abi.NoEscape", "internal/bytealg.MakeNoZero", "internal/bytealg.abigen_runtime_cmpstring"], unfollowed := true, recurses := true, named := ["unicode/utf8.first", "unicode/utf8.acceptRanges", "internal/bytealg.MaxLen"], apart := false, laid := [("unicode/utf8.acceptRanges", laid_unicode_utf8_acceptRanges), ("unicode/utf8.first", laid_unicode_utf8_first)], narrowed := true }
def NormalTwiceUptoSaid : Prop := normalTwiceUptoRow.holds Tryd.pinned (OpenSpec.upto normalTwiceSpec)

end Rows
end Go.Proofs.YtiokdhklhnhfhaaDoor
