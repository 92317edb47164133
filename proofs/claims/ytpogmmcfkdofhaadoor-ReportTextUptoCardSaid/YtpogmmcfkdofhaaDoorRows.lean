/-
  NARROWER THAN 'FOR EVERY INPUT', by the rows' own cells (each row's printed sentence says how): NumberPrint: laid · NumberParse: laid · NumberLimit: laid · NumberAdd: laid · NumberAddOrder: laid · JsonWrite: laid · JsonPlain: laid · JsonQuote: laid · JsonUnquote: laid · ReportAdd: laid · ReportText: laid · ReportLast: laid · ReportFull: laid.
  DERIVED. THE GIVEN ROWS OF THIS SEAT. 13 by the template 'for every input the law returns true; each argument reads behind the call as it read before'; 0 by the template 'total and deterministic' (their statements: YtpogmmcfkdofhaaDoorTotals.lean).
  GIVEN WITH THE SEED: the statements are not yours to turn. If you find one false, say at which input.
  Laid BY PROGRAM, IN A SANDBOX (cutbox-rows.mjs): the forced cells as the released guide's own fill.sh prints them over the translation e4fa3e518459ccc5… (all of the seat's roots in one cut). By AI agents, Wed Nov 11 2026. No macro, syntax, notation, axiom, sorry.
-/
import Derived.Test.YtpogmmcfkdofhaaDoorChecked
import GoSem.Claim
import GoSem.ClaimJoined
import GoSem.ClaimMapViews
import Derived.JoinedTies
import Derived.KernelRfl
namespace Go.Proofs.YtpogmmcfkdofhaaDoor
/- THE CELL 'sum', in the pinned program and in every row, IS THE sha256 OF THE DUMP (.gsa) THAT YtpogmmcfkdofhaaDoorProg.lean LOADS. Nothing in Lean hashes anything: it is a label: what it is worth is what the hold of that sum in a sandbox is worth. -/
noncomputable def Tryd.pinned : Pinned := { name := "ytpogmmcfkdofhaadoor", sum := "e4fa3e518459ccc5f7c303bca677fd7461de34879d2c374e7b5262761ca990ad", checked := Tryd.checked }
namespace Rows
def none {H : Type} : Left H := { results := [], args := [] }

/- WHAT THE LISTED PACKAGE-LEVEL VARIABLES READ AS WHEN THE CALL BEGINS. Each datum BY PROGRAM (the guide's laid-datum.mjs) off the statement by which the dump's own 'gosem.cut.vars' lays the variable. In a bare row this is a premise. The card (YtpogmmcfkdofhaaDoorCards.lean) ties it to the program's text. -/
def laid_math_bits_deBruijn32tab {H : Type} : DataW H := .agg [.lit (.int .u8 0), .lit (.int .u8 1), .lit (.int .u8 28), .lit (.int .u8 2), .lit (.int .u8 29), .lit (.int .u8 14), .lit (.int .u8 24), .lit (.int .u8 3), .lit (.int .u8 30), .lit (.int .u8 22), .lit (.int .u8 20), .lit (.int .u8 15), .lit (.int .u8 25), .lit (.int .u8 17), .lit (.int .u8 4), .lit (.int .u8 8), .lit (.int .u8 31), .lit (.int .u8 27), .lit (.int .u8 13), .lit (.int .u8 23), .lit (.int .u8 21), .lit (.int .u8 19), .lit (.int .u8 16), .lit (.int .u8 7), .lit (.int .u8 26), .lit (.int .u8 12), .lit (.int .u8 18), .lit (.int .u8 6), .lit (.int .u8 11), .lit (.int .u8 5), .lit (.int .u8 10), .lit (.int .u8 9)]
def laid_math_bits_deBruijn64tab {H : Type} : DataW H := .agg [.lit (.int .u8 0), .lit (.int .u8 1), .lit (.int .u8 56), .lit (.int .u8 2), .lit (.int .u8 57), .lit (.int .u8 49), .lit (.int .u8 28), .lit (.int .u8 3), .lit (.int .u8 61), .lit (.int .u8 58), .lit (.int .u8 42), .lit (.int .u8 50), .lit (.int .u8 38), .lit (.int .u8 29), .lit (.int .u8 17), .lit (.int .u8 4), .lit (.int .u8 62), .lit (.int .u8 47), .lit (.int .u8 59), .lit (.int .u8 36), .lit (.int .u8 45), .lit (.int .u8 43), .lit (.int .u8 51), .lit (.int .u8 22), .lit (.int .u8 53), .lit (.int .u8 39), .lit (.int .u8 33), .lit (.int .u8 30), .lit (.int .u8 24), .lit (.int .u8 18), .lit (.int .u8 12), .lit (.int .u8 5), .lit (.int .u8 63), .lit (.int .u8 55), .lit (.int .u8 48), .lit (.int .u8 27), .lit (.int .u8 60), .lit (.int .u8 41), .lit (.int .u8 37), .lit (.int .u8 16), .lit (.int .u8 46), .lit (.int .u8 35), .lit (.int .u8 44), .lit (.int .u8 21), .lit (.int .u8 52), .lit (.int .u8 32), .lit (.int .u8 23), .lit (.int .u8 11), .lit (.int .u8 54), .lit (.int .u8 26), .lit (.int .u8 40), .lit (.int .u8 15), .lit (.int .u8 34), .lit (.int .u8 20), .lit (.int .u8 31), .lit (.int .u8 10), .lit (.int .u8 25), .lit (.int .u8 14), .lit (.int .u8 19), .lit (.int .u8 9), .lit (.int .u8 13), .lit (.int .u8 8), .lit (.int .u8 7), .lit (.int .u8 6)]
def laid_internal_strconv_uint64pow10 {H : Type} : DataW H := .agg [.lit (.int .u64 1), .lit (.int .u64 10), .lit (.int .u64 100), .lit (.int .u64 1000), .lit (.int .u64 10000), .lit (.int .u64 100000), .lit (.int .u64 1000000), .lit (.int .u64 10000000), .lit (.int .u64 100000000), .lit (.int .u64 1000000000), .lit (.int .u64 10000000000), .lit (.int .u64 100000000000), .lit (.int .u64 1000000000000), .lit (.int .u64 10000000000000), .lit (.int .u64 100000000000000), .lit (.int .u64 1000000000000000), .lit (.int .u64 10000000000000000), .lit (.int .u64 100000000000000000), .lit (.int .u64 1000000000000000000), .lit (.int .u64 10000000000000000000)]

/-- 'canarylaw02.NumberPrint': WHATEVER THE INPUT: true; the input reads as it did. -/
def numberPrintSpec : ChangeSpec := { name := "numberPrint", fn := fun _ => fun
  | [d] => { results := [.lit (.bool true)], args := [d] }
  | _ => none }
def numberPrintRow : OpenClaim := { program := "ytpogmmcfkdofhaadoor", sum := "e4fa3e518459ccc5f7c303bca677fd7461de34879d2c374e7b5262761ca990ad", func := "canary/canarylaw02.NumberPrint", spec := "numberPrint", named := ["internal/strconv.uint64pow10", "math/bits.deBruijn32tab", "math/bits.deBruijn64tab"], apart := false, laid := [("math/bits.deBruijn32tab", laid_math_bits_deBruijn32tab), ("math/bits.deBruijn64tab", laid_math_bits_deBruijn64tab), ("internal/strconv.uint64pow10", laid_internal_strconv_uint64pow10)] }
def NumberPrintSaid : Prop := numberPrintRow.holds Tryd.pinned (OpenSpec.ofChange numberPrintSpec)

/-- ITS FALSE NEIGHBOUR: 'it returns false'. Refute it at one input. -/
def numberPrintWrong : ChangeSpec := { name := "numberPrint", fn := fun _ => fun
  | [d] => { results := [.lit (.bool false)], args := [d] }
  | _ => none }
def NumberPrintWrongFalsely : Prop := numberPrintRow.holds Tryd.pinned (OpenSpec.ofChange numberPrintWrong)

/-- 'canarylaw02.NumberParse': WHATEVER THE INPUT: true; the input reads as it did. -/
def numberParseSpec : ChangeSpec := { name := "numberParse", fn := fun _ => fun
  | [d1, d2, d3, d4] => { results := [.lit (.bool true)], args := [d1, d2, d3, d4] }
  | _ => none }
def numberParseRow : OpenClaim := { program := "ytpogmmcfkdofhaadoor", sum := "e4fa3e518459ccc5f7c303bca677fd7461de34879d2c374e7b5262761ca990ad", func := "canary/canarylaw02.NumberParse", spec := "numberParse", named := ["internal/strconv.uint64pow10", "math/bits.deBruijn32tab", "math/bits.deBruijn64tab"], apart := false, laid := [("math/bits.deBruijn32tab", laid_math_bits_deBruijn32tab), ("math/bits.deBruijn64tab", laid_math_bits_deBruijn64tab), ("internal/strconv.uint64pow10", laid_internal_strconv_uint64pow10)] }
def NumberParseSaid : Prop := numberParseRow.holds Tryd.pinned (OpenSpec.ofChange numberParseSpec)

/-- ITS FALSE NEIGHBOUR: 'it returns false'. Refute it at one input. -/
def numberParseWrong : ChangeSpec := { name := "numberParse", fn := fun _ => fun
  | [d1, d2, d3, d4] => { results := [.lit (.bool false)], args := [d1, d2, d3, d4] }
  | _ => none }
def NumberParseWrongFalsely : Prop := numberParseRow.holds Tryd.pinned (OpenSpec.ofChange numberParseWrong)

/-- 'canarylaw02.NumberLimit': WHATEVER THE INPUT: true; the input reads as it did. -/
def numberLimitSpec : ChangeSpec := { name := "numberLimit", fn := fun _ => fun
  | [d1, d2] => { results := [.lit (.bool true)], args := [d1, d2] }
  | _ => none }
def numberLimitRow : OpenClaim := { program := "ytpogmmcfkdofhaadoor", sum := "e4fa3e518459ccc5f7c303bca677fd7461de34879d2c374e7b5262761ca990ad", func := "canary/canarylaw02.NumberLimit", spec := "numberLimit", named := ["internal/strconv.uint64pow10", "math/bits.deBruijn32tab", "math/bits.deBruijn64tab"], apart := false, laid := [("math/bits.deBruijn32tab", laid_math_bits_deBruijn32tab), ("math/bits.deBruijn64tab", laid_math_bits_deBruijn64tab), ("internal/strconv.uint64pow10", laid_internal_strconv_uint64pow10)] }
def NumberLimitSaid : Prop := numberLimitRow.holds Tryd.pinned (OpenSpec.ofChange numberLimitSpec)

/-- ITS FALSE NEIGHBOUR: 'it returns false'. Refute it at one input. -/
def numberLimitWrong : ChangeSpec := { name := "numberLimit", fn := fun _ => fun
  | [d1, d2] => { results := [.lit (.bool false)], args := [d1, d2] }
  | _ => none }
def NumberLimitWrongFalsely : Prop := numberLimitRow.holds Tryd.pinned (OpenSpec.ofChange numberLimitWrong)

/-- 'canarylaw02.NumberAdd': WHATEVER THE INPUT: true; the input reads as it did. -/
def numberAddSpec : ChangeSpec := { name := "numberAdd", fn := fun _ => fun
  | [d1, d2] => { results := [.lit (.bool true)], args := [d1, d2] }
  | _ => none }
def numberAddRow : OpenClaim := { program := "ytpogmmcfkdofhaadoor", sum := "e4fa3e518459ccc5f7c303bca677fd7461de34879d2c374e7b5262761ca990ad", func := "canary/canarylaw02.NumberAdd", spec := "numberAdd", named := ["internal/strconv.uint64pow10", "math/bits.deBruijn32tab", "math/bits.deBruijn64tab"], apart := false, laid := [("math/bits.deBruijn32tab", laid_math_bits_deBruijn32tab), ("math/bits.deBruijn64tab", laid_math_bits_deBruijn64tab), ("internal/strconv.uint64pow10", laid_internal_strconv_uint64pow10)] }
def NumberAddSaid : Prop := numberAddRow.holds Tryd.pinned (OpenSpec.ofChange numberAddSpec)

/-- ITS FALSE NEIGHBOUR: 'it returns false'. Refute it at one input. -/
def numberAddWrong : ChangeSpec := { name := "numberAdd", fn := fun _ => fun
  | [d1, d2] => { results := [.lit (.bool false)], args := [d1, d2] }
  | _ => none }
def NumberAddWrongFalsely : Prop := numberAddRow.holds Tryd.pinned (OpenSpec.ofChange numberAddWrong)

/-- 'canarylaw02.NumberAddOrder': WHATEVER THE INPUT: true; the input reads as it did. -/
def numberAddOrderSpec : ChangeSpec := { name := "numberAddOrder", fn := fun _ => fun
  | [d1, d2, d3, d4] => { results := [.lit (.bool true)], args := [d1, d2, d3, d4] }
  | _ => none }
def numberAddOrderRow : OpenClaim := { program := "ytpogmmcfkdofhaadoor", sum := "e4fa3e518459ccc5f7c303bca677fd7461de34879d2c374e7b5262761ca990ad", func := "canary/canarylaw02.NumberAddOrder", spec := "numberAddOrder", named := ["internal/strconv.uint64pow10", "math/bits.deBruijn32tab", "math/bits.deBruijn64tab"], apart := false, laid := [("math/bits.deBruijn32tab", laid_math_bits_deBruijn32tab), ("math/bits.deBruijn64tab", laid_math_bits_deBruijn64tab), ("internal/strconv.uint64pow10", laid_internal_strconv_uint64pow10)] }
def NumberAddOrderSaid : Prop := numberAddOrderRow.holds Tryd.pinned (OpenSpec.ofChange numberAddOrderSpec)

/-- ITS FALSE NEIGHBOUR: 'it returns false'. Refute it at one input. -/
def numberAddOrderWrong : ChangeSpec := { name := "numberAddOrder", fn := fun _ => fun
  | [d1, d2, d3, d4] => { results := [.lit (.bool false)], args := [d1, d2, d3, d4] }
  | _ => none }
def NumberAddOrderWrongFalsely : Prop := numberAddOrderRow.holds Tryd.pinned (OpenSpec.ofChange numberAddOrderWrong)

/-- 'canarylaw21.JsonWrite': WHATEVER THE INPUT: true; the input reads as it did. -/
def jsonWriteSpec : ChangeSpec := { name := "jsonWrite", fn := fun _ => fun
  | [d1, d2, d3] => { results := [.lit (.bool true)], args := [d1, d2, d3] }
  | _ => none }
def jsonWriteRow : OpenClaim := { program := "ytpogmmcfkdofhaadoor", sum := "e4fa3e518459ccc5f7c303bca677fd7461de34879d2c374e7b5262761ca990ad", func := "canary/canarylaw21.JsonWrite", spec := "jsonWrite", inPlace := ["internal/abi.NoEscape", "internal/bytealg.MakeNoZero"], unfollowed := true, recurses := true, named := ["internal/strconv.uint64pow10", "math/bits.deBruijn32tab", "math/bits.deBruijn64tab"], apart := false, laid := [("math/bits.deBruijn32tab", laid_math_bits_deBruijn32tab), ("math/bits.deBruijn64tab", laid_math_bits_deBruijn64tab), ("internal/strconv.uint64pow10", laid_internal_strconv_uint64pow10)] }
def JsonWriteSaid : Prop := jsonWriteRow.holds Tryd.pinned (OpenSpec.ofChange jsonWriteSpec)

/-- ITS FALSE NEIGHBOUR: 'it returns false'. Refute it at one input. -/
def jsonWriteWrong : ChangeSpec := { name := "jsonWrite", fn := fun _ => fun
  | [d1, d2, d3] => { results := [.lit (.bool false)], args := [d1, d2, d3] }
  | _ => none }
def JsonWriteWrongFalsely : Prop := jsonWriteRow.holds Tryd.pinned (OpenSpec.ofChange jsonWriteWrong)

/-- 'canarylaw21.JsonPlain': WHATEVER THE INPUT: true; the input reads as it did. -/
def jsonPlainSpec : ChangeSpec := { name := "jsonPlain", fn := fun _ => fun
  | [d1, d2] => { results := [.lit (.bool true)], args := [d1, d2] }
  | _ => none }
def jsonPlainRow : OpenClaim := { program := "ytpogmmcfkdofhaadoor", sum := "e4fa3e518459ccc5f7c303bca677fd7461de34879d2c374e7b5262761ca990ad", func := "canary/canarylaw21.JsonPlain", spec := "jsonPlain", inPlace := ["internal/abi.NoEscape", "internal/bytealg.MakeNoZero"], unfollowed := true, recurses := true, named := ["internal/strconv.uint64pow10", "math/bits.deBruijn32tab", "math/bits.deBruijn64tab"], apart := false, laid := [("math/bits.deBruijn32tab", laid_math_bits_deBruijn32tab), ("math/bits.deBruijn64tab", laid_math_bits_deBruijn64tab), ("internal/strconv.uint64pow10", laid_internal_strconv_uint64pow10)] }
def JsonPlainSaid : Prop := jsonPlainRow.holds Tryd.pinned (OpenSpec.ofChange jsonPlainSpec)

/-- ITS FALSE NEIGHBOUR: 'it returns false'. Refute it at one input. -/
def jsonPlainWrong : ChangeSpec := { name := "jsonPlain", fn := fun _ => fun
  | [d1, d2] => { results := [.lit (.bool false)], args := [d1, d2] }
  | _ => none }
def JsonPlainWrongFalsely : Prop := jsonPlainRow.holds Tryd.pinned (OpenSpec.ofChange jsonPlainWrong)

/-- 'canarylaw21.JsonQuote': WHATEVER THE INPUT: true; the input reads as it did. -/
def jsonQuoteSpec : ChangeSpec := { name := "jsonQuote", fn := fun _ => fun
  | [d1, d2] => { results := [.lit (.bool true)], args := [d1, d2] }
  | _ => none }
def jsonQuoteRow : OpenClaim := { program := "ytpogmmcfkdofhaadoor", sum := "e4fa3e518459ccc5f7c303bca677fd7461de34879d2c374e7b5262761ca990ad", func := "canary/canarylaw21.JsonQuote", spec := "jsonQuote", inPlace := ["internal/abi.NoEscape", "internal/bytealg.MakeNoZero"], unfollowed := true, recurses := true, named := ["internal/strconv.uint64pow10", "math/bits.deBruijn32tab", "math/bits.deBruijn64tab"], apart := false, laid := [("math/bits.deBruijn32tab", laid_math_bits_deBruijn32tab), ("math/bits.deBruijn64tab", laid_math_bits_deBruijn64tab), ("internal/strconv.uint64pow10", laid_internal_strconv_uint64pow10)] }
def JsonQuoteSaid : Prop := jsonQuoteRow.holds Tryd.pinned (OpenSpec.ofChange jsonQuoteSpec)

/-- ITS FALSE NEIGHBOUR: 'it returns false'. Refute it at one input. -/
def jsonQuoteWrong : ChangeSpec := { name := "jsonQuote", fn := fun _ => fun
  | [d1, d2] => { results := [.lit (.bool false)], args := [d1, d2] }
  | _ => none }
def JsonQuoteWrongFalsely : Prop := jsonQuoteRow.holds Tryd.pinned (OpenSpec.ofChange jsonQuoteWrong)

/-- 'canarylaw21.JsonUnquote': WHATEVER THE INPUT: true; the input reads as it did. -/
def jsonUnquoteSpec : ChangeSpec := { name := "jsonUnquote", fn := fun _ => fun
  | [d1, d2, d3, d4, d5] => { results := [.lit (.bool true)], args := [d1, d2, d3, d4, d5] }
  | _ => none }
def jsonUnquoteRow : OpenClaim := { program := "ytpogmmcfkdofhaadoor", sum := "e4fa3e518459ccc5f7c303bca677fd7461de34879d2c374e7b5262761ca990ad", func := "canary/canarylaw21.JsonUnquote", spec := "jsonUnquote", inPlace := ["internal/abi.NoEscape", "internal/bytealg.MakeNoZero"], unfollowed := true, recurses := true, named := ["internal/strconv.uint64pow10", "math/bits.deBruijn32tab", "math/bits.deBruijn64tab"], apart := false, laid := [("math/bits.deBruijn32tab", laid_math_bits_deBruijn32tab), ("math/bits.deBruijn64tab", laid_math_bits_deBruijn64tab), ("internal/strconv.uint64pow10", laid_internal_strconv_uint64pow10)] }
def JsonUnquoteSaid : Prop := jsonUnquoteRow.holds Tryd.pinned (OpenSpec.ofChange jsonUnquoteSpec)

/-- ITS FALSE NEIGHBOUR: 'it returns false'. Refute it at one input. -/
def jsonUnquoteWrong : ChangeSpec := { name := "jsonUnquote", fn := fun _ => fun
  | [d1, d2, d3, d4, d5] => { results := [.lit (.bool false)], args := [d1, d2, d3, d4, d5] }
  | _ => none }
def JsonUnquoteWrongFalsely : Prop := jsonUnquoteRow.holds Tryd.pinned (OpenSpec.ofChange jsonUnquoteWrong)

/-- 'canarylaw22.ReportAdd': WHATEVER THE INPUT: true; the input reads as it did. -/
def reportAddSpec : ChangeSpec := { name := "reportAdd", fn := fun _ => fun
  | [d1, d2, d3] => { results := [.lit (.bool true)], args := [d1, d2, d3] }
  | _ => none }
def reportAddRow : OpenClaim := { program := "ytpogmmcfkdofhaadoor", sum := "e4fa3e518459ccc5f7c303bca677fd7461de34879d2c374e7b5262761ca990ad", func := "canary/canarylaw22.ReportAdd", spec := "reportAdd", inPlace := ["internal/abi.NoEscape", "internal/bytealg.MakeNoZero"], unfollowed := true, recurses := true, named := ["internal/strconv.uint64pow10", "math/bits.deBruijn32tab", "math/bits.deBruijn64tab"], apart := false, laid := [("math/bits.deBruijn32tab", laid_math_bits_deBruijn32tab), ("math/bits.deBruijn64tab", laid_math_bits_deBruijn64tab), ("internal/strconv.uint64pow10", laid_internal_strconv_uint64pow10)] }
def ReportAddSaid : Prop := reportAddRow.holds Tryd.pinned (OpenSpec.ofChange reportAddSpec)

/-- ITS FALSE NEIGHBOUR: 'it returns false'. Refute it at one input. -/
def reportAddWrong : ChangeSpec := { name := "reportAdd", fn := fun _ => fun
  | [d1, d2, d3] => { results := [.lit (.bool false)], args := [d1, d2, d3] }
  | _ => none }
def ReportAddWrongFalsely : Prop := reportAddRow.holds Tryd.pinned (OpenSpec.ofChange reportAddWrong)

/-- 'canarylaw22.ReportText': WHATEVER THE INPUT: true; the input reads as it did. -/
def reportTextSpec : ChangeSpec := { name := "reportText", fn := fun _ => fun
  | [d1, d2, d3, d4] => { results := [.lit (.bool true)], args := [d1, d2, d3, d4] }
  | _ => none }
def reportTextRow : OpenClaim := { program := "ytpogmmcfkdofhaadoor", sum := "e4fa3e518459ccc5f7c303bca677fd7461de34879d2c374e7b5262761ca990ad", func := "canary/canarylaw22.ReportText", spec := "reportText", inPlace := ["internal/abi.NoEscape", "internal/bytealg.MakeNoZero"], unfollowed := true, recurses := true, named := ["internal/strconv.uint64pow10", "math/bits.deBruijn32tab", "math/bits.deBruijn64tab"], apart := false, laid := [("math/bits.deBruijn32tab", laid_math_bits_deBruijn32tab), ("math/bits.deBruijn64tab", laid_math_bits_deBruijn64tab), ("internal/strconv.uint64pow10", laid_internal_strconv_uint64pow10)] }
def ReportTextSaid : Prop := reportTextRow.holds Tryd.pinned (OpenSpec.ofChange reportTextSpec)

/-- ITS FALSE NEIGHBOUR: 'it returns false'. Refute it at one input. -/
def reportTextWrong : ChangeSpec := { name := "reportText", fn := fun _ => fun
  | [d1, d2, d3, d4] => { results := [.lit (.bool false)], args := [d1, d2, d3, d4] }
  | _ => none }
def ReportTextWrongFalsely : Prop := reportTextRow.holds Tryd.pinned (OpenSpec.ofChange reportTextWrong)

/-- 'canarylaw22.ReportLast': WHATEVER THE INPUT: true; the input reads as it did. -/
def reportLastSpec : ChangeSpec := { name := "reportLast", fn := fun _ => fun
  | [d1, d2] => { results := [.lit (.bool true)], args := [d1, d2] }
  | _ => none }
def reportLastRow : OpenClaim := { program := "ytpogmmcfkdofhaadoor", sum := "e4fa3e518459ccc5f7c303bca677fd7461de34879d2c374e7b5262761ca990ad", func := "canary/canarylaw22.ReportLast", spec := "reportLast", inPlace := ["internal/abi.NoEscape", "internal/bytealg.MakeNoZero"], unfollowed := true, recurses := true, named := ["internal/strconv.uint64pow10", "math/bits.deBruijn32tab", "math/bits.deBruijn64tab"], apart := false, laid := [("math/bits.deBruijn32tab", laid_math_bits_deBruijn32tab), ("math/bits.deBruijn64tab", laid_math_bits_deBruijn64tab), ("internal/strconv.uint64pow10", laid_internal_strconv_uint64pow10)] }
def ReportLastSaid : Prop := reportLastRow.holds Tryd.pinned (OpenSpec.ofChange reportLastSpec)

/-- ITS FALSE NEIGHBOUR: 'it returns false'. Refute it at one input. -/
def reportLastWrong : ChangeSpec := { name := "reportLast", fn := fun _ => fun
  | [d1, d2] => { results := [.lit (.bool false)], args := [d1, d2] }
  | _ => none }
def ReportLastWrongFalsely : Prop := reportLastRow.holds Tryd.pinned (OpenSpec.ofChange reportLastWrong)

/-- 'canarylaw22.ReportFull': WHATEVER THE INPUT: true; the input reads as it did. -/
def reportFullSpec : ChangeSpec := { name := "reportFull", fn := fun _ => fun
  | [d1, d2] => { results := [.lit (.bool true)], args := [d1, d2] }
  | _ => none }
def reportFullRow : OpenClaim := { program := "ytpogmmcfkdofhaadoor", sum := "e4fa3e518459ccc5f7c303bca677fd7461de34879d2c374e7b5262761ca990ad", func := "canary/canarylaw22.ReportFull", spec := "reportFull", inPlace := ["internal/abi.NoEscape", "internal/bytealg.MakeNoZero"], unfollowed := true, recurses := true, named := ["internal/strconv.uint64pow10", "math/bits.deBruijn32tab", "math/bits.deBruijn64tab"], apart := false, laid := [("math/bits.deBruijn32tab", laid_math_bits_deBruijn32tab), ("math/bits.deBruijn64tab", laid_math_bits_deBruijn64tab), ("internal/strconv.uint64pow10", laid_internal_strconv_uint64pow10)] }
def ReportFullSaid : Prop := reportFullRow.holds Tryd.pinned (OpenSpec.ofChange reportFullSpec)

/-- ITS FALSE NEIGHBOUR: 'it returns false'. Refute it at one input. -/
def reportFullWrong : ChangeSpec := { name := "reportFull", fn := fun _ => fun
  | [d1, d2] => { results := [.lit (.bool false)], args := [d1, d2] }
  | _ => none }
def ReportFullWrongFalsely : Prop := reportFullRow.holds Tryd.pinned (OpenSpec.ofChange reportFullWrong)

/- THE SECOND FORM. 'bulk': how many values and letters a reading holds, each counted each time it is reached (what is shared counts as often as it is met; a slice's spare places count too). A statement '..UptoSaid' is the law's where the arguments, and the package variables that the reading takes, are together of bulk at most 1048576: NARROWER than '..Said'. Prove '..Said' where nothing that the law and all that it calls make is longer than what came in: it says more and counts as full. Else prove '..UptoSaid'. A law counts once. -/
mutual
def uptoBulk {H : Type} : DataW H → Nat
  | .lit (.string bytes) => bytes.length + 1
  | .lit _ => 1
  | .nil => 1
  | .ptr d => uptoBulk d + 1
  | .slice elems spare => uptoBulkAll elems + uptoBulkAll spare + 1
  | .agg parts => uptoBulkAll parts + 1
  | .iface _ d => uptoBulk d + 1
  | .map entries => uptoBulkEntries entries + 1
  | .held _ => 1
def uptoBulkAll {H : Type} : List (DataW H) → Nat
  | [] => 0
  | d :: r => uptoBulk d + uptoBulkAll r
def uptoBulkEntries {H : Type} : List (Lit × DataW H) → Nat
  | [] => 0
  | x :: r => uptoBulkEntry x + uptoBulkEntries r
def uptoBulkEntry {H : Type} : Lit × DataW H → Nat
  | (.string bytes, d) => bytes.length + uptoBulk d + 1
  | (_, d) => uptoBulk d + 1
 end
def uptoSmall : (H : Type) → List (DataW H) → Bool := fun _ ds => decide (uptoBulkAll ds ≤ 1048576)
def OpenSpec.upto (s : _root_.Go.ChangeSpec) : _root_.Go.OpenSpec := { _root_.Go.OpenSpec.ofChange s with cond := some uptoSmall }

/-- 'canarylaw02.NumberPrint', WHERE WHAT IT READS IS OF BULK AT MOST 1048576: true; the input reads as it did. -/
def numberPrintUptoRow : OpenClaim := { program := "ytpogmmcfkdofhaadoor", sum := "e4fa3e518459ccc5f7c303bca677fd7461de34879d2c374e7b5262761ca990ad", func := "canary/canarylaw02.NumberPrint", spec := "numberPrint", named := ["internal/strconv.uint64pow10", "math/bits.deBruijn32tab", "math/bits.deBruijn64tab"], apart := false, laid := [("math/bits.deBruijn32tab", laid_math_bits_deBruijn32tab), ("math/bits.deBruijn64tab", laid_math_bits_deBruijn64tab), ("internal/strconv.uint64pow10", laid_internal_strconv_uint64pow10)], narrowed := true }
def NumberPrintUptoSaid : Prop := numberPrintUptoRow.holds Tryd.pinned (OpenSpec.upto numberPrintSpec)

/-- 'canarylaw02.NumberParse', WHERE WHAT IT READS IS OF BULK AT MOST 1048576: true; the input reads as it did. -/
def numberParseUptoRow : OpenClaim := { program := "ytpogmmcfkdofhaadoor", sum := "e4fa3e518459ccc5f7c303bca677fd7461de34879d2c374e7b5262761ca990ad", func := "canary/canarylaw02.NumberParse", spec := "numberParse", named := ["internal/strconv.uint64pow10", "math/bits.deBruijn32tab", "math/bits.deBruijn64tab"], apart := false, laid := [("math/bits.deBruijn32tab", laid_math_bits_deBruijn32tab), ("math/bits.deBruijn64tab", laid_math_bits_deBruijn64tab), ("internal/strconv.uint64pow10", laid_internal_strconv_uint64pow10)], narrowed := true }
def NumberParseUptoSaid : Prop := numberParseUptoRow.holds Tryd.pinned (OpenSpec.upto numberParseSpec)

/-- 'canarylaw02.NumberLimit', WHERE WHAT IT READS IS OF BULK AT MOST 1048576: true; the input reads as it did. -/
def numberLimitUptoRow : OpenClaim := { program := "ytpogmmcfkdofhaadoor", sum := "e4fa3e518459ccc5f7c303bca677fd7461de34879d2c374e7b5262761ca990ad", func := "canary/canarylaw02.NumberLimit", spec := "numberLimit", named := ["internal/strconv.uint64pow10", "math/bits.deBruijn32tab", "math/bits.deBruijn64tab"], apart := false, laid := [("math/bits.deBruijn32tab", laid_math_bits_deBruijn32tab), ("math/bits.deBruijn64tab", laid_math_bits_deBruijn64tab), ("internal/strconv.uint64pow10", laid_internal_strconv_uint64pow10)], narrowed := true }
def NumberLimitUptoSaid : Prop := numberLimitUptoRow.holds Tryd.pinned (OpenSpec.upto numberLimitSpec)

/-- 'canarylaw02.NumberAdd', WHERE WHAT IT READS IS OF BULK AT MOST 1048576: true; the input reads as it did. -/
def numberAddUptoRow : OpenClaim := { program := "ytpogmmcfkdofhaadoor", sum := "e4fa3e518459ccc5f7c303bca677fd7461de34879d2c374e7b5262761ca990ad", func := "canary/canarylaw02.NumberAdd", spec := "numberAdd", named := ["internal/strconv.uint64pow10", "math/bits.deBruijn32tab", "math/bits.deBruijn64tab"], apart := false, laid := [("math/bits.deBruijn32tab", laid_math_bits_deBruijn32tab), ("math/bits.deBruijn64tab", laid_math_bits_deBruijn64tab), ("internal/strconv.uint64pow10", laid_internal_strconv_uint64pow10)], narrowed := true }
def NumberAddUptoSaid : Prop := numberAddUptoRow.holds Tryd.pinned (OpenSpec.upto numberAddSpec)

/-- 'canarylaw02.NumberAddOrder', WHERE WHAT IT READS IS OF BULK AT MOST 1048576: true; the input reads as it did. -/
def numberAddOrderUptoRow : OpenClaim := { program := "ytpogmmcfkdofhaadoor", sum := "e4fa3e518459ccc5f7c303bca677fd7461de34879d2c374e7b5262761ca990ad", func := "canary/canarylaw02.NumberAddOrder", spec := "numberAddOrder", named := ["internal/strconv.uint64pow10", "math/bits.deBruijn32tab", "math/bits.deBruijn64tab"], apart := false, laid := [("math/bits.deBruijn32tab", laid_math_bits_deBruijn32tab), ("math/bits.deBruijn64tab", laid_math_bits_deBruijn64tab), ("internal/strconv.uint64pow10", laid_internal_strconv_uint64pow10)], narrowed := true }
def NumberAddOrderUptoSaid : Prop := numberAddOrderUptoRow.holds Tryd.pinned (OpenSpec.upto numberAddOrderSpec)

/-- 'canarylaw21.JsonWrite', WHERE WHAT IT READS IS OF BULK AT MOST 1048576: true; the input reads as it did. -/
def jsonWriteUptoRow : OpenClaim := { program := "ytpogmmcfkdofhaadoor", sum := "e4fa3e518459ccc5f7c303bca677fd7461de34879d2c374e7b5262761ca990ad", func := "canary/canarylaw21.JsonWrite", spec := "jsonWrite", inPlace := ["internal/abi.NoEscape", "internal/bytealg.MakeNoZero"], unfollowed := true, recurses := true, named := ["internal/strconv.uint64pow10", "math/bits.deBruijn32tab", "math/bits.deBruijn64tab"], apart := false, laid := [("math/bits.deBruijn32tab", laid_math_bits_deBruijn32tab), ("math/bits.deBruijn64tab", laid_math_bits_deBruijn64tab), ("internal/strconv.uint64pow10", laid_internal_strconv_uint64pow10)], narrowed := true }
def JsonWriteUptoSaid : Prop := jsonWriteUptoRow.holds Tryd.pinned (OpenSpec.upto jsonWriteSpec)

/-- 'canarylaw21.JsonPlain', WHERE WHAT IT READS IS OF BULK AT MOST 1048576: true; the input reads as it did. -/
def jsonPlainUptoRow : OpenClaim := { program := "ytpogmmcfkdofhaadoor", sum := "e4fa3e518459ccc5f7c303bca677fd7461de34879d2c374e7b5262761ca990ad", func := "canary/canarylaw21.JsonPlain", spec := "jsonPlain", inPlace := ["internal/abi.NoEscape", "internal/bytealg.MakeNoZero"], unfollowed := true, recurses := true, named := ["internal/strconv.uint64pow10", "math/bits.deBruijn32tab", "math/bits.deBruijn64tab"], apart := false, laid := [("math/bits.deBruijn32tab", laid_math_bits_deBruijn32tab), ("math/bits.deBruijn64tab", laid_math_bits_deBruijn64tab), ("internal/strconv.uint64pow10", laid_internal_strconv_uint64pow10)], narrowed := true }
def JsonPlainUptoSaid : Prop := jsonPlainUptoRow.holds Tryd.pinned (OpenSpec.upto jsonPlainSpec)

/-- 'canarylaw21.JsonQuote', WHERE WHAT IT READS IS OF BULK AT MOST 1048576: true; the input reads as it did. -/
def jsonQuoteUptoRow : OpenClaim := { program := "ytpogmmcfkdofhaadoor", sum := "e4fa3e518459ccc5f7c303bca677fd7461de34879d2c374e7b5262761ca990ad", func := "canary/canarylaw21.JsonQuote", spec := "jsonQuote", inPlace := ["internal/abi.NoEscape", "internal/bytealg.MakeNoZero"], unfollowed := true, recurses := true, named := ["internal/strconv.uint64pow10", "math/bits.deBruijn32tab", "math/bits.deBruijn64tab"], apart := false, laid := [("math/bits.deBruijn32tab", laid_math_bits_deBruijn32tab), ("math/bits.deBruijn64tab", laid_math_bits_deBruijn64tab), ("internal/strconv.uint64pow10", laid_internal_strconv_uint64pow10)], narrowed := true }
def JsonQuoteUptoSaid : Prop := jsonQuoteUptoRow.holds Tryd.pinned (OpenSpec.upto jsonQuoteSpec)

/-- 'canarylaw21.JsonUnquote', WHERE WHAT IT READS IS OF BULK AT MOST 1048576: true; the input reads as it did. -/
def jsonUnquoteUptoRow : OpenClaim := { program := "ytpogmmcfkdofhaadoor", sum := "e4fa3e518459ccc5f7c303bca677fd7461de34879d2c374e7b5262761ca990ad", func := "canary/canarylaw21.JsonUnquote", spec := "jsonUnquote", inPlace := ["internal/abi.NoEscape", "internal/bytealg.MakeNoZero"], unfollowed := true, recurses := true, named := ["internal/strconv.uint64pow10", "math/bits.deBruijn32tab", "math/bits.deBruijn64tab"], apart := false, laid := [("math/bits.deBruijn32tab", laid_math_bits_deBruijn32tab), ("math/bits.deBruijn64tab", laid_math_bits_deBruijn64tab), ("internal/strconv.uint64pow10", laid_internal_strconv_uint64pow10)], narrowed := true }
def JsonUnquoteUptoSaid : Prop := jsonUnquoteUptoRow.holds Tryd.pinned (OpenSpec.upto jsonUnquoteSpec)

/-- 'canarylaw22.ReportAdd', WHERE WHAT IT READS IS OF BULK AT MOST 1048576: true; the input reads as it did. -/
def reportAddUptoRow : OpenClaim := { program := "ytpogmmcfkdofhaadoor", sum := "e4fa3e518459ccc5f7c303bca677fd7461de34879d2c374e7b5262761ca990ad", func := "canary/canarylaw22.ReportAdd", spec := "reportAdd", inPlace := ["internal/abi.NoEscape", "internal/bytealg.MakeNoZero"], unfollowed := true, recurses := true, named := ["internal/strconv.uint64pow10", "math/bits.deBruijn32tab", "math/bits.deBruijn64tab"], apart := false, laid := [("math/bits.deBruijn32tab", laid_math_bits_deBruijn32tab), ("math/bits.deBruijn64tab", laid_math_bits_deBruijn64tab), ("internal/strconv.uint64pow10", laid_internal_strconv_uint64pow10)], narrowed := true }
def ReportAddUptoSaid : Prop := reportAddUptoRow.holds Tryd.pinned (OpenSpec.upto reportAddSpec)

/-- 'canarylaw22.ReportText', WHERE WHAT IT READS IS OF BULK AT MOST 1048576: true; the input reads as it did. -/
def reportTextUptoRow : OpenClaim := { program := "ytpogmmcfkdofhaadoor", sum := "e4fa3e518459ccc5f7c303bca677fd7461de34879d2c374e7b5262761ca990ad", func := "canary/canarylaw22.ReportText", spec := "reportText", inPlace := ["internal/abi.NoEscape", "internal/bytealg.MakeNoZero"], unfollowed := true, recurses := true, named := ["internal/strconv.uint64pow10", "math/bits.deBruijn32tab", "math/bits.deBruijn64tab"], apart := false, laid := [("math/bits.deBruijn32tab", laid_math_bits_deBruijn32tab), ("math/bits.deBruijn64tab", laid_math_bits_deBruijn64tab), ("internal/strconv.uint64pow10", laid_internal_strconv_uint64pow10)], narrowed := true }
def ReportTextUptoSaid : Prop := reportTextUptoRow.holds Tryd.pinned (OpenSpec.upto reportTextSpec)

/-- 'canarylaw22.ReportLast', WHERE WHAT IT READS IS OF BULK AT MOST 1048576: true; the input reads as it did. -/
def reportLastUptoRow : OpenClaim := { program := "ytpogmmcfkdofhaadoor", sum := "e4fa3e518459ccc5f7c303bca677fd7461de34879d2c374e7b5262761ca990ad", func := "canary/canarylaw22.ReportLast", spec := "reportLast", inPlace := ["internal/abi.NoEscape", "internal/bytealg.MakeNoZero"], unfollowed := true, recurses := true, named := ["internal/strconv.uint64pow10", "math/bits.deBruijn32tab", "math/bits.deBruijn64tab"], apart := false, laid := [("math/bits.deBruijn32tab", laid_math_bits_deBruijn32tab), ("math/bits.deBruijn64tab", laid_math_bits_deBruijn64tab), ("internal/strconv.uint64pow10", laid_internal_strconv_uint64pow10)], narrowed := true }
def ReportLastUptoSaid : Prop := reportLastUptoRow.holds Tryd.pinned (OpenSpec.upto reportLastSpec)

/-- 'canarylaw22.ReportFull', WHERE WHAT IT READS IS OF BULK AT MOST 1048576: true; the input reads as it did. -/
def reportFullUptoRow : OpenClaim := { program := "ytpogmmcfkdofhaadoor", sum := "e4fa3e518459ccc5f7c303bca677fd7461de34879d2c374e7b5262761ca990ad", func := "canary/canarylaw22.ReportFull", spec := "reportFull", inPlace := ["internal/abi.NoEscape", "internal/bytealg.MakeNoZero"], unfollowed := true, recurses := true, named := ["internal/strconv.uint64pow10", "math/bits.deBruijn32tab", "math/bits.deBruijn64tab"], apart := false, laid := [("math/bits.deBruijn32tab", laid_math_bits_deBruijn32tab), ("math/bits.deBruijn64tab", laid_math_bits_deBruijn64tab), ("internal/strconv.uint64pow10", laid_internal_strconv_uint64pow10)], narrowed := true }
def ReportFullUptoSaid : Prop := reportFullUptoRow.holds Tryd.pinned (OpenSpec.upto reportFullSpec)

end Rows
end Go.Proofs.YtpogmmcfkdofhaaDoor
