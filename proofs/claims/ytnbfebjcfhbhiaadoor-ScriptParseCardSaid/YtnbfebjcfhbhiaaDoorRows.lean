/-
  NARROWER THAN 'FOR EVERY INPUT', by the rows' own cells (each row's printed sentence says how): ScriptParse: laid · ScriptPrint: laid · ScriptAnswers: laid · ScriptBack: laid · ScriptOneForm: laid · ScriptPlace: laid · ScriptFresh: laid.
  DERIVED. THE GIVEN ROWS OF THIS SEAT. 7 by the template 'for every input the law returns true; each argument reads behind the call as it read before'; 0 by the template 'total and deterministic' (their statements: YtnbfebjcfhbhiaaDoorTotals.lean).
  GIVEN WITH THE SEED: the statements are not yours to turn. If you find one false, say at which input.
  Laid BY PROGRAM, IN A SANDBOX (cutbox-rows.mjs): the forced cells as the released guide's own fill.sh prints them over the translation fd0c2dcbcf3037c2… (all of the seat's roots in one cut). By AI agents, Wed Nov 11 2026. No macro, syntax, notation, axiom, sorry.
-/
import Derived.Test.YtnbfebjcfhbhiaaDoorChecked
import GoSem.Claim
import GoSem.ClaimJoined
import GoSem.ClaimMapViews
import Derived.JoinedTies
import Derived.KernelRfl
namespace Go.Proofs.YtnbfebjcfhbhiaaDoor
/- THE CELL 'sum', in the pinned program and in every row, IS THE sha256 OF THE DUMP (.gsa) THAT YtnbfebjcfhbhiaaDoorProg.lean LOADS. Nothing in Lean hashes anything: it is a label: what it is worth is what the hold of that sum in a sandbox is worth. -/
noncomputable def Tryd.pinned : Pinned := { name := "ytnbfebjcfhbhiaadoor", sum := "fd0c2dcbcf3037c22579032be56891d1d70800770b497c2733ccafd0b04c2be4", checked := Tryd.checked }
namespace Rows
def none {H : Type} : Left H := { results := [], args := [] }

/- WHAT THE LISTED PACKAGE-LEVEL VARIABLES READ AS WHEN THE CALL BEGINS. Each datum BY PROGRAM (the guide's laid-datum.mjs) off the statement by which the dump's own 'gosem.cut.vars' lays the variable. In a bare row this is a premise. The card (YtnbfebjcfhbhiaaDoorCards.lean) ties it to the program's text. -/
def laid_math_bits_deBruijn32tab {H : Type} : DataW H := .agg [.lit (.int .u8 0), .lit (.int .u8 1), .lit (.int .u8 28), .lit (.int .u8 2), .lit (.int .u8 29), .lit (.int .u8 14), .lit (.int .u8 24), .lit (.int .u8 3), .lit (.int .u8 30), .lit (.int .u8 22), .lit (.int .u8 20), .lit (.int .u8 15), .lit (.int .u8 25), .lit (.int .u8 17), .lit (.int .u8 4), .lit (.int .u8 8), .lit (.int .u8 31), .lit (.int .u8 27), .lit (.int .u8 13), .lit (.int .u8 23), .lit (.int .u8 21), .lit (.int .u8 19), .lit (.int .u8 16), .lit (.int .u8 7), .lit (.int .u8 26), .lit (.int .u8 12), .lit (.int .u8 18), .lit (.int .u8 6), .lit (.int .u8 11), .lit (.int .u8 5), .lit (.int .u8 10), .lit (.int .u8 9)]
def laid_math_bits_deBruijn64tab {H : Type} : DataW H := .agg [.lit (.int .u8 0), .lit (.int .u8 1), .lit (.int .u8 56), .lit (.int .u8 2), .lit (.int .u8 57), .lit (.int .u8 49), .lit (.int .u8 28), .lit (.int .u8 3), .lit (.int .u8 61), .lit (.int .u8 58), .lit (.int .u8 42), .lit (.int .u8 50), .lit (.int .u8 38), .lit (.int .u8 29), .lit (.int .u8 17), .lit (.int .u8 4), .lit (.int .u8 62), .lit (.int .u8 47), .lit (.int .u8 59), .lit (.int .u8 36), .lit (.int .u8 45), .lit (.int .u8 43), .lit (.int .u8 51), .lit (.int .u8 22), .lit (.int .u8 53), .lit (.int .u8 39), .lit (.int .u8 33), .lit (.int .u8 30), .lit (.int .u8 24), .lit (.int .u8 18), .lit (.int .u8 12), .lit (.int .u8 5), .lit (.int .u8 63), .lit (.int .u8 55), .lit (.int .u8 48), .lit (.int .u8 27), .lit (.int .u8 60), .lit (.int .u8 41), .lit (.int .u8 37), .lit (.int .u8 16), .lit (.int .u8 46), .lit (.int .u8 35), .lit (.int .u8 44), .lit (.int .u8 21), .lit (.int .u8 52), .lit (.int .u8 32), .lit (.int .u8 23), .lit (.int .u8 11), .lit (.int .u8 54), .lit (.int .u8 26), .lit (.int .u8 40), .lit (.int .u8 15), .lit (.int .u8 34), .lit (.int .u8 20), .lit (.int .u8 31), .lit (.int .u8 10), .lit (.int .u8 25), .lit (.int .u8 14), .lit (.int .u8 19), .lit (.int .u8 9), .lit (.int .u8 13), .lit (.int .u8 8), .lit (.int .u8 7), .lit (.int .u8 6)]
def laid_internal_strconv_uint64pow10 {H : Type} : DataW H := .agg [.lit (.int .u64 1), .lit (.int .u64 10), .lit (.int .u64 100), .lit (.int .u64 1000), .lit (.int .u64 10000), .lit (.int .u64 100000), .lit (.int .u64 1000000), .lit (.int .u64 10000000), .lit (.int .u64 100000000), .lit (.int .u64 1000000000), .lit (.int .u64 10000000000), .lit (.int .u64 100000000000), .lit (.int .u64 1000000000000), .lit (.int .u64 10000000000000), .lit (.int .u64 100000000000000), .lit (.int .u64 1000000000000000), .lit (.int .u64 10000000000000000), .lit (.int .u64 100000000000000000), .lit (.int .u64 1000000000000000000), .lit (.int .u64 10000000000000000000)]
def laid_strconv_ErrRange {H : Type} : DataW H := .iface "*errors.errorString" (.ptr (.agg [.lit (.string [118, 97, 108, 117, 101, 32, 111, 117, 116, 32, 111, 102, 32, 114, 97, 110, 103, 101])]))
def laid_strconv_ErrSyntax {H : Type} : DataW H := .iface "*errors.errorString" (.ptr (.agg [.lit (.string [105, 110, 118, 97, 108, 105, 100, 32, 115, 121, 110, 116, 97, 120])]))
def laid_sluice_script_steps {H : Type} : DataW H := .slice [.agg [.lit (.string [99, 97, 108, 108]), .lit (.string [114, 115, 110, 111]), .lit (.int .i64 1)], .agg [.lit (.string [100, 101, 108, 105, 118, 101, 114]), .lit (.string [105]), .lit (.int .i64 2)], .agg [.lit (.string [100, 114, 111, 112]), .lit (.string [105]), .lit (.int .i64 3)], .agg [.lit (.string [100, 111, 117, 98, 108, 101]), .lit (.string [105]), .lit (.int .i64 4)], .agg [.lit (.string [109, 111, 118, 101]), .lit (.string [105, 106]), .lit (.int .i64 5)], .agg [.lit (.string [116, 105, 99, 107]), .lit (.string [114]), .lit (.int .i64 6)], .agg [.lit (.string [102, 114, 97, 109, 101]), .lit (.string [114, 100]), .lit (.int .i64 7)], .agg [.lit (.string [114, 101, 113, 117, 101, 115, 116]), .lit (.string [114, 100]), .lit (.int .i64 8)], .agg [.lit (.string [115, 101, 101]), .lit (.string [114]), .lit (.int .i64 9)], .agg [.lit (.string [98, 97, 103]), .lit (.string []), .lit (.int .i64 10)], .agg [.lit (.string [119, 105, 116, 110, 101, 115, 115]), .lit (.string []), .lit (.int .i64 11)], .agg [.lit (.string [99, 114, 97, 115, 104]), .lit (.string [114]), .lit (.int .i64 12)], .agg [.lit (.string [97, 114, 109]), .lit (.string [114, 105, 106]), .lit (.int .i64 13)], .agg [.lit (.string [114, 101, 115, 116, 97, 114, 116]), .lit (.string [114]), .lit (.int .i64 14)], .agg [.lit (.string [105, 109, 97, 103, 101]), .lit (.string [114]), .lit (.int .i64 15)]] []
def laid_sluice_script_ops {H : Type} : DataW H := .slice [.agg [.lit (.string [99, 114, 101, 97, 116, 101]), .lit (.string [107, 97, 98]), .lit (.int .i64 1)], .agg [.lit (.string [105, 110, 99]), .lit (.string [107, 97]), .lit (.int .i64 2)], .agg [.lit (.string [100, 101, 99]), .lit (.string [107, 97]), .lit (.int .i64 3)], .agg [.lit (.string [104, 111, 108, 100]), .lit (.string [107, 97, 98]), .lit (.int .i64 4)], .agg [.lit (.string [99, 111, 109, 109, 105, 116]), .lit (.string [107, 97]), .lit (.int .i64 5)], .agg [.lit (.string [114, 101, 108, 101, 97, 115, 101]), .lit (.string [107, 97]), .lit (.int .i64 6)], .agg [.lit (.string [114, 101, 97, 100]), .lit (.string [107]), .lit (.int .i64 7)], .agg [.lit (.string [116, 97, 107, 101]), .lit (.string [107, 97, 98]), .lit (.int .i64 8)], .agg [.lit (.string [114, 101, 115, 101, 116]), .lit (.string [107, 97]), .lit (.int .i64 9)], .agg [.lit (.string [114, 101, 99, 97, 112]), .lit (.string [107, 97]), .lit (.int .i64 10)], .agg [.lit (.string [108, 111, 111, 107]), .lit (.string [107]), .lit (.int .i64 11)]] []
def laid_sluice_script_configWords {H : Type} : DataW H := .agg [.lit (.string [114, 101, 112, 108, 105, 99, 97, 115]), .lit (.string [119, 105, 110, 100, 111, 119]), .lit (.string [114, 101, 115, 101, 110, 100]), .lit (.string [116, 105, 109, 101, 111, 117, 116]), .lit (.string [113, 117, 101, 117, 101]), .lit (.string [99, 97, 99, 104, 101]), .lit (.string [99, 111, 117, 110, 116, 101, 114, 115]), .lit (.string [104, 111, 108, 100, 115]), .lit (.string [115, 101, 115, 115, 105, 111, 110, 115]), .lit (.string [98, 97, 103])]

/-- 'sluicelaw18.ScriptParse': WHATEVER THE INPUT: true; the input reads as it did. -/
def scriptParseSpec : ChangeSpec := { name := "scriptParse", fn := fun _ => fun
  | [d] => { results := [.lit (.bool true)], args := [d] }
  | _ => none }
def scriptParseRow : OpenClaim := { program := "ytnbfebjcfhbhiaadoor", sum := "fd0c2dcbcf3037c22579032be56891d1d70800770b497c2733ccafd0b04c2be4", func := "sluice/sluicelaw18.ScriptParse", spec := "scriptParse", inPlace := ["internal/bytealg.IndexByteString", "internal/abi.NoEscape"], recurses := true, named := ["sluice/script.steps", "sluice/script.ops", "strconv.ErrSyntax", "strconv.ErrRange", "internal/strconv.uint64pow10", "math/bits.deBruijn32tab", "math/bits.deBruijn64tab", "sluice/script.configWords"], apart := false, laid := [("math/bits.deBruijn32tab", laid_math_bits_deBruijn32tab), ("math/bits.deBruijn64tab", laid_math_bits_deBruijn64tab), ("internal/strconv.uint64pow10", laid_internal_strconv_uint64pow10), ("strconv.ErrRange", laid_strconv_ErrRange), ("strconv.ErrSyntax", laid_strconv_ErrSyntax), ("sluice/script.steps", laid_sluice_script_steps), ("sluice/script.ops", laid_sluice_script_ops), ("sluice/script.configWords", laid_sluice_script_configWords)] }
def ScriptParseSaid : Prop := scriptParseRow.holds Tryd.pinned (OpenSpec.ofChange scriptParseSpec)

/-- ITS FALSE NEIGHBOUR: 'it returns false'. Refute it at one input. -/
def scriptParseWrong : ChangeSpec := { name := "scriptParse", fn := fun _ => fun
  | [d] => { results := [.lit (.bool false)], args := [d] }
  | _ => none }
def ScriptParseWrongFalsely : Prop := scriptParseRow.holds Tryd.pinned (OpenSpec.ofChange scriptParseWrong)

/-- 'sluicelaw18.ScriptPrint': WHATEVER THE INPUT: true; the input reads as it did. -/
def scriptPrintSpec : ChangeSpec := { name := "scriptPrint", fn := fun _ => fun
  | [d1, d2] => { results := [.lit (.bool true)], args := [d1, d2] }
  | _ => none }
def scriptPrintRow : OpenClaim := { program := "ytnbfebjcfhbhiaadoor", sum := "fd0c2dcbcf3037c22579032be56891d1d70800770b497c2733ccafd0b04c2be4", func := "sluice/sluicelaw18.ScriptPrint", spec := "scriptPrint", inPlace := ["internal/bytealg.IndexByteString", "internal/abi.NoEscape"], recurses := true, named := ["sluice/script.steps", "sluice/script.ops", "strconv.ErrSyntax", "strconv.ErrRange", "internal/strconv.uint64pow10", "math/bits.deBruijn32tab", "math/bits.deBruijn64tab", "sluice/script.configWords"], apart := false, laid := [("math/bits.deBruijn32tab", laid_math_bits_deBruijn32tab), ("math/bits.deBruijn64tab", laid_math_bits_deBruijn64tab), ("internal/strconv.uint64pow10", laid_internal_strconv_uint64pow10), ("strconv.ErrRange", laid_strconv_ErrRange), ("strconv.ErrSyntax", laid_strconv_ErrSyntax), ("sluice/script.steps", laid_sluice_script_steps), ("sluice/script.ops", laid_sluice_script_ops), ("sluice/script.configWords", laid_sluice_script_configWords)] }
def ScriptPrintSaid : Prop := scriptPrintRow.holds Tryd.pinned (OpenSpec.ofChange scriptPrintSpec)

/-- ITS FALSE NEIGHBOUR: 'it returns false'. Refute it at one input. -/
def scriptPrintWrong : ChangeSpec := { name := "scriptPrint", fn := fun _ => fun
  | [d1, d2] => { results := [.lit (.bool false)], args := [d1, d2] }
  | _ => none }
def ScriptPrintWrongFalsely : Prop := scriptPrintRow.holds Tryd.pinned (OpenSpec.ofChange scriptPrintWrong)

/-- 'sluicelaw18.ScriptAnswers': WHATEVER THE INPUT: true; the input reads as it did. -/
def scriptAnswersSpec : ChangeSpec := { name := "scriptAnswers", fn := fun _ => fun
  | [d] => { results := [.lit (.bool true)], args := [d] }
  | _ => none }
def scriptAnswersRow : OpenClaim := { program := "ytnbfebjcfhbhiaadoor", sum := "fd0c2dcbcf3037c22579032be56891d1d70800770b497c2733ccafd0b04c2be4", func := "sluice/sluicelaw18.ScriptAnswers", spec := "scriptAnswers", inPlace := ["internal/bytealg.IndexByteString", "internal/abi.NoEscape"], recurses := true, named := ["sluice/script.steps", "sluice/script.ops", "strconv.ErrSyntax", "strconv.ErrRange", "internal/strconv.uint64pow10", "math/bits.deBruijn32tab", "math/bits.deBruijn64tab", "sluice/script.configWords"], apart := false, laid := [("math/bits.deBruijn32tab", laid_math_bits_deBruijn32tab), ("math/bits.deBruijn64tab", laid_math_bits_deBruijn64tab), ("internal/strconv.uint64pow10", laid_internal_strconv_uint64pow10), ("strconv.ErrRange", laid_strconv_ErrRange), ("strconv.ErrSyntax", laid_strconv_ErrSyntax), ("sluice/script.steps", laid_sluice_script_steps), ("sluice/script.ops", laid_sluice_script_ops), ("sluice/script.configWords", laid_sluice_script_configWords)] }
def ScriptAnswersSaid : Prop := scriptAnswersRow.holds Tryd.pinned (OpenSpec.ofChange scriptAnswersSpec)

/-- ITS FALSE NEIGHBOUR: 'it returns false'. Refute it at one input. -/
def scriptAnswersWrong : ChangeSpec := { name := "scriptAnswers", fn := fun _ => fun
  | [d] => { results := [.lit (.bool false)], args := [d] }
  | _ => none }
def ScriptAnswersWrongFalsely : Prop := scriptAnswersRow.holds Tryd.pinned (OpenSpec.ofChange scriptAnswersWrong)

/-- 'sluicelaw18.ScriptBack': WHATEVER THE INPUT: true; the input reads as it did. -/
def scriptBackSpec : ChangeSpec := { name := "scriptBack", fn := fun _ => fun
  | [d1, d2] => { results := [.lit (.bool true)], args := [d1, d2] }
  | _ => none }
def scriptBackRow : OpenClaim := { program := "ytnbfebjcfhbhiaadoor", sum := "fd0c2dcbcf3037c22579032be56891d1d70800770b497c2733ccafd0b04c2be4", func := "sluice/sluicelaw18.ScriptBack", spec := "scriptBack", inPlace := ["internal/bytealg.IndexByteString", "internal/abi.NoEscape"], recurses := true, named := ["sluice/script.steps", "sluice/script.ops", "strconv.ErrSyntax", "strconv.ErrRange", "internal/strconv.uint64pow10", "math/bits.deBruijn32tab", "math/bits.deBruijn64tab", "sluice/script.configWords"], apart := false, laid := [("math/bits.deBruijn32tab", laid_math_bits_deBruijn32tab), ("math/bits.deBruijn64tab", laid_math_bits_deBruijn64tab), ("internal/strconv.uint64pow10", laid_internal_strconv_uint64pow10), ("strconv.ErrRange", laid_strconv_ErrRange), ("strconv.ErrSyntax", laid_strconv_ErrSyntax), ("sluice/script.steps", laid_sluice_script_steps), ("sluice/script.ops", laid_sluice_script_ops), ("sluice/script.configWords", laid_sluice_script_configWords)] }
def ScriptBackSaid : Prop := scriptBackRow.holds Tryd.pinned (OpenSpec.ofChange scriptBackSpec)

/-- ITS FALSE NEIGHBOUR: 'it returns false'. Refute it at one input. -/
def scriptBackWrong : ChangeSpec := { name := "scriptBack", fn := fun _ => fun
  | [d1, d2] => { results := [.lit (.bool false)], args := [d1, d2] }
  | _ => none }
def ScriptBackWrongFalsely : Prop := scriptBackRow.holds Tryd.pinned (OpenSpec.ofChange scriptBackWrong)

/-- 'sluicelaw18.ScriptOneForm': WHATEVER THE INPUT: true; the input reads as it did. -/
def scriptOneFormSpec : ChangeSpec := { name := "scriptOneForm", fn := fun _ => fun
  | [d] => { results := [.lit (.bool true)], args := [d] }
  | _ => none }
def scriptOneFormRow : OpenClaim := { program := "ytnbfebjcfhbhiaadoor", sum := "fd0c2dcbcf3037c22579032be56891d1d70800770b497c2733ccafd0b04c2be4", func := "sluice/sluicelaw18.ScriptOneForm", spec := "scriptOneForm", inPlace := ["internal/bytealg.IndexByteString", "internal/abi.NoEscape"], recurses := true, named := ["sluice/script.steps", "sluice/script.ops", "strconv.ErrSyntax", "strconv.ErrRange", "internal/strconv.uint64pow10", "math/bits.deBruijn32tab", "math/bits.deBruijn64tab", "sluice/script.configWords"], apart := false, laid := [("math/bits.deBruijn32tab", laid_math_bits_deBruijn32tab), ("math/bits.deBruijn64tab", laid_math_bits_deBruijn64tab), ("internal/strconv.uint64pow10", laid_internal_strconv_uint64pow10), ("strconv.ErrRange", laid_strconv_ErrRange), ("strconv.ErrSyntax", laid_strconv_ErrSyntax), ("sluice/script.steps", laid_sluice_script_steps), ("sluice/script.ops", laid_sluice_script_ops), ("sluice/script.configWords", laid_sluice_script_configWords)] }
def ScriptOneFormSaid : Prop := scriptOneFormRow.holds Tryd.pinned (OpenSpec.ofChange scriptOneFormSpec)

/-- ITS FALSE NEIGHBOUR: 'it returns false'. Refute it at one input. -/
def scriptOneFormWrong : ChangeSpec := { name := "scriptOneForm", fn := fun _ => fun
  | [d] => { results := [.lit (.bool false)], args := [d] }
  | _ => none }
def ScriptOneFormWrongFalsely : Prop := scriptOneFormRow.holds Tryd.pinned (OpenSpec.ofChange scriptOneFormWrong)

/-- 'sluicelaw18.ScriptPlace': WHATEVER THE INPUT: true; the input reads as it did. -/
def scriptPlaceSpec : ChangeSpec := { name := "scriptPlace", fn := fun _ => fun
  | [d1, d2] => { results := [.lit (.bool true)], args := [d1, d2] }
  | _ => none }
def scriptPlaceRow : OpenClaim := { program := "ytnbfebjcfhbhiaadoor", sum := "fd0c2dcbcf3037c22579032be56891d1d70800770b497c2733ccafd0b04c2be4", func := "sluice/sluicelaw18.ScriptPlace", spec := "scriptPlace", inPlace := ["internal/bytealg.IndexByteString", "internal/abi.NoEscape"], recurses := true, named := ["sluice/script.steps", "sluice/script.ops", "strconv.ErrSyntax", "strconv.ErrRange", "internal/strconv.uint64pow10", "math/bits.deBruijn32tab", "math/bits.deBruijn64tab", "sluice/script.configWords"], apart := false, laid := [("math/bits.deBruijn32tab", laid_math_bits_deBruijn32tab), ("math/bits.deBruijn64tab", laid_math_bits_deBruijn64tab), ("internal/strconv.uint64pow10", laid_internal_strconv_uint64pow10), ("strconv.ErrRange", laid_strconv_ErrRange), ("strconv.ErrSyntax", laid_strconv_ErrSyntax), ("sluice/script.steps", laid_sluice_script_steps), ("sluice/script.ops", laid_sluice_script_ops), ("sluice/script.configWords", laid_sluice_script_configWords)] }
def ScriptPlaceSaid : Prop := scriptPlaceRow.holds Tryd.pinned (OpenSpec.ofChange scriptPlaceSpec)

/-- ITS FALSE NEIGHBOUR: 'it returns false'. Refute it at one input. -/
def scriptPlaceWrong : ChangeSpec := { name := "scriptPlace", fn := fun _ => fun
  | [d1, d2] => { results := [.lit (.bool false)], args := [d1, d2] }
  | _ => none }
def ScriptPlaceWrongFalsely : Prop := scriptPlaceRow.holds Tryd.pinned (OpenSpec.ofChange scriptPlaceWrong)

/-- 'sluicelaw18.ScriptFresh': WHATEVER THE INPUT: true; the input reads as it did. -/
def scriptFreshSpec : ChangeSpec := { name := "scriptFresh", fn := fun _ => fun
  | [d1, d2, d3] => { results := [.lit (.bool true)], args := [d1, d2, d3] }
  | _ => none }
def scriptFreshRow : OpenClaim := { program := "ytnbfebjcfhbhiaadoor", sum := "fd0c2dcbcf3037c22579032be56891d1d70800770b497c2733ccafd0b04c2be4", func := "sluice/sluicelaw18.ScriptFresh", spec := "scriptFresh", inPlace := ["internal/bytealg.IndexByteString", "internal/abi.NoEscape"], recurses := true, named := ["sluice/script.steps", "sluice/script.ops", "strconv.ErrSyntax", "strconv.ErrRange", "internal/strconv.uint64pow10", "math/bits.deBruijn32tab", "math/bits.deBruijn64tab", "sluice/script.configWords"], apart := false, laid := [("math/bits.deBruijn32tab", laid_math_bits_deBruijn32tab), ("math/bits.deBruijn64tab", laid_math_bits_deBruijn64tab), ("internal/strconv.uint64pow10", laid_internal_strconv_uint64pow10), ("strconv.ErrRange", laid_strconv_ErrRange), ("strconv.ErrSyntax", laid_strconv_ErrSyntax), ("sluice/script.steps", laid_sluice_script_steps), ("sluice/script.ops", laid_sluice_script_ops), ("sluice/script.configWords", laid_sluice_script_configWords)] }
def ScriptFreshSaid : Prop := scriptFreshRow.holds Tryd.pinned (OpenSpec.ofChange scriptFreshSpec)

/-- ITS FALSE NEIGHBOUR: 'it returns false'. Refute it at one input. -/
def scriptFreshWrong : ChangeSpec := { name := "scriptFresh", fn := fun _ => fun
  | [d1, d2, d3] => { results := [.lit (.bool false)], args := [d1, d2, d3] }
  | _ => none }
def ScriptFreshWrongFalsely : Prop := scriptFreshRow.holds Tryd.pinned (OpenSpec.ofChange scriptFreshWrong)

/- THE SECOND FORM. 'bulk': how many values and letters a reading holds, each counted each time it is reached (what is shared counts as often as it is met; a slice's spare places count too). A statement '..UptoSaid' is the law's where the arguments, and the package variables that the reading takes, are together of bulk at most 1048576: NARROWER than '..Said'. Prove '..Said' where nothing that the law and all that it calls make is longer than what came in: it says more and counts as full. Else prove '..UptoSaid'. A law counts once. -/
mutual
def uptoBulk {H : Type} : DataW H → Nat
  | .lit (.string bytes) => bytes.length + 1
  | .lit _ => 1
  | .nil => 1
  | .ptr d => uptoBulk d + 1
  | .slice elems spare => uptoBulkAll elems + uptoBulkAll spare + 1
  | .agg parts => uptoBulkAll parts + 1
  | .iface _ d => uptoBulk d + 1
  | .map entries => uptoBulkEntries entries + 1
  | .held _ => 1
def uptoBulkAll {H : Type} : List (DataW H) → Nat
  | [] => 0
  | d :: r => uptoBulk d + uptoBulkAll r
def uptoBulkEntries {H : Type} : List (Lit × DataW H) → Nat
  | [] => 0
  | x :: r => uptoBulkEntry x + uptoBulkEntries r
def uptoBulkEntry {H : Type} : Lit × DataW H → Nat
  | (.string bytes, d) => bytes.length + uptoBulk d + 1
  | (_, d) => uptoBulk d + 1
 end
def uptoSmall : (H : Type) → List (DataW H) → Bool := fun _ ds => decide (uptoBulkAll ds ≤ 1048576)
def OpenSpec.upto (s : _root_.Go.ChangeSpec) : _root_.Go.OpenSpec := { _root_.Go.OpenSpec.ofChange s with cond := some uptoSmall }

/-- 'sluicelaw18.ScriptParse', WHERE WHAT IT READS IS OF BULK AT MOST 1048576: true; the input reads as it did. -/
def scriptParseUptoRow : OpenClaim := { program := "ytnbfebjcfhbhiaadoor", sum := "fd0c2dcbcf3037c22579032be56891d1d70800770b497c2733ccafd0b04c2be4", func := "sluice/sluicelaw18.ScriptParse", spec := "scriptParse", inPlace := ["internal/bytealg.IndexByteString", "internal/abi.NoEscape"], recurses := true, named := ["sluice/script.steps", "sluice/script.ops", "strconv.ErrSyntax", "strconv.ErrRange", "internal/strconv.uint64pow10", "math/bits.deBruijn32tab", "math/bits.deBruijn64tab", "sluice/script.configWords"], apart := false, laid := [("math/bits.deBruijn32tab", laid_math_bits_deBruijn32tab), ("math/bits.deBruijn64tab", laid_math_bits_deBruijn64tab), ("internal/strconv.uint64pow10", laid_internal_strconv_uint64pow10), ("strconv.ErrRange", laid_strconv_ErrRange), ("strconv.ErrSyntax", laid_strconv_ErrSyntax), ("sluice/script.steps", laid_sluice_script_steps), ("sluice/script.ops", laid_sluice_script_ops), ("sluice/script.configWords", laid_sluice_script_configWords)], narrowed := true }
def ScriptParseUptoSaid : Prop := scriptParseUptoRow.holds Tryd.pinned (OpenSpec.upto scriptParseSpec)

/-- 'sluicelaw18.ScriptPrint', WHERE WHAT IT READS IS OF BULK AT MOST 1048576: true; the input reads as it did. -/
def scriptPrintUptoRow : OpenClaim := { program := "ytnbfebjcfhbhiaadoor", sum := "fd0c2dcbcf3037c22579032be56891d1d70800770b497c2733ccafd0b04c2be4", func := "sluice/sluicelaw18.ScriptPrint", spec := "scriptPrint", inPlace := ["internal/bytealg.IndexByteString", "internal/abi.NoEscape"], recurses := true, named := ["sluice/script.steps", "sluice/script.ops", "strconv.ErrSyntax", "strconv.ErrRange", "internal/strconv.uint64pow10", "math/bits.deBruijn32tab", "math/bits.deBruijn64tab", "sluice/script.configWords"], apart := false, laid := [("math/bits.deBruijn32tab", laid_math_bits_deBruijn32tab), ("math/bits.deBruijn64tab", laid_math_bits_deBruijn64tab), ("internal/strconv.uint64pow10", laid_internal_strconv_uint64pow10), ("strconv.ErrRange", laid_strconv_ErrRange), ("strconv.ErrSyntax", laid_strconv_ErrSyntax), ("sluice/script.steps", laid_sluice_script_steps), ("sluice/script.ops", laid_sluice_script_ops), ("sluice/script.configWords", laid_sluice_script_configWords)], narrowed := true }
def ScriptPrintUptoSaid : Prop := scriptPrintUptoRow.holds Tryd.pinned (OpenSpec.upto scriptPrintSpec)

/-- 'sluicelaw18.ScriptAnswers', WHERE WHAT IT READS IS OF BULK AT MOST 1048576: true; the input reads as it did. -/
def scriptAnswersUptoRow : OpenClaim := { program := "ytnbfebjcfhbhiaadoor", sum := "fd0c2dcbcf3037c22579032be56891d1d70800770b497c2733ccafd0b04c2be4", func := "sluice/sluicelaw18.ScriptAnswers", spec := "scriptAnswers", inPlace := ["internal/bytealg.IndexByteString", "internal/abi.NoEscape"], recurses := true, named := ["sluice/script.steps", "sluice/script.ops", "strconv.ErrSyntax", "strconv.ErrRange", "internal/strconv.uint64pow10", "math/bits.deBruijn32tab", "math/bits.deBruijn64tab", "sluice/script.configWords"], apart := false, laid := [("math/bits.deBruijn32tab", laid_math_bits_deBruijn32tab), ("math/bits.deBruijn64tab", laid_math_bits_deBruijn64tab), ("internal/strconv.uint64pow10", laid_internal_strconv_uint64pow10), ("strconv.ErrRange", laid_strconv_ErrRange), ("strconv.ErrSyntax", laid_strconv_ErrSyntax), ("sluice/script.steps", laid_sluice_script_steps), ("sluice/script.ops", laid_sluice_script_ops), ("sluice/script.configWords", laid_sluice_script_configWords)], narrowed := true }
def ScriptAnswersUptoSaid : Prop := scriptAnswersUptoRow.holds Tryd.pinned (OpenSpec.upto scriptAnswersSpec)

/-- 'sluicelaw18.ScriptBack', WHERE WHAT IT READS IS OF BULK AT MOST 1048576: true; the input reads as it did. -/
def scriptBackUptoRow : OpenClaim := { program := "ytnbfebjcfhbhiaadoor", sum := "fd0c2dcbcf3037c22579032be56891d1d70800770b497c2733ccafd0b04c2be4", func := "sluice/sluicelaw18.ScriptBack", spec := "scriptBack", inPlace := ["internal/bytealg.IndexByteString", "internal/abi.NoEscape"], recurses := true, named := ["sluice/script.steps", "sluice/script.ops", "strconv.ErrSyntax", "strconv.ErrRange", "internal/strconv.uint64pow10", "math/bits.deBruijn32tab", "math/bits.deBruijn64tab", "sluice/script.configWords"], apart := false, laid := [("math/bits.deBruijn32tab", laid_math_bits_deBruijn32tab), ("math/bits.deBruijn64tab", laid_math_bits_deBruijn64tab), ("internal/strconv.uint64pow10", laid_internal_strconv_uint64pow10), ("strconv.ErrRange", laid_strconv_ErrRange), ("strconv.ErrSyntax", laid_strconv_ErrSyntax), ("sluice/script.steps", laid_sluice_script_steps), ("sluice/script.ops", laid_sluice_script_ops), ("sluice/script.configWords", laid_sluice_script_configWords)], narrowed := true }
def ScriptBackUptoSaid : Prop := scriptBackUptoRow.holds Tryd.pinned (OpenSpec.upto scriptBackSpec)

/-- 'sluicelaw18.ScriptOneForm', WHERE WHAT IT READS IS OF BULK AT MOST 1048576: true; the input reads as it did. -/
def scriptOneFormUptoRow : OpenClaim := { program := "ytnbfebjcfhbhiaadoor", sum := "fd0c2dcbcf3037c22579032be56891d1d70800770b497c2733ccafd0b04c2be4", func := "sluice/sluicelaw18.ScriptOneForm", spec := "scriptOneForm", inPlace := ["internal/bytealg.IndexByteString", "internal/abi.NoEscape"], recurses := true, named := ["sluice/script.steps", "sluice/script.ops", "strconv.ErrSyntax", "strconv.ErrRange", "internal/strconv.uint64pow10", "math/bits.deBruijn32tab", "math/bits.deBruijn64tab", "sluice/script.configWords"], apart := false, laid := [("math/bits.deBruijn32tab", laid_math_bits_deBruijn32tab), ("math/bits.deBruijn64tab", laid_math_bits_deBruijn64tab), ("internal/strconv.uint64pow10", laid_internal_strconv_uint64pow10), ("strconv.ErrRange", laid_strconv_ErrRange), ("strconv.ErrSyntax", laid_strconv_ErrSyntax), ("sluice/script.steps", laid_sluice_script_steps), ("sluice/script.ops", laid_sluice_script_ops), ("sluice/script.configWords", laid_sluice_script_configWords)], narrowed := true }
def ScriptOneFormUptoSaid : Prop := scriptOneFormUptoRow.holds Tryd.pinned (OpenSpec.upto scriptOneFormSpec)

/-- 'sluicelaw18.ScriptPlace', WHERE WHAT IT READS IS OF BULK AT MOST 1048576: true; the input reads as it did. -/
def scriptPlaceUptoRow : OpenClaim := { program := "ytnbfebjcfhbhiaadoor", sum := "fd0c2dcbcf3037c22579032be56891d1d70800770b497c2733ccafd0b04c2be4", func := "sluice/sluicelaw18.ScriptPlace", spec := "scriptPlace", inPlace := ["internal/bytealg.IndexByteString", "internal/abi.NoEscape"], recurses := true, named := ["sluice/script.steps", "sluice/script.ops", "strconv.ErrSyntax", "strconv.ErrRange", "internal/strconv.uint64pow10", "math/bits.deBruijn32tab", "math/bits.deBruijn64tab", "sluice/script.configWords"], apart := false, laid := [("math/bits.deBruijn32tab", laid_math_bits_deBruijn32tab), ("math/bits.deBruijn64tab", laid_math_bits_deBruijn64tab), ("internal/strconv.uint64pow10", laid_internal_strconv_uint64pow10), ("strconv.ErrRange", laid_strconv_ErrRange), ("strconv.ErrSyntax", laid_strconv_ErrSyntax), ("sluice/script.steps", laid_sluice_script_steps), ("sluice/script.ops", laid_sluice_script_ops), ("sluice/script.configWords", laid_sluice_script_configWords)], narrowed := true }
def ScriptPlaceUptoSaid : Prop := scriptPlaceUptoRow.holds Tryd.pinned (OpenSpec.upto scriptPlaceSpec)

/-- 'sluicelaw18.ScriptFresh', WHERE WHAT IT READS IS OF BULK AT MOST 1048576: true; the input reads as it did. -/
def scriptFreshUptoRow : OpenClaim := { program := "ytnbfebjcfhbhiaadoor", sum := "fd0c2dcbcf3037c22579032be56891d1d70800770b497c2733ccafd0b04c2be4", func := "sluice/sluicelaw18.ScriptFresh", spec := "scriptFresh", inPlace := ["internal/bytealg.IndexByteString", "internal/abi.NoEscape"], recurses := true, named := ["sluice/script.steps", "sluice/script.ops", "strconv.ErrSyntax", "strconv.ErrRange", "internal/strconv.uint64pow10", "math/bits.deBruijn32tab", "math/bits.deBruijn64tab", "sluice/script.configWords"], apart := false, laid := [("math/bits.deBruijn32tab", laid_math_bits_deBruijn32tab), ("math/bits.deBruijn64tab", laid_math_bits_deBruijn64tab), ("internal/strconv.uint64pow10", laid_internal_strconv_uint64pow10), ("strconv.ErrRange", laid_strconv_ErrRange), ("strconv.ErrSyntax", laid_strconv_ErrSyntax), ("sluice/script.steps", laid_sluice_script_steps), ("sluice/script.ops", laid_sluice_script_ops), ("sluice/script.configWords", laid_sluice_script_configWords)], narrowed := true }
def ScriptFreshUptoSaid : Prop := scriptFreshUptoRow.holds Tryd.pinned (OpenSpec.upto scriptFreshSpec)

end Rows
end Go.Proofs.YtnbfebjcfhbhiaaDoor
