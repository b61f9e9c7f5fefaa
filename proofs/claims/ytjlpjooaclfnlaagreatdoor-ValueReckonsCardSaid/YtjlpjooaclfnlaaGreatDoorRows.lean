/-
  NARROWER THAN 'FOR EVERY INPUT', by the rows' own cells (each row's printed sentence says how): ValueLine: laid · ValueBack: laid · ValueMakes: laid · ValueOrders: laid · ValueCleans: laid · ValueReckons: laid · ValueTruths: laid · ValueRules: laid.
  DERIVED. THE GIVEN ROWS OF THIS SEAT. 8 by the template 'for every input the law returns true; each argument reads behind the call as it read before'; 0 by the template 'total and deterministic' (their statements: YtjlpjooaclfnlaaGreatDoorTotals.lean).
  GIVEN WITH THE SEED: the statements are not yours to turn. If you find one false, say at which input.
  Laid BY PROGRAM, IN A SANDBOX (cutbox-rows.mjs): the forced cells as the released guide's own fill.sh prints them over the translation 5c053fc9be686516… (all of the seat's roots in one cut). By AI agents, Wed Nov 11 2026. No macro, syntax, notation, axiom, sorry.
-/
import Derived.Test.YtjlpjooaclfnlaaGreatDoorChecked
import GoSem.PinnedTables
import GoSem.Claim
import GoSem.ClaimJoined
import GoSem.ClaimMapViews
import Derived.JoinedTies
import Derived.KernelRfl
namespace Go.Proofs.YtjlpjooaclfnlaaGreatDoor
/- THE CELL 'sum', in the pinned program and in every row, IS THE sha256 OF THE DUMP (.gsa) THAT YtjlpjooaclfnlaaGreatDoorProg.lean LOADS. Nothing in Lean hashes anything: it is a label: what it is worth is what the hold of that sum in a sandbox is worth. -/
noncomputable def Tryz.pinned : Pinned := { name := "ytjlpjooaclfnlaagreatdoor", sum := "5c053fc9be6865164ee260f63e9b85b2138c6ad43e65acf2f35034636ee7878f", checked := Tryz.checked }
namespace Rows
def none {H : Type} : Left H := { results := [], args := [] }

/- WHAT THE LISTED PACKAGE-LEVEL VARIABLES READ AS WHEN THE CALL BEGINS. Each datum BY PROGRAM (the guide's laid-datum.mjs) off the statement by which the dump's own 'gosem.cut.vars' lays the variable. In a bare row this is a premise. The card (YtjlpjooaclfnlaaGreatDoorCards.lean) ties it to the program's text. -/
def laid_math_bits_deBruijn32tab {H : Type} : DataW H := .agg [.lit (.int .u8 0), .lit (.int .u8 1), .lit (.int .u8 28), .lit (.int .u8 2), .lit (.int .u8 29), .lit (.int .u8 14), .lit (.int .u8 24), .lit (.int .u8 3), .lit (.int .u8 30), .lit (.int .u8 22), .lit (.int .u8 20), .lit (.int .u8 15), .lit (.int .u8 25), .lit (.int .u8 17), .lit (.int .u8 4), .lit (.int .u8 8), .lit (.int .u8 31), .lit (.int .u8 27), .lit (.int .u8 13), .lit (.int .u8 23), .lit (.int .u8 21), .lit (.int .u8 19), .lit (.int .u8 16), .lit (.int .u8 7), .lit (.int .u8 26), .lit (.int .u8 12), .lit (.int .u8 18), .lit (.int .u8 6), .lit (.int .u8 11), .lit (.int .u8 5), .lit (.int .u8 10), .lit (.int .u8 9)]
def laid_math_bits_deBruijn64tab {H : Type} : DataW H := .agg [.lit (.int .u8 0), .lit (.int .u8 1), .lit (.int .u8 56), .lit (.int .u8 2), .lit (.int .u8 57), .lit (.int .u8 49), .lit (.int .u8 28), .lit (.int .u8 3), .lit (.int .u8 61), .lit (.int .u8 58), .lit (.int .u8 42), .lit (.int .u8 50), .lit (.int .u8 38), .lit (.int .u8 29), .lit (.int .u8 17), .lit (.int .u8 4), .lit (.int .u8 62), .lit (.int .u8 47), .lit (.int .u8 59), .lit (.int .u8 36), .lit (.int .u8 45), .lit (.int .u8 43), .lit (.int .u8 51), .lit (.int .u8 22), .lit (.int .u8 53), .lit (.int .u8 39), .lit (.int .u8 33), .lit (.int .u8 30), .lit (.int .u8 24), .lit (.int .u8 18), .lit (.int .u8 12), .lit (.int .u8 5), .lit (.int .u8 63), .lit (.int .u8 55), .lit (.int .u8 48), .lit (.int .u8 27), .lit (.int .u8 60), .lit (.int .u8 41), .lit (.int .u8 37), .lit (.int .u8 16), .lit (.int .u8 46), .lit (.int .u8 35), .lit (.int .u8 44), .lit (.int .u8 21), .lit (.int .u8 52), .lit (.int .u8 32), .lit (.int .u8 23), .lit (.int .u8 11), .lit (.int .u8 54), .lit (.int .u8 26), .lit (.int .u8 40), .lit (.int .u8 15), .lit (.int .u8 34), .lit (.int .u8 20), .lit (.int .u8 31), .lit (.int .u8 10), .lit (.int .u8 25), .lit (.int .u8 14), .lit (.int .u8 19), .lit (.int .u8 9), .lit (.int .u8 13), .lit (.int .u8 8), .lit (.int .u8 7), .lit (.int .u8 6)]
def laid_internal_strconv_optimize {H : Type} : DataW H := .lit (.bool true)
def laid_internal_strconv_uint64pow10 {H : Type} : DataW H := .agg [.lit (.int .u64 1), .lit (.int .u64 10), .lit (.int .u64 100), .lit (.int .u64 1000), .lit (.int .u64 10000), .lit (.int .u64 100000), .lit (.int .u64 1000000), .lit (.int .u64 10000000), .lit (.int .u64 100000000), .lit (.int .u64 1000000000), .lit (.int .u64 10000000000), .lit (.int .u64 100000000000), .lit (.int .u64 1000000000000), .lit (.int .u64 10000000000000), .lit (.int .u64 100000000000000), .lit (.int .u64 1000000000000000), .lit (.int .u64 10000000000000000), .lit (.int .u64 100000000000000000), .lit (.int .u64 1000000000000000000), .lit (.int .u64 10000000000000000000)]
def laid_unicode_utf8_acceptRanges {H : Type} : DataW H := .agg [.agg [.lit (.int .u8 128), .lit (.int .u8 191)], .agg [.lit (.int .u8 160), .lit (.int .u8 191)], .agg [.lit (.int .u8 128), .lit (.int .u8 159)], .agg [.lit (.int .u8 144), .lit (.int .u8 191)], .agg [.lit (.int .u8 128), .lit (.int .u8 143)], .agg [.lit (.int .u8 0), .lit (.int .u8 0)], .agg [.lit (.int .u8 0), .lit (.int .u8 0)], .agg [.lit (.int .u8 0), .lit (.int .u8 0)], .agg [.lit (.int .u8 0), .lit (.int .u8 0)], .agg [.lit (.int .u8 0), .lit (.int .u8 0)], .agg [.lit (.int .u8 0), .lit (.int .u8 0)], .agg [.lit (.int .u8 0), .lit (.int .u8 0)], .agg [.lit (.int .u8 0), .lit (.int .u8 0)], .agg [.lit (.int .u8 0), .lit (.int .u8 0)], .agg [.lit (.int .u8 0), .lit (.int .u8 0)], .agg [.lit (.int .u8 0), .lit (.int .u8 0)]]
/-- One of Go's own tables, pinned by name: the form's constant. -/
def laid_internal_strconv_leftcheats : DataW Unit := Go.Pinned.leftcheats
/-- One of Go's own tables, pinned by name: the form's constant. -/
def laid_internal_strconv_pow10Tab : DataW Unit := Go.Pinned.pow10Tab
/-- One of Go's own tables, pinned by name: the form's constant. -/
def laid_unicode_utf8_first : DataW Unit := Go.Pinned.utf8First

/-- 'dowserlaw07.ValueLine': WHATEVER THE INPUT: true; the input reads as it did. -/
def valueLineSpec : ChangeSpec := { name := "valueLine", fn := fun _ => fun
  | [d] => { results := [.lit (.bool true)], args := [d] }
  | _ => none }
def valueLineRow : OpenClaim := { program := "ytjlpjooaclfnlaagreatdoor", sum := "5c053fc9be6865164ee260f63e9b85b2138c6ad43e65acf2f35034636ee7878f", func := "dowser/dowserlaw07.ValueLine", spec := "valueLine", inPlace := ["math.Float64frombits", "math.Float64bits", "internal/strconv.float32bits", "internal/strconv.float64bits", "internal/bytealg.IndexByteString", "internal/bytealg.IndexString", "internal/bytealg.CountString", "internal/abi.NoEscape", "internal/bytealg.MakeNoZero", "internal/bytealg.abigen_runtime_cmpstring"], named := ["internal/strconv.uint64pow10", "math/bits.deBruijn32tab", "math/bits.deBruijn64tab", "internal/strconv.optimize", "internal/strconv.pow10Tab", "internal/strconv.leftcheats", "unicode/utf8.first", "unicode/utf8.acceptRanges", "internal/bytealg.MaxLen"], apart := false, laid := [("math/bits.deBruijn32tab", laid_math_bits_deBruijn32tab), ("math/bits.deBruijn64tab", laid_math_bits_deBruijn64tab), ("internal/strconv.optimize", laid_internal_strconv_optimize), ("internal/strconv.uint64pow10", laid_internal_strconv_uint64pow10), ("unicode/utf8.acceptRanges", laid_unicode_utf8_acceptRanges), ("internal/strconv.leftcheats", laid_internal_strconv_leftcheats), ("internal/strconv.pow10Tab", laid_internal_strconv_pow10Tab), ("unicode/utf8.first", laid_unicode_utf8_first)] }
def ValueLineSaid : Prop := valueLineRow.holds Tryz.pinned (OpenSpec.ofChange valueLineSpec)

/-- ITS FALSE NEIGHBOUR: 'it returns false'. Refute it at one input. -/
def valueLineWrong : ChangeSpec := { name := "valueLine", fn := fun _ => fun
  | [d] => { results := [.lit (.bool false)], args := [d] }
  | _ => none }
def ValueLineWrongFalsely : Prop := valueLineRow.holds Tryz.pinned (OpenSpec.ofChange valueLineWrong)

/-- 'dowserlaw07.ValueBack': WHATEVER THE INPUT: true; the input reads as it did. -/
def valueBackSpec : ChangeSpec := { name := "valueBack", fn := fun _ => fun
  | [d1, d2] => { results := [.lit (.bool true)], args := [d1, d2] }
  | _ => none }
def valueBackRow : OpenClaim := { program := "ytjlpjooaclfnlaagreatdoor", sum := "5c053fc9be6865164ee260f63e9b85b2138c6ad43e65acf2f35034636ee7878f", func := "dowser/dowserlaw07.ValueBack", spec := "valueBack", inPlace := ["math.Float64frombits", "math.Float64bits", "internal/strconv.float32bits", "internal/strconv.float64bits", "internal/bytealg.IndexByteString", "internal/bytealg.IndexString", "internal/bytealg.CountString", "internal/abi.NoEscape", "internal/bytealg.MakeNoZero", "internal/bytealg.abigen_runtime_cmpstring"], named := ["internal/strconv.uint64pow10", "math/bits.deBruijn32tab", "math/bits.deBruijn64tab", "internal/strconv.optimize", "internal/strconv.pow10Tab", "internal/strconv.leftcheats", "unicode/utf8.first", "unicode/utf8.acceptRanges", "internal/bytealg.MaxLen"], apart := false, laid := [("math/bits.deBruijn32tab", laid_math_bits_deBruijn32tab), ("math/bits.deBruijn64tab", laid_math_bits_deBruijn64tab), ("internal/strconv.optimize", laid_internal_strconv_optimize), ("internal/strconv.uint64pow10", laid_internal_strconv_uint64pow10), ("unicode/utf8.acceptRanges", laid_unicode_utf8_acceptRanges), ("internal/strconv.leftcheats", laid_internal_strconv_leftcheats), ("internal/strconv.pow10Tab", laid_internal_strconv_pow10Tab), ("unicode/utf8.first", laid_unicode_utf8_first)] }
def ValueBackSaid : Prop := valueBackRow.holds Tryz.pinned (OpenSpec.ofChange valueBackSpec)

/-- ITS FALSE NEIGHBOUR: 'it returns false'. Refute it at one input. -/
def valueBackWrong : ChangeSpec := { name := "valueBack", fn := fun _ => fun
  | [d1, d2] => { results := [.lit (.bool false)], args := [d1, d2] }
  | _ => none }
def ValueBackWrongFalsely : Prop := valueBackRow.holds Tryz.pinned (OpenSpec.ofChange valueBackWrong)

/-- 'dowserlaw07.ValueMakes': WHATEVER THE INPUT: true; the input reads as it did. -/
def valueMakesSpec : ChangeSpec := { name := "valueMakes", fn := fun _ => fun
  | [d1, d2, d3] => { results := [.lit (.bool true)], args := [d1, d2, d3] }
  | _ => none }
def valueMakesRow : OpenClaim := { program := "ytjlpjooaclfnlaagreatdoor", sum := "5c053fc9be6865164ee260f63e9b85b2138c6ad43e65acf2f35034636ee7878f", func := "dowser/dowserlaw07.ValueMakes", spec := "valueMakes", inPlace := ["math.Float64frombits", "math.Float64bits", "internal/strconv.float32bits", "internal/strconv.float64bits", "internal/bytealg.IndexByteString", "internal/bytealg.IndexString", "internal/bytealg.CountString", "internal/abi.NoEscape", "internal/bytealg.MakeNoZero", "internal/bytealg.abigen_runtime_cmpstring"], named := ["internal/strconv.uint64pow10", "math/bits.deBruijn32tab", "math/bits.deBruijn64tab", "internal/strconv.optimize", "internal/strconv.pow10Tab", "internal/strconv.leftcheats", "unicode/utf8.first", "unicode/utf8.acceptRanges", "internal/bytealg.MaxLen"], apart := false, laid := [("math/bits.deBruijn32tab", laid_math_bits_deBruijn32tab), ("math/bits.deBruijn64tab", laid_math_bits_deBruijn64tab), ("internal/strconv.optimize", laid_internal_strconv_optimize), ("internal/strconv.uint64pow10", laid_internal_strconv_uint64pow10), ("unicode/utf8.acceptRanges", laid_unicode_utf8_acceptRanges), ("internal/strconv.leftcheats", laid_internal_strconv_leftcheats), ("internal/strconv.pow10Tab", laid_internal_strconv_pow10Tab), ("unicode/utf8.first", laid_unicode_utf8_first)] }
def ValueMakesSaid : Prop := valueMakesRow.holds Tryz.pinned (OpenSpec.ofChange valueMakesSpec)

/-- ITS FALSE NEIGHBOUR: 'it returns false'. Refute it at one input. -/
def valueMakesWrong : ChangeSpec := { name := "valueMakes", fn := fun _ => fun
  | [d1, d2, d3] => { results := [.lit (.bool false)], args := [d1, d2, d3] }
  | _ => none }
def ValueMakesWrongFalsely : Prop := valueMakesRow.holds Tryz.pinned (OpenSpec.ofChange valueMakesWrong)

/-- 'dowserlaw07.ValueOrders': WHATEVER THE INPUT: true; the input reads as it did. -/
def valueOrdersSpec : ChangeSpec := { name := "valueOrders", fn := fun _ => fun
  | [d1, d2, d3] => { results := [.lit (.bool true)], args := [d1, d2, d3] }
  | _ => none }
def valueOrdersRow : OpenClaim := { program := "ytjlpjooaclfnlaagreatdoor", sum := "5c053fc9be6865164ee260f63e9b85b2138c6ad43e65acf2f35034636ee7878f", func := "dowser/dowserlaw07.ValueOrders", spec := "valueOrders", inPlace := ["math.Float64frombits", "math.Float64bits", "internal/strconv.float32bits", "internal/strconv.float64bits", "internal/bytealg.IndexByteString", "internal/bytealg.IndexString", "internal/bytealg.CountString", "internal/abi.NoEscape", "internal/bytealg.MakeNoZero", "internal/bytealg.abigen_runtime_cmpstring"], named := ["internal/strconv.uint64pow10", "math/bits.deBruijn32tab", "math/bits.deBruijn64tab", "internal/strconv.optimize", "internal/strconv.pow10Tab", "internal/strconv.leftcheats", "unicode/utf8.first", "unicode/utf8.acceptRanges", "internal/bytealg.MaxLen"], apart := false, laid := [("math/bits.deBruijn32tab", laid_math_bits_deBruijn32tab), ("math/bits.deBruijn64tab", laid_math_bits_deBruijn64tab), ("internal/strconv.optimize", laid_internal_strconv_optimize), ("internal/strconv.uint64pow10", laid_internal_strconv_uint64pow10), ("unicode/utf8.acceptRanges", laid_unicode_utf8_acceptRanges), ("internal/strconv.leftcheats", laid_internal_strconv_leftcheats), ("internal/strconv.pow10Tab", laid_internal_strconv_pow10Tab), ("unicode/utf8.first", laid_unicode_utf8_first)] }
def ValueOrdersSaid : Prop := valueOrdersRow.holds Tryz.pinned (OpenSpec.ofChange valueOrdersSpec)

/-- ITS FALSE NEIGHBOUR: 'it returns false'. Refute it at one input. -/
def valueOrdersWrong : ChangeSpec := { name := "valueOrders", fn := fun _ => fun
  | [d1, d2, d3] => { results := [.lit (.bool false)], args := [d1, d2, d3] }
  | _ => none }
def ValueOrdersWrongFalsely : Prop := valueOrdersRow.holds Tryz.pinned (OpenSpec.ofChange valueOrdersWrong)

/-- 'dowserlaw07.ValueCleans': WHATEVER THE INPUT: true; the input reads as it did. -/
def valueCleansSpec : ChangeSpec := { name := "valueCleans", fn := fun _ => fun
  | [d1, d2] => { results := [.lit (.bool true)], args := [d1, d2] }
  | _ => none }
def valueCleansRow : OpenClaim := { program := "ytjlpjooaclfnlaagreatdoor", sum := "5c053fc9be6865164ee260f63e9b85b2138c6ad43e65acf2f35034636ee7878f", func := "dowser/dowserlaw07.ValueCleans", spec := "valueCleans", inPlace := ["math.Float64frombits", "math.Float64bits", "internal/strconv.float32bits", "internal/strconv.float64bits", "internal/bytealg.IndexByteString", "internal/bytealg.IndexString", "internal/bytealg.CountString", "internal/abi.NoEscape", "internal/bytealg.MakeNoZero", "internal/bytealg.abigen_runtime_cmpstring"], named := ["internal/strconv.uint64pow10", "math/bits.deBruijn32tab", "math/bits.deBruijn64tab", "internal/strconv.optimize", "internal/strconv.pow10Tab", "internal/strconv.leftcheats", "unicode/utf8.first", "unicode/utf8.acceptRanges", "internal/bytealg.MaxLen"], apart := false, laid := [("math/bits.deBruijn32tab", laid_math_bits_deBruijn32tab), ("math/bits.deBruijn64tab", laid_math_bits_deBruijn64tab), ("internal/strconv.optimize", laid_internal_strconv_optimize), ("internal/strconv.uint64pow10", laid_internal_strconv_uint64pow10), ("unicode/utf8.acceptRanges", laid_unicode_utf8_acceptRanges), ("internal/strconv.leftcheats", laid_internal_strconv_leftcheats), ("internal/strconv.pow10Tab", laid_internal_strconv_pow10Tab), ("unicode/utf8.first", laid_unicode_utf8_first)] }
def ValueCleansSaid : Prop := valueCleansRow.holds Tryz.pinned (OpenSpec.ofChange valueCleansSpec)

/-- ITS FALSE NEIGHBOUR: 'it returns false'. Refute it at one input. -/
def valueCleansWrong : ChangeSpec := { name := "valueCleans", fn := fun _ => fun
  | [d1, d2] => { results := [.lit (.bool false)], args := [d1, d2] }
  | _ => none }
def ValueCleansWrongFalsely : Prop := valueCleansRow.holds Tryz.pinned (OpenSpec.ofChange valueCleansWrong)

/-- 'dowserlaw07.ValueReckons': WHATEVER THE INPUT: true; the input reads as it did. -/
def valueReckonsSpec : ChangeSpec := { name := "valueReckons", fn := fun _ => fun
  | [d1, d2, d3] => { results := [.lit (.bool true)], args := [d1, d2, d3] }
  | _ => none }
def valueReckonsRow : OpenClaim := { program := "ytjlpjooaclfnlaagreatdoor", sum := "5c053fc9be6865164ee260f63e9b85b2138c6ad43e65acf2f35034636ee7878f", func := "dowser/dowserlaw07.ValueReckons", spec := "valueReckons", inPlace := ["math.Float64frombits", "math.Float64bits", "internal/strconv.float32bits", "internal/strconv.float64bits", "internal/bytealg.IndexByteString", "internal/bytealg.IndexString", "internal/bytealg.CountString", "internal/abi.NoEscape", "internal/bytealg.MakeNoZero", "internal/bytealg.abigen_runtime_cmpstring"], named := ["internal/strconv.uint64pow10", "math/bits.deBruijn32tab", "math/bits.deBruijn64tab", "internal/strconv.optimize", "internal/strconv.pow10Tab", "internal/strconv.leftcheats", "unicode/utf8.first", "unicode/utf8.acceptRanges", "internal/bytealg.MaxLen"], apart := false, laid := [("math/bits.deBruijn32tab", laid_math_bits_deBruijn32tab), ("math/bits.deBruijn64tab", laid_math_bits_deBruijn64tab), ("internal/strconv.optimize", laid_internal_strconv_optimize), ("internal/strconv.uint64pow10", laid_internal_strconv_uint64pow10), ("unicode/utf8.acceptRanges", laid_unicode_utf8_acceptRanges), ("internal/strconv.leftcheats", laid_internal_strconv_leftcheats), ("internal/strconv.pow10Tab", laid_internal_strconv_pow10Tab), ("unicode/utf8.first", laid_unicode_utf8_first)] }
def ValueReckonsSaid : Prop := valueReckonsRow.holds Tryz.pinned (OpenSpec.ofChange valueReckonsSpec)

/-- ITS FALSE NEIGHBOUR: 'it returns false'. Refute it at one input. -/
def valueReckonsWrong : ChangeSpec := { name := "valueReckons", fn := fun _ => fun
  | [d1, d2, d3] => { results := [.lit (.bool false)], args := [d1, d2, d3] }
  | _ => none }
def ValueReckonsWrongFalsely : Prop := valueReckonsRow.holds Tryz.pinned (OpenSpec.ofChange valueReckonsWrong)

/-- 'dowserlaw07.ValueTruths': WHATEVER THE INPUT: true; the input reads as it did. -/
def valueTruthsSpec : ChangeSpec := { name := "valueTruths", fn := fun _ => fun
  | [d1, d2] => { results := [.lit (.bool true)], args := [d1, d2] }
  | _ => none }
def valueTruthsRow : OpenClaim := { program := "ytjlpjooaclfnlaagreatdoor", sum := "5c053fc9be6865164ee260f63e9b85b2138c6ad43e65acf2f35034636ee7878f", func := "dowser/dowserlaw07.ValueTruths", spec := "valueTruths", inPlace := ["math.Float64frombits", "math.Float64bits", "internal/strconv.float32bits", "internal/strconv.float64bits", "internal/bytealg.IndexByteString", "internal/bytealg.IndexString", "internal/bytealg.CountString", "internal/abi.NoEscape", "internal/bytealg.MakeNoZero", "internal/bytealg.abigen_runtime_cmpstring"], named := ["internal/strconv.uint64pow10", "math/bits.deBruijn32tab", "math/bits.deBruijn64tab", "internal/strconv.optimize", "internal/strconv.pow10Tab", "internal/strconv.leftcheats", "unicode/utf8.first", "unicode/utf8.acceptRanges", "internal/bytealg.MaxLen"], apart := false, laid := [("math/bits.deBruijn32tab", laid_math_bits_deBruijn32tab), ("math/bits.deBruijn64tab", laid_math_bits_deBruijn64tab), ("internal/strconv.optimize", laid_internal_strconv_optimize), ("internal/strconv.uint64pow10", laid_internal_strconv_uint64pow10), ("unicode/utf8.acceptRanges", laid_unicode_utf8_acceptRanges), ("internal/strconv.leftcheats", laid_internal_strconv_leftcheats), ("internal/strconv.pow10Tab", laid_internal_strconv_pow10Tab), ("unicode/utf8.first", laid_unicode_utf8_first)] }
def ValueTruthsSaid : Prop := valueTruthsRow.holds Tryz.pinned (OpenSpec.ofChange valueTruthsSpec)

/-- ITS FALSE NEIGHBOUR: 'it returns false'. Refute it at one input. -/
def valueTruthsWrong : ChangeSpec := { name := "valueTruths", fn := fun _ => fun
  | [d1, d2] => { results := [.lit (.bool false)], args := [d1, d2] }
  | _ => none }
def ValueTruthsWrongFalsely : Prop := valueTruthsRow.holds Tryz.pinned (OpenSpec.ofChange valueTruthsWrong)

/-- 'dowserlaw07.ValueRules': WHATEVER THE INPUT: true; the input reads as it did. -/
def valueRulesSpec : ChangeSpec := { name := "valueRules", fn := fun _ => fun
  | [d1, d2, d3] => { results := [.lit (.bool true)], args := [d1, d2, d3] }
  | _ => none }
def valueRulesRow : OpenClaim := { program := "ytjlpjooaclfnlaagreatdoor", sum := "5c053fc9be6865164ee260f63e9b85b2138c6ad43e65acf2f35034636ee7878f", func := "dowser/dowserlaw07.ValueRules", spec := "valueRules", inPlace := ["math.Float64frombits", "math.Float64bits", "internal/strconv.float32bits", "internal/strconv.float64bits", "internal/bytealg.IndexByteString", "internal/bytealg.IndexString", "internal/bytealg.CountString", "internal/abi.NoEscape", "internal/bytealg.MakeNoZero", "internal/bytealg.abigen_runtime_cmpstring"], named := ["internal/strconv.uint64pow10", "math/bits.deBruijn32tab", "math/bits.deBruijn64tab", "internal/strconv.optimize", "internal/strconv.pow10Tab", "internal/strconv.leftcheats", "unicode/utf8.first", "unicode/utf8.acceptRanges", "internal/bytealg.MaxLen"], apart := false, laid := [("math/bits.deBruijn32tab", laid_math_bits_deBruijn32tab), ("math/bits.deBruijn64tab", laid_math_bits_deBruijn64tab), ("internal/strconv.optimize", laid_internal_strconv_optimize), ("internal/strconv.uint64pow10", laid_internal_strconv_uint64pow10), ("unicode/utf8.acceptRanges", laid_unicode_utf8_acceptRanges), ("internal/strconv.leftcheats", laid_internal_strconv_leftcheats), ("internal/strconv.pow10Tab", laid_internal_strconv_pow10Tab), ("unicode/utf8.first", laid_unicode_utf8_first)] }
def ValueRulesSaid : Prop := valueRulesRow.holds Tryz.pinned (OpenSpec.ofChange valueRulesSpec)

/-- ITS FALSE NEIGHBOUR: 'it returns false'. Refute it at one input. -/
def valueRulesWrong : ChangeSpec := { name := "valueRules", fn := fun _ => fun
  | [d1, d2, d3] => { results := [.lit (.bool false)], args := [d1, d2, d3] }
  | _ => none }
def ValueRulesWrongFalsely : Prop := valueRulesRow.holds Tryz.pinned (OpenSpec.ofChange valueRulesWrong)

/- THE SECOND FORM. 'bulk': how many values and letters a reading holds, each counted each time it is reached (what is shared counts as often as it is met; a slice's spare places count too). A statement '..UptoSaid' is the law's where the arguments, and the package variables that the reading takes, are together of bulk at most 1048576: NARROWER than '..Said'. Prove '..Said' where nothing that the law and all that it calls make is longer than what came in: it says more and counts as full. Else prove '..UptoSaid'. A law counts once. -/
mutual
def uptoBulk {H : Type} : DataW H → Nat
  | .lit (.string bytes) => bytes.length + 1
  | .lit _ => 1
  | .nil => 1
  | .ptr d => uptoBulk d + 1
  | .slice elems spare => uptoBulkAll elems + uptoBulkAll spare + 1
  | .agg parts => uptoBulkAll parts + 1
  | .iface _ d => uptoBulk d + 1
  | .map entries => uptoBulkEntries entries + 1
  | .held _ => 1
def uptoBulkAll {H : Type} : List (DataW H) → Nat
  | [] => 0
  | d :: r => uptoBulk d + uptoBulkAll r
def uptoBulkEntries {H : Type} : List (Lit × DataW H) → Nat
  | [] => 0
  | x :: r => uptoBulkEntry x + uptoBulkEntries r
def uptoBulkEntry {H : Type} : Lit × DataW H → Nat
  | (.string bytes, d) => bytes.length + uptoBulk d + 1
  | (_, d) => uptoBulk d + 1
 end
def uptoSmall : (H : Type) → List (DataW H) → Bool := fun _ ds => decide (uptoBulkAll ds ≤ 1048576)
def OpenSpec.upto (s : _root_.Go.ChangeSpec) : _root_.Go.OpenSpec := { _root_.Go.OpenSpec.ofChange s with cond := some uptoSmall }

/-- 'dowserlaw07.ValueLine', WHERE WHAT IT READS IS OF BULK AT MOST 1048576: true; the input reads as it did. -/
def valueLineUptoRow : OpenClaim := { program := "ytjlpjooaclfnlaagreatdoor", sum := "5c053fc9be6865164ee260f63e9b85b2138c6ad43e65acf2f35034636ee7878f", func := "dowser/dowserlaw07.ValueLine", spec := "valueLine", inPlace := ["math.Float64frombits", "math.Float64bits", "internal/strconv.float32bits", "internal/strconv.float64bits", "internal/bytealg.IndexByteString", "internal/bytealg.IndexString", "internal/bytealg.CountString", "internal/abi.NoEscape", "internal/bytealg.MakeNoZero", "internal/bytealg.abigen_runtime_cmpstring"], named := ["internal/strconv.uint64pow10", "math/bits.deBruijn32tab", "math/bits.deBruijn64tab", "internal/strconv.optimize", "internal/strconv.pow10Tab", "internal/strconv.leftcheats", "unicode/utf8.first", "unicode/utf8.acceptRanges", "internal/bytealg.MaxLen"], apart := false, laid := [("math/bits.deBruijn32tab", laid_math_bits_deBruijn32tab), ("math/bits.deBruijn64tab", laid_math_bits_deBruijn64tab), ("internal/strconv.optimize", laid_internal_strconv_optimize), ("internal/strconv.uint64pow10", laid_internal_strconv_uint64pow10), ("unicode/utf8.acceptRanges", laid_unicode_utf8_acceptRanges), ("internal/strconv.leftcheats", laid_internal_strconv_leftcheats), ("internal/strconv.pow10Tab", laid_internal_strconv_pow10Tab), ("unicode/utf8.first", laid_unicode_utf8_first)], narrowed := true }
def ValueLineUptoSaid : Prop := valueLineUptoRow.holds Tryz.pinned (OpenSpec.upto valueLineSpec)

/-- 'dowserlaw07.ValueBack', WHERE WHAT IT READS IS OF BULK AT MOST 1048576: true; the input reads as it did. -/
def valueBackUptoRow : OpenClaim := { program := "ytjlpjooaclfnlaagreatdoor", sum := "5c053fc9be6865164ee260f63e9b85b2138c6ad43e65acf2f35034636ee7878f", func := "dowser/dowserlaw07.ValueBack", spec := "valueBack", inPlace := ["math.Float64frombits", "math.Float64bits", "internal/strconv.float32bits", "internal/strconv.float64bits", "internal/bytealg.IndexByteString", "internal/bytealg.IndexString", "internal/bytealg.CountString", "internal/abi.NoEscape", "internal/bytealg.MakeNoZero", "internal/bytealg.abigen_runtime_cmpstring"], named := ["internal/strconv.uint64pow10", "math/bits.deBruijn32tab", "math/bits.deBruijn64tab", "internal/strconv.optimize", "internal/strconv.pow10Tab", "internal/strconv.leftcheats", "unicode/utf8.first", "unicode/utf8.acceptRanges", "internal/bytealg.MaxLen"], apart := false, laid := [("math/bits.deBruijn32tab", laid_math_bits_deBruijn32tab), ("math/bits.deBruijn64tab", laid_math_bits_deBruijn64tab), ("internal/strconv.optimize", laid_internal_strconv_optimize), ("internal/strconv.uint64pow10", laid_internal_strconv_uint64pow10), ("unicode/utf8.acceptRanges", laid_unicode_utf8_acceptRanges), ("internal/strconv.leftcheats", laid_internal_strconv_leftcheats), ("internal/strconv.pow10Tab", laid_internal_strconv_pow10Tab), ("unicode/utf8.first", laid_unicode_utf8_first)], narrowed := true }
def ValueBackUptoSaid : Prop := valueBackUptoRow.holds Tryz.pinned (OpenSpec.upto valueBackSpec)

/-- 'dowserlaw07.ValueMakes', WHERE WHAT IT READS IS OF BULK AT MOST 1048576: true; the input reads as it did. -/
def valueMakesUptoRow : OpenClaim := { program := "ytjlpjooaclfnlaagreatdoor", sum := "5c053fc9be6865164ee260f63e9b85b2138c6ad43e65acf2f35034636ee7878f", func := "dowser/dowserlaw07.ValueMakes", spec := "valueMakes", inPlace := ["math.Float64frombits", "math.Float64bits", "internal/strconv.float32bits", "internal/strconv.float64bits", "internal/bytealg.IndexByteString", "internal/bytealg.IndexString", "internal/bytealg.CountString", "internal/abi.NoEscape", "internal/bytealg.MakeNoZero", "internal/bytealg.abigen_runtime_cmpstring"], named := ["internal/strconv.uint64pow10", "math/bits.deBruijn32tab", "math/bits.deBruijn64tab", "internal/strconv.optimize", "internal/strconv.pow10Tab", "internal/strconv.leftcheats", "unicode/utf8.first", "unicode/utf8.acceptRanges", "internal/bytealg.MaxLen"], apart := false, laid := [("math/bits.deBruijn32tab", laid_math_bits_deBruijn32tab), ("math/bits.deBruijn64tab", laid_math_bits_deBruijn64tab), ("internal/strconv.optimize", laid_internal_strconv_optimize), ("internal/strconv.uint64pow10", laid_internal_strconv_uint64pow10), ("unicode/utf8.acceptRanges", laid_unicode_utf8_acceptRanges), ("internal/strconv.leftcheats", laid_internal_strconv_leftcheats), ("internal/strconv.pow10Tab", laid_internal_strconv_pow10Tab), ("unicode/utf8.first", laid_unicode_utf8_first)], narrowed := true }
def ValueMakesUptoSaid : Prop := valueMakesUptoRow.holds Tryz.pinned (OpenSpec.upto valueMakesSpec)

/-- 'dowserlaw07.ValueOrders', WHERE WHAT IT READS IS OF BULK AT MOST 1048576: true; the input reads as it did. -/
def valueOrdersUptoRow : OpenClaim := { program := "ytjlpjooaclfnlaagreatdoor", sum := "5c053fc9be6865164ee260f63e9b85b2138c6ad43e65acf2f35034636ee7878f", func := "dowser/dowserlaw07.ValueOrders", spec := "valueOrders", inPlace := ["math.Float64frombits", "math.Float64bits", "internal/strconv.float32bits", "internal/strconv.float64bits", "internal/bytealg.IndexByteString", "internal/bytealg.IndexString", "internal/bytealg.CountString", "internal/abi.NoEscape", "internal/bytealg.MakeNoZero", "internal/bytealg.abigen_runtime_cmpstring"], named := ["internal/strconv.uint64pow10", "math/bits.deBruijn32tab", "math/bits.deBruijn64tab", "internal/strconv.optimize", "internal/strconv.pow10Tab", "internal/strconv.leftcheats", "unicode/utf8.first", "unicode/utf8.acceptRanges", "internal/bytealg.MaxLen"], apart := false, laid := [("math/bits.deBruijn32tab", laid_math_bits_deBruijn32tab), ("math/bits.deBruijn64tab", laid_math_bits_deBruijn64tab), ("internal/strconv.optimize", laid_internal_strconv_optimize), ("internal/strconv.uint64pow10", laid_internal_strconv_uint64pow10), ("unicode/utf8.acceptRanges", laid_unicode_utf8_acceptRanges), ("internal/strconv.leftcheats", laid_internal_strconv_leftcheats), ("internal/strconv.pow10Tab", laid_internal_strconv_pow10Tab), ("unicode/utf8.first", laid_unicode_utf8_first)], narrowed := true }
def ValueOrdersUptoSaid : Prop := valueOrdersUptoRow.holds Tryz.pinned (OpenSpec.upto valueOrdersSpec)

/-- 'dowserlaw07.ValueCleans', WHERE WHAT IT READS IS OF BULK AT MOST 1048576: true; the input reads as it did. -/
def valueCleansUptoRow : OpenClaim := { program := "ytjlpjooaclfnlaagreatdoor", sum := "5c053fc9be6865164ee260f63e9b85b2138c6ad43e65acf2f35034636ee7878f", func := "dowser/dowserlaw07.ValueCleans", spec := "valueCleans", inPlace := ["math.Float64frombits", "math.Float64bits", "internal/strconv.float32bits", "internal/strconv.float64bits", "internal/bytealg.IndexByteString", "internal/bytealg.IndexString", "internal/bytealg.CountString", "internal/abi.NoEscape", "internal/bytealg.MakeNoZero", "internal/bytealg.abigen_runtime_cmpstring"], named := ["internal/strconv.uint64pow10", "math/bits.deBruijn32tab", "math/bits.deBruijn64tab", "internal/strconv.optimize", "internal/strconv.pow10Tab", "internal/strconv.leftcheats", "unicode/utf8.first", "unicode/utf8.acceptRanges", "internal/bytealg.MaxLen"], apart := false, laid := [("math/bits.deBruijn32tab", laid_math_bits_deBruijn32tab), ("math/bits.deBruijn64tab", laid_math_bits_deBruijn64tab), ("internal/strconv.optimize", laid_internal_strconv_optimize), ("internal/strconv.uint64pow10", laid_internal_strconv_uint64pow10), ("unicode/utf8.acceptRanges", laid_unicode_utf8_acceptRanges), ("internal/strconv.leftcheats", laid_internal_strconv_leftcheats), ("internal/strconv.pow10Tab", laid_internal_strconv_pow10Tab), ("unicode/utf8.first", laid_unicode_utf8_first)], narrowed := true }
def ValueCleansUptoSaid : Prop := valueCleansUptoRow.holds Tryz.pinned (OpenSpec.upto valueCleansSpec)

/-- 'dowserlaw07.ValueReckons', WHERE WHAT IT READS IS OF BULK AT MOST 1048576: true; the input reads as it did. -/
def valueReckonsUptoRow : OpenClaim := { program := "ytjlpjooaclfnlaagreatdoor", sum := "5c053fc9be6865164ee260f63e9b85b2138c6ad43e65acf2f35034636ee7878f", func := "dowser/dowserlaw07.ValueReckons", spec := "valueReckons", inPlace := ["math.Float64frombits", "math.Float64bits", "internal/strconv.float32bits", "internal/strconv.float64bits", "internal/bytealg.IndexByteString", "internal/bytealg.IndexString", "internal/bytealg.CountString", "internal/abi.NoEscape", "internal/bytealg.MakeNoZero", "internal/bytealg.abigen_runtime_cmpstring"], named := ["internal/strconv.uint64pow10", "math/bits.deBruijn32tab", "math/bits.deBruijn64tab", "internal/strconv.optimize", "internal/strconv.pow10Tab", "internal/strconv.leftcheats", "unicode/utf8.first", "unicode/utf8.acceptRanges", "internal/bytealg.MaxLen"], apart := false, laid := [("math/bits.deBruijn32tab", laid_math_bits_deBruijn32tab), ("math/bits.deBruijn64tab", laid_math_bits_deBruijn64tab), ("internal/strconv.optimize", laid_internal_strconv_optimize), ("internal/strconv.uint64pow10", laid_internal_strconv_uint64pow10), ("unicode/utf8.acceptRanges", laid_unicode_utf8_acceptRanges), ("internal/strconv.leftcheats", laid_internal_strconv_leftcheats), ("internal/strconv.pow10Tab", laid_internal_strconv_pow10Tab), ("unicode/utf8.first", laid_unicode_utf8_first)], narrowed := true }
def ValueReckonsUptoSaid : Prop := valueReckonsUptoRow.holds Tryz.pinned (OpenSpec.upto valueReckonsSpec)

/-- 'dowserlaw07.ValueTruths', WHERE WHAT IT READS IS OF BULK AT MOST 1048576: true; the input reads as it did. -/
def valueTruthsUptoRow : OpenClaim := { program := "ytjlpjooaclfnlaagreatdoor", sum := "5c053fc9be6865164ee260f63e9b85b2138c6ad43e65acf2f35034636ee7878f", func := "dowser/dowserlaw07.ValueTruths", spec := "valueTruths", inPlace := ["math.Float64frombits", "math.Float64bits", "internal/strconv.float32bits", "internal/strconv.float64bits", "internal/bytealg.IndexByteString", "internal/bytealg.IndexString", "internal/bytealg.CountString", "internal/abi.NoEscape", "internal/bytealg.MakeNoZero", "internal/bytealg.abigen_runtime_cmpstring"], named := ["internal/strconv.uint64pow10", "math/bits.deBruijn32tab", "math/bits.deBruijn64tab", "internal/strconv.optimize", "internal/strconv.pow10Tab", "internal/strconv.leftcheats", "unicode/utf8.first", "unicode/utf8.acceptRanges", "internal/bytealg.MaxLen"], apart := false, laid := [("math/bits.deBruijn32tab", laid_math_bits_deBruijn32tab), ("math/bits.deBruijn64tab", laid_math_bits_deBruijn64tab), ("internal/strconv.optimize", laid_internal_strconv_optimize), ("internal/strconv.uint64pow10", laid_internal_strconv_uint64pow10), ("unicode/utf8.acceptRanges", laid_unicode_utf8_acceptRanges), ("internal/strconv.leftcheats", laid_internal_strconv_leftcheats), ("internal/strconv.pow10Tab", laid_internal_strconv_pow10Tab), ("unicode/utf8.first", laid_unicode_utf8_first)], narrowed := true }
def ValueTruthsUptoSaid : Prop := valueTruthsUptoRow.holds Tryz.pinned (OpenSpec.upto valueTruthsSpec)

/-- 'dowserlaw07.ValueRules', WHERE WHAT IT READS IS OF BULK AT MOST 1048576: true; the input reads as it did. -/
def valueRulesUptoRow : OpenClaim := { program := "ytjlpjooaclfnlaagreatdoor", sum := "5c053fc9be6865164ee260f63e9b85b2138c6ad43e65acf2f35034636ee7878f", func := "dowser/dowserlaw07.ValueRules", spec := "valueRules", inPlace := ["math.Float64frombits", "math.Float64bits", "internal/strconv.float32bits", "internal/strconv.float64bits", "internal/bytealg.IndexByteString", "internal/bytealg.IndexString", "internal/bytealg.CountString", "internal/abi.NoEscape", "internal/bytealg.MakeNoZero", "internal/bytealg.abigen_runtime_cmpstring"], named := ["internal/strconv.uint64pow10", "math/bits.deBruijn32tab", "math/bits.deBruijn64tab", "internal/strconv.optimize", "internal/strconv.pow10Tab", "internal/strconv.leftcheats", "unicode/utf8.first", "unicode/utf8.acceptRanges", "internal/bytealg.MaxLen"], apart := false, laid := [("math/bits.deBruijn32tab", laid_math_bits_deBruijn32tab), ("math/bits.deBruijn64tab", laid_math_bits_deBruijn64tab), ("internal/strconv.optimize", laid_internal_strconv_optimize), ("internal/strconv.uint64pow10", laid_internal_strconv_uint64pow10), ("unicode/utf8.acceptRanges", laid_unicode_utf8_acceptRanges), ("internal/strconv.leftcheats", laid_internal_strconv_leftcheats), ("internal/strconv.pow10Tab", laid_internal_strconv_pow10Tab), ("unicode/utf8.first", laid_unicode_utf8_first)], narrowed := true }
def ValueRulesUptoSaid : Prop := valueRulesUptoRow.holds Tryz.pinned (OpenSpec.upto valueRulesSpec)

end Rows
end Go.Proofs.YtjlpjooaclfnlaaGreatDoor
