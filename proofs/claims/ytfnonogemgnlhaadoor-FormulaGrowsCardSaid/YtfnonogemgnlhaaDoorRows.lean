/-
  NARROWER THAN 'FOR EVERY INPUT', by the rows' own cells (each row's printed sentence says how): FormulaParses: laid · FormulaFormats: laid · FormulaReadsBack: laid · FormulaIsStable: laid · FormulaIgnoresBrackets: laid · FormulaStopsAtTheError: laid · FormulaGrows: laid.
  DERIVED. THE GIVEN ROWS OF THIS SEAT. 7 by the template 'for every input the law returns true; each argument reads behind the call as it read before'; 0 by the template 'total and deterministic' (their statements: YtfnonogemgnlhaaDoorTotals.lean).
  GIVEN WITH THE SEED: the statements are not yours to turn. If you find one false, say at which input.
  Laid BY PROGRAM, IN A SANDBOX (cutbox-rows.mjs): the forced cells as the released guide's own fill.sh prints them over the translation 356b848c9e98ed3f… (all of the seat's roots in one cut). By AI agents, Wed Nov 11 2026. No macro, syntax, notation, axiom, sorry.
-/
import Derived.Test.YtfnonogemgnlhaaDoorChecked
import GoSem.Claim
import GoSem.ClaimJoined
import GoSem.ClaimMapViews
import Derived.JoinedTies
import Derived.KernelRfl
namespace Go.Proofs.YtfnonogemgnlhaaDoor
/- THE CELL 'sum', in the pinned program and in every row, IS THE sha256 OF THE DUMP (.gsa) THAT YtfnonogemgnlhaaDoorProg.lean LOADS. Nothing in Lean hashes anything: it is a label: what it is worth is what the hold of that sum in a sandbox is worth. -/
noncomputable def Tryd.pinned : Pinned := { name := "ytfnonogemgnlhaadoor", sum := "356b848c9e98ed3f4e9a719165cd1181b57f3fb510c2c07be70f8ab55cd7f958", checked := Tryd.checked }
namespace Rows
def none {H : Type} : Left H := { results := [], args := [] }

/- WHAT THE LISTED PACKAGE-LEVEL VARIABLES READ AS WHEN THE CALL BEGINS. Each datum BY PROGRAM (the guide's laid-datum.mjs) off the statement by which the dump's own 'gosem.cut.vars' lays the variable. In a bare row this is a premise. The card (YtfnonogemgnlhaaDoorCards.lean) ties it to the program's text. -/
def laid_math_bits_deBruijn32tab {H : Type} : DataW H := .agg [.lit (.int .u8 0), .lit (.int .u8 1), .lit (.int .u8 28), .lit (.int .u8 2), .lit (.int .u8 29), .lit (.int .u8 14), .lit (.int .u8 24), .lit (.int .u8 3), .lit (.int .u8 30), .lit (.int .u8 22), .lit (.int .u8 20), .lit (.int .u8 15), .lit (.int .u8 25), .lit (.int .u8 17), .lit (.int .u8 4), .lit (.int .u8 8), .lit (.int .u8 31), .lit (.int .u8 27), .lit (.int .u8 13), .lit (.int .u8 23), .lit (.int .u8 21), .lit (.int .u8 19), .lit (.int .u8 16), .lit (.int .u8 7), .lit (.int .u8 26), .lit (.int .u8 12), .lit (.int .u8 18), .lit (.int .u8 6), .lit (.int .u8 11), .lit (.int .u8 5), .lit (.int .u8 10), .lit (.int .u8 9)]
def laid_math_bits_deBruijn64tab {H : Type} : DataW H := .agg [.lit (.int .u8 0), .lit (.int .u8 1), .lit (.int .u8 56), .lit (.int .u8 2), .lit (.int .u8 57), .lit (.int .u8 49), .lit (.int .u8 28), .lit (.int .u8 3), .lit (.int .u8 61), .lit (.int .u8 58), .lit (.int .u8 42), .lit (.int .u8 50), .lit (.int .u8 38), .lit (.int .u8 29), .lit (.int .u8 17), .lit (.int .u8 4), .lit (.int .u8 62), .lit (.int .u8 47), .lit (.int .u8 59), .lit (.int .u8 36), .lit (.int .u8 45), .lit (.int .u8 43), .lit (.int .u8 51), .lit (.int .u8 22), .lit (.int .u8 53), .lit (.int .u8 39), .lit (.int .u8 33), .lit (.int .u8 30), .lit (.int .u8 24), .lit (.int .u8 18), .lit (.int .u8 12), .lit (.int .u8 5), .lit (.int .u8 63), .lit (.int .u8 55), .lit (.int .u8 48), .lit (.int .u8 27), .lit (.int .u8 60), .lit (.int .u8 41), .lit (.int .u8 37), .lit (.int .u8 16), .lit (.int .u8 46), .lit (.int .u8 35), .lit (.int .u8 44), .lit (.int .u8 21), .lit (.int .u8 52), .lit (.int .u8 32), .lit (.int .u8 23), .lit (.int .u8 11), .lit (.int .u8 54), .lit (.int .u8 26), .lit (.int .u8 40), .lit (.int .u8 15), .lit (.int .u8 34), .lit (.int .u8 20), .lit (.int .u8 31), .lit (.int .u8 10), .lit (.int .u8 25), .lit (.int .u8 14), .lit (.int .u8 19), .lit (.int .u8 9), .lit (.int .u8 13), .lit (.int .u8 8), .lit (.int .u8 7), .lit (.int .u8 6)]
def laid_internal_strconv_uint64pow10 {H : Type} : DataW H := .agg [.lit (.int .u64 1), .lit (.int .u64 10), .lit (.int .u64 100), .lit (.int .u64 1000), .lit (.int .u64 10000), .lit (.int .u64 100000), .lit (.int .u64 1000000), .lit (.int .u64 10000000), .lit (.int .u64 100000000), .lit (.int .u64 1000000000), .lit (.int .u64 10000000000), .lit (.int .u64 100000000000), .lit (.int .u64 1000000000000), .lit (.int .u64 10000000000000), .lit (.int .u64 100000000000000), .lit (.int .u64 1000000000000000), .lit (.int .u64 10000000000000000), .lit (.int .u64 100000000000000000), .lit (.int .u64 1000000000000000000), .lit (.int .u64 10000000000000000000)]

/-- 'robuststatslaw09.FormulaParses': WHATEVER THE INPUT: true; the input reads as it did. -/
def formulaParsesSpec : ChangeSpec := { name := "formulaParses", fn := fun _ => fun
  | [d] => { results := [.lit (.bool true)], args := [d] }
  | _ => none }
def formulaParsesRow : OpenClaim := { program := "ytfnonogemgnlhaadoor", sum := "356b848c9e98ed3f4e9a719165cd1181b57f3fb510c2c07be70f8ab55cd7f958", func := "robuststats/robuststatslaw09.FormulaParses", spec := "formulaParses", inPlace := ["internal/abi.NoEscape", "internal/bytealg.MakeNoZero"], unfollowed := true, recurses := true, named := ["internal/strconv.uint64pow10", "math/bits.deBruijn32tab", "math/bits.deBruijn64tab"], apart := false, laid := [("math/bits.deBruijn32tab", laid_math_bits_deBruijn32tab), ("math/bits.deBruijn64tab", laid_math_bits_deBruijn64tab), ("internal/strconv.uint64pow10", laid_internal_strconv_uint64pow10)] }
def FormulaParsesSaid : Prop := formulaParsesRow.holds Tryd.pinned (OpenSpec.ofChange formulaParsesSpec)

/-- ITS FALSE NEIGHBOUR: 'it returns false'. Refute it at one input. -/
def formulaParsesWrong : ChangeSpec := { name := "formulaParses", fn := fun _ => fun
  | [d] => { results := [.lit (.bool false)], args := [d] }
  | _ => none }
def FormulaParsesWrongFalsely : Prop := formulaParsesRow.holds Tryd.pinned (OpenSpec.ofChange formulaParsesWrong)

/-- 'robuststatslaw09.FormulaFormats': WHATEVER THE INPUT: true; the input reads as it did. -/
def formulaFormatsSpec : ChangeSpec := { name := "formulaFormats", fn := fun _ => fun
  | [d] => { results := [.lit (.bool true)], args := [d] }
  | _ => none }
def formulaFormatsRow : OpenClaim := { program := "ytfnonogemgnlhaadoor", sum := "356b848c9e98ed3f4e9a719165cd1181b57f3fb510c2c07be70f8ab55cd7f958", func := "robuststats/robuststatslaw09.FormulaFormats", spec := "formulaFormats", inPlace := ["internal/abi.NoEscape", "internal/bytealg.MakeNoZero"], unfollowed := true, recurses := true, named := ["internal/strconv.uint64pow10", "math/bits.deBruijn32tab", "math/bits.deBruijn64tab"], apart := false, laid := [("math/bits.deBruijn32tab", laid_math_bits_deBruijn32tab), ("math/bits.deBruijn64tab", laid_math_bits_deBruijn64tab), ("internal/strconv.uint64pow10", laid_internal_strconv_uint64pow10)] }
def FormulaFormatsSaid : Prop := formulaFormatsRow.holds Tryd.pinned (OpenSpec.ofChange formulaFormatsSpec)

/-- ITS FALSE NEIGHBOUR: 'it returns false'. Refute it at one input. -/
def formulaFormatsWrong : ChangeSpec := { name := "formulaFormats", fn := fun _ => fun
  | [d] => { results := [.lit (.bool false)], args := [d] }
  | _ => none }
def FormulaFormatsWrongFalsely : Prop := formulaFormatsRow.holds Tryd.pinned (OpenSpec.ofChange formulaFormatsWrong)

/-- 'robuststatslaw09.FormulaReadsBack': WHATEVER THE INPUT: true; the input reads as it did. -/
def formulaReadsBackSpec : ChangeSpec := { name := "formulaReadsBack", fn := fun _ => fun
  | [d] => { results := [.lit (.bool true)], args := [d] }
  | _ => none }
def formulaReadsBackRow : OpenClaim := { program := "ytfnonogemgnlhaadoor", sum := "356b848c9e98ed3f4e9a719165cd1181b57f3fb510c2c07be70f8ab55cd7f958", func := "robuststats/robuststatslaw09.FormulaReadsBack", spec := "formulaReadsBack", inPlace := ["internal/abi.NoEscape", "internal/bytealg.MakeNoZero"], unfollowed := true, recurses := true, named := ["internal/strconv.uint64pow10", "math/bits.deBruijn32tab", "math/bits.deBruijn64tab"], apart := false, laid := [("math/bits.deBruijn32tab", laid_math_bits_deBruijn32tab), ("math/bits.deBruijn64tab", laid_math_bits_deBruijn64tab), ("internal/strconv.uint64pow10", laid_internal_strconv_uint64pow10)] }
def FormulaReadsBackSaid : Prop := formulaReadsBackRow.holds Tryd.pinned (OpenSpec.ofChange formulaReadsBackSpec)

/-- ITS FALSE NEIGHBOUR: 'it returns false'. Refute it at one input. -/
def formulaReadsBackWrong : ChangeSpec := { name := "formulaReadsBack", fn := fun _ => fun
  | [d] => { results := [.lit (.bool false)], args := [d] }
  | _ => none }
def FormulaReadsBackWrongFalsely : Prop := formulaReadsBackRow.holds Tryd.pinned (OpenSpec.ofChange formulaReadsBackWrong)

/-- 'robuststatslaw09.FormulaIsStable': WHATEVER THE INPUT: true; the input reads as it did. -/
def formulaIsStableSpec : ChangeSpec := { name := "formulaIsStable", fn := fun _ => fun
  | [d] => { results := [.lit (.bool true)], args := [d] }
  | _ => none }
def formulaIsStableRow : OpenClaim := { program := "ytfnonogemgnlhaadoor", sum := "356b848c9e98ed3f4e9a719165cd1181b57f3fb510c2c07be70f8ab55cd7f958", func := "robuststats/robuststatslaw09.FormulaIsStable", spec := "formulaIsStable", inPlace := ["internal/abi.NoEscape", "internal/bytealg.MakeNoZero"], unfollowed := true, recurses := true, named := ["internal/strconv.uint64pow10", "math/bits.deBruijn32tab", "math/bits.deBruijn64tab"], apart := false, laid := [("math/bits.deBruijn32tab", laid_math_bits_deBruijn32tab), ("math/bits.deBruijn64tab", laid_math_bits_deBruijn64tab), ("internal/strconv.uint64pow10", laid_internal_strconv_uint64pow10)] }
def FormulaIsStableSaid : Prop := formulaIsStableRow.holds Tryd.pinned (OpenSpec.ofChange formulaIsStableSpec)

/-- ITS FALSE NEIGHBOUR: 'it returns false'. Refute it at one input. -/
def formulaIsStableWrong : ChangeSpec := { name := "formulaIsStable", fn := fun _ => fun
  | [d] => { results := [.lit (.bool false)], args := [d] }
  | _ => none }
def FormulaIsStableWrongFalsely : Prop := formulaIsStableRow.holds Tryd.pinned (OpenSpec.ofChange formulaIsStableWrong)

/-- 'robuststatslaw09.FormulaIgnoresBrackets': WHATEVER THE INPUT: true; the input reads as it did. -/
def formulaIgnoresBracketsSpec : ChangeSpec := { name := "formulaIgnoresBrackets", fn := fun _ => fun
  | [d1, d2] => { results := [.lit (.bool true)], args := [d1, d2] }
  | _ => none }
def formulaIgnoresBracketsRow : OpenClaim := { program := "ytfnonogemgnlhaadoor", sum := "356b848c9e98ed3f4e9a719165cd1181b57f3fb510c2c07be70f8ab55cd7f958", func := "robuststats/robuststatslaw09.FormulaIgnoresBrackets", spec := "formulaIgnoresBrackets", inPlace := ["internal/abi.NoEscape", "internal/bytealg.MakeNoZero"], unfollowed := true, recurses := true, named := ["internal/strconv.uint64pow10", "math/bits.deBruijn32tab", "math/bits.deBruijn64tab"], apart := false, laid := [("math/bits.deBruijn32tab", laid_math_bits_deBruijn32tab), ("math/bits.deBruijn64tab", laid_math_bits_deBruijn64tab), ("internal/strconv.uint64pow10", laid_internal_strconv_uint64pow10)] }
def FormulaIgnoresBracketsSaid : Prop := formulaIgnoresBracketsRow.holds Tryd.pinned (OpenSpec.ofChange formulaIgnoresBracketsSpec)

/-- ITS FALSE NEIGHBOUR: 'it returns false'. Refute it at one input. -/
def formulaIgnoresBracketsWrong : ChangeSpec := { name := "formulaIgnoresBrackets", fn := fun _ => fun
  | [d1, d2] => { results := [.lit (.bool false)], args := [d1, d2] }
  | _ => none }
def FormulaIgnoresBracketsWrongFalsely : Prop := formulaIgnoresBracketsRow.holds Tryd.pinned (OpenSpec.ofChange formulaIgnoresBracketsWrong)

/-- 'robuststatslaw09.FormulaStopsAtTheError': WHATEVER THE INPUT: true; the input reads as it did. -/
def formulaStopsAtTheErrorSpec : ChangeSpec := { name := "formulaStopsAtTheError", fn := fun _ => fun
  | [d] => { results := [.lit (.bool true)], args := [d] }
  | _ => none }
def formulaStopsAtTheErrorRow : OpenClaim := { program := "ytfnonogemgnlhaadoor", sum := "356b848c9e98ed3f4e9a719165cd1181b57f3fb510c2c07be70f8ab55cd7f958", func := "robuststats/robuststatslaw09.FormulaStopsAtTheError", spec := "formulaStopsAtTheError", inPlace := ["internal/abi.NoEscape", "internal/bytealg.MakeNoZero"], unfollowed := true, recurses := true, named := ["internal/strconv.uint64pow10", "math/bits.deBruijn32tab", "math/bits.deBruijn64tab"], apart := false, laid := [("math/bits.deBruijn32tab", laid_math_bits_deBruijn32tab), ("math/bits.deBruijn64tab", laid_math_bits_deBruijn64tab), ("internal/strconv.uint64pow10", laid_internal_strconv_uint64pow10)] }
def FormulaStopsAtTheErrorSaid : Prop := formulaStopsAtTheErrorRow.holds Tryd.pinned (OpenSpec.ofChange formulaStopsAtTheErrorSpec)

/-- ITS FALSE NEIGHBOUR: 'it returns false'. Refute it at one input. -/
def formulaStopsAtTheErrorWrong : ChangeSpec := { name := "formulaStopsAtTheError", fn := fun _ => fun
  | [d] => { results := [.lit (.bool false)], args := [d] }
  | _ => none }
def FormulaStopsAtTheErrorWrongFalsely : Prop := formulaStopsAtTheErrorRow.holds Tryd.pinned (OpenSpec.ofChange formulaStopsAtTheErrorWrong)

/-- 'robuststatslaw09.FormulaGrows': WHATEVER THE INPUT: true; the input reads as it did. -/
def formulaGrowsSpec : ChangeSpec := { name := "formulaGrows", fn := fun _ => fun
  | [d1, d2, d3] => { results := [.lit (.bool true)], args := [d1, d2, d3] }
  | _ => none }
def formulaGrowsRow : OpenClaim := { program := "ytfnonogemgnlhaadoor", sum := "356b848c9e98ed3f4e9a719165cd1181b57f3fb510c2c07be70f8ab55cd7f958", func := "robuststats/robuststatslaw09.FormulaGrows", spec := "formulaGrows", inPlace := ["internal/abi.NoEscape", "internal/bytealg.MakeNoZero"], unfollowed := true, recurses := true, named := ["internal/strconv.uint64pow10", "math/bits.deBruijn32tab", "math/bits.deBruijn64tab"], apart := false, laid := [("math/bits.deBruijn32tab", laid_math_bits_deBruijn32tab), ("math/bits.deBruijn64tab", laid_math_bits_deBruijn64tab), ("internal/strconv.uint64pow10", laid_internal_strconv_uint64pow10)] }
def FormulaGrowsSaid : Prop := formulaGrowsRow.holds Tryd.pinned (OpenSpec.ofChange formulaGrowsSpec)

/-- ITS FALSE NEIGHBOUR: 'it returns false'. Refute it at one input. -/
def formulaGrowsWrong : ChangeSpec := { name := "formulaGrows", fn := fun _ => fun
  | [d1, d2, d3] => { results := [.lit (.bool false)], args := [d1, d2, d3] }
  | _ => none }
def FormulaGrowsWrongFalsely : Prop := formulaGrowsRow.holds Tryd.pinned (OpenSpec.ofChange formulaGrowsWrong)

/- THE SECOND FORM. 'bulk': how many values and letters a reading holds, each counted each time it is reached (what is shared counts as often as it is met; a slice's spare places count too). A statement '..UptoSaid' is the law's where the arguments, and the package variables that the reading takes, are together of bulk at most 1048576: NARROWER than '..Said'. Prove '..Said' where nothing that the law and all that it calls make is longer than what came in: it says more and counts as full. Else prove '..UptoSaid'. A law counts once. -/
mutual
def uptoBulk {H : Type} : DataW H → Nat
  | .lit (.string bytes) => bytes.length + 1
  | .lit _ => 1
  | .nil => 1
  | .ptr d => uptoBulk d + 1
  | .slice elems spare => uptoBulkAll elems + uptoBulkAll spare + 1
  | .agg parts => uptoBulkAll parts + 1
  | .iface _ d => uptoBulk d + 1
  | .map entries => uptoBulkEntries entries + 1
  | .held _ => 1
def uptoBulkAll {H : Type} : List (DataW H) → Nat
  | [] => 0
  | d :: r => uptoBulk d + uptoBulkAll r
def uptoBulkEntries {H : Type} : List (Lit × DataW H) → Nat
  | [] => 0
  | x :: r => uptoBulkEntry x + uptoBulkEntries r
def uptoBulkEntry {H : Type} : Lit × DataW H → Nat
  | (.string bytes, d) => bytes.length + uptoBulk d + 1
  | (_, d) => uptoBulk d + 1
 end
def uptoSmall : (H : Type) → List (DataW H) → Bool := fun _ ds => decide (uptoBulkAll ds ≤ 1048576)
def OpenSpec.upto (s : _root_.Go.ChangeSpec) : _root_.Go.OpenSpec := { _root_.Go.OpenSpec.ofChange s with cond := some uptoSmall }

/-- 'robuststatslaw09.FormulaParses', WHERE WHAT IT READS IS OF BULK AT MOST 1048576: true; the input reads as it did. -/
def formulaParsesUptoRow : OpenClaim := { program := "ytfnonogemgnlhaadoor", sum := "356b848c9e98ed3f4e9a719165cd1181b57f3fb510c2c07be70f8ab55cd7f958", func := "robuststats/robuststatslaw09.FormulaParses", spec := "formulaParses", inPlace := ["internal/abi.NoEscape", "internal/bytealg.MakeNoZero"], unfollowed := true, recurses := true, named := ["internal/strconv.uint64pow10", "math/bits.deBruijn32tab", "math/bits.deBruijn64tab"], apart := false, laid := [("math/bits.deBruijn32tab", laid_math_bits_deBruijn32tab), ("math/bits.deBruijn64tab", laid_math_bits_deBruijn64tab), ("internal/strconv.uint64pow10", laid_internal_strconv_uint64pow10)], narrowed := true }
def FormulaParsesUptoSaid : Prop := formulaParsesUptoRow.holds Tryd.pinned (OpenSpec.upto formulaParsesSpec)

/-- 'robuststatslaw09.FormulaFormats', WHERE WHAT IT READS IS OF BULK AT MOST 1048576: true; the input reads as it did. -/
def formulaFormatsUptoRow : OpenClaim := { program := "ytfnonogemgnlhaadoor", sum := "356b848c9e98ed3f4e9a719165cd1181b57f3fb510c2c07be70f8ab55cd7f958", func := "robuststats/robuststatslaw09.FormulaFormats", spec := "formulaFormats", inPlace := ["internal/abi.NoEscape", "internal/bytealg.MakeNoZero"], unfollowed := true, recurses := true, named := ["internal/strconv.uint64pow10", "math/bits.deBruijn32tab", "math/bits.deBruijn64tab"], apart := false, laid := [("math/bits.deBruijn32tab", laid_math_bits_deBruijn32tab), ("math/bits.deBruijn64tab", laid_math_bits_deBruijn64tab), ("internal/strconv.uint64pow10", laid_internal_strconv_uint64pow10)], narrowed := true }
def FormulaFormatsUptoSaid : Prop := formulaFormatsUptoRow.holds Tryd.pinned (OpenSpec.upto formulaFormatsSpec)

/-- 'robuststatslaw09.FormulaReadsBack', WHERE WHAT IT READS IS OF BULK AT MOST 1048576: true; the input reads as it did. -/
def formulaReadsBackUptoRow : OpenClaim := { program := "ytfnonogemgnlhaadoor", sum := "356b848c9e98ed3f4e9a719165cd1181b57f3fb510c2c07be70f8ab55cd7f958", func := "robuststats/robuststatslaw09.FormulaReadsBack", spec := "formulaReadsBack", inPlace := ["internal/abi.NoEscape", "internal/bytealg.MakeNoZero"], unfollowed := true, recurses := true, named := ["internal/strconv.uint64pow10", "math/bits.deBruijn32tab", "math/bits.deBruijn64tab"], apart := false, laid := [("math/bits.deBruijn32tab", laid_math_bits_deBruijn32tab), ("math/bits.deBruijn64tab", laid_math_bits_deBruijn64tab), ("internal/strconv.uint64pow10", laid_internal_strconv_uint64pow10)], narrowed := true }
def FormulaReadsBackUptoSaid : Prop := formulaReadsBackUptoRow.holds Tryd.pinned (OpenSpec.upto formulaReadsBackSpec)

/-- 'robuststatslaw09.FormulaIsStable', WHERE WHAT IT READS IS OF BULK AT MOST 1048576: true; the input reads as it did. -/
def formulaIsStableUptoRow : OpenClaim := { program := "ytfnonogemgnlhaadoor", sum := "356b848c9e98ed3f4e9a719165cd1181b57f3fb510c2c07be70f8ab55cd7f958", func := "robuststats/robuststatslaw09.FormulaIsStable", spec := "formulaIsStable", inPlace := ["internal/abi.NoEscape", "internal/bytealg.MakeNoZero"], unfollowed := true, recurses := true, named := ["internal/strconv.uint64pow10", "math/bits.deBruijn32tab", "math/bits.deBruijn64tab"], apart := false, laid := [("math/bits.deBruijn32tab", laid_math_bits_deBruijn32tab), ("math/bits.deBruijn64tab", laid_math_bits_deBruijn64tab), ("internal/strconv.uint64pow10", laid_internal_strconv_uint64pow10)], narrowed := true }
def FormulaIsStableUptoSaid : Prop := formulaIsStableUptoRow.holds Tryd.pinned (OpenSpec.upto formulaIsStableSpec)

/-- 'robuststatslaw09.FormulaIgnoresBrackets', WHERE WHAT IT READS IS OF BULK AT MOST 1048576: true; the input reads as it did. -/
def formulaIgnoresBracketsUptoRow : OpenClaim := { program := "ytfnonogemgnlhaadoor", sum := "356b848c9e98ed3f4e9a719165cd1181b57f3fb510c2c07be70f8ab55cd7f958", func := "robuststats/robuststatslaw09.FormulaIgnoresBrackets", spec := "formulaIgnoresBrackets", inPlace := ["internal/abi.NoEscape", "internal/bytealg.MakeNoZero"], unfollowed := true, recurses := true, named := ["internal/strconv.uint64pow10", "math/bits.deBruijn32tab", "math/bits.deBruijn64tab"], apart := false, laid := [("math/bits.deBruijn32tab", laid_math_bits_deBruijn32tab), ("math/bits.deBruijn64tab", laid_math_bits_deBruijn64tab), ("internal/strconv.uint64pow10", laid_internal_strconv_uint64pow10)], narrowed := true }
def FormulaIgnoresBracketsUptoSaid : Prop := formulaIgnoresBracketsUptoRow.holds Tryd.pinned (OpenSpec.upto formulaIgnoresBracketsSpec)

/-- 'robuststatslaw09.FormulaStopsAtTheError', WHERE WHAT IT READS IS OF BULK AT MOST 1048576: true; the input reads as it did. -/
def formulaStopsAtTheErrorUptoRow : OpenClaim := { program := "ytfnonogemgnlhaadoor", sum := "356b848c9e98ed3f4e9a719165cd1181b57f3fb510c2c07be70f8ab55cd7f958", func := "robuststats/robuststatslaw09.FormulaStopsAtTheError", spec := "formulaStopsAtTheError", inPlace := ["internal/abi.NoEscape", "internal/bytealg.MakeNoZero"], unfollowed := true, recurses := true, named := ["internal/strconv.uint64pow10", "math/bits.deBruijn32tab", "math/bits.deBruijn64tab"], apart := false, laid := [("math/bits.deBruijn32tab", laid_math_bits_deBruijn32tab), ("math/bits.deBruijn64tab", laid_math_bits_deBruijn64tab), ("internal/strconv.uint64pow10", laid_internal_strconv_uint64pow10)], narrowed := true }
def FormulaStopsAtTheErrorUptoSaid : Prop := formulaStopsAtTheErrorUptoRow.holds Tryd.pinned (OpenSpec.upto formulaStopsAtTheErrorSpec)

/-- 'robuststatslaw09.FormulaGrows', WHERE WHAT IT READS IS OF BULK AT MOST 1048576: true; the input reads as it did. -/
def formulaGrowsUptoRow : OpenClaim := { program := "ytfnonogemgnlhaadoor", sum := "356b848c9e98ed3f4e9a719165cd1181b57f3fb510c2c07be70f8ab55cd7f958", func := "robuststats/robuststatslaw09.FormulaGrows", spec := "formulaGrows", inPlace := ["internal/abi.NoEscape", "internal/bytealg.MakeNoZero"], unfollowed := true, recurses := true, named := ["internal/strconv.uint64pow10", "math/bits.deBruijn32tab", "math/bits.deBruijn64tab"], apart := false, laid := [("math/bits.deBruijn32tab", laid_math_bits_deBruijn32tab), ("math/bits.deBruijn64tab", laid_math_bits_deBruijn64tab), ("internal/strconv.uint64pow10", laid_internal_strconv_uint64pow10)], narrowed := true }
def FormulaGrowsUptoSaid : Prop := formulaGrowsUptoRow.holds Tryd.pinned (OpenSpec.upto formulaGrowsSpec)

end Rows
end Go.Proofs.YtfnonogemgnlhaaDoor
