/-
  No cell of these rows narrows 'for every input' (looked for: loops, veiled, ifaces, maps, wideKeys, modest, calm, conditions, laid).
  DERIVED. THE GIVEN ROWS OF THIS SEAT. 10 by the template 'for every input the law returns true; each argument reads behind the call as it read before'; 0 by the template 'total and deterministic' (their statements: YtlphlodailailaaGreatTotals.lean).
  GIVEN WITH THE SEED: the statements are not yours to turn. If you find one false, say at which input.
  Laid BY PROGRAM, IN A SANDBOX (cutbox-rows.mjs): the forced cells as the released guide's own fill.sh prints them over the translation 36d60a1404dd575c… (all of the seat's roots in one cut). By AI agents, Wed Nov 11 2026. No macro, syntax, notation, axiom, sorry.
-/
import Derived.Test.YtlphlodailailaaGreatChecked
import GoSem.Claim
import GoSem.ClaimJoined
import GoSem.ClaimMapViews
import Derived.JoinedTies
import Derived.KernelRfl
namespace Go.Proofs.YtlphlodailailaaGreat
/- THE CELL 'sum', in the pinned program and in every row, IS THE sha256 OF THE DUMP (.gsa) THAT YtlphlodailailaaGreatProg.lean LOADS. Nothing in Lean hashes anything: it is a label: what it is worth is what the hold of that sum in a sandbox is worth. -/
noncomputable def Tryz.pinned : Pinned := { name := "ytlphlodailailaagreat", sum := "36d60a1404dd575c2c753e32859fc2837de702d90ef8a1c32a752f0bd733c449", checked := Tryz.checked }
namespace Rows
def none {H : Type} : Left H := { results := [], args := [] }

/-- 'robuststatslaw05.PolynomialDividesAndChains': WHATEVER THE INPUT: true; the input reads as it did. -/
def polynomialDividesAndChainsSpec : ChangeSpec := { name := "polynomialDividesAndChains", fn := fun _ => fun
  | [d1, d2, d3, d4] => { results := [.lit (.bool true)], args := [d1, d2, d3, d4] }
  | _ => none }
def polynomialDividesAndChainsRow : OpenClaim := { program := "ytlphlodailailaagreat", sum := "36d60a1404dd575c2c753e32859fc2837de702d90ef8a1c32a752f0bd733c449", func := "robuststats/robuststatslaw05.PolynomialDividesAndChains", spec := "polynomialDividesAndChains", unfollowed := true, recurses := true, named := ["math/bits.overflowError"], apart := false }
def PolynomialDividesAndChainsSaid : Prop := polynomialDividesAndChainsRow.holds Tryz.pinned (OpenSpec.ofChange polynomialDividesAndChainsSpec)

/-- ITS FALSE NEIGHBOUR: 'it returns false'. Refute it at one input. -/
def polynomialDividesAndChainsWrong : ChangeSpec := { name := "polynomialDividesAndChains", fn := fun _ => fun
  | [d1, d2, d3, d4] => { results := [.lit (.bool false)], args := [d1, d2, d3, d4] }
  | _ => none }
def PolynomialDividesAndChainsWrongFalsely : Prop := polynomialDividesAndChainsRow.holds Tryz.pinned (OpenSpec.ofChange polynomialDividesAndChainsWrong)

/-- 'robuststatslaw05.PolynomialCountsKnownRoots': WHATEVER THE INPUT: true; the input reads as it did. -/
def polynomialCountsKnownRootsSpec : ChangeSpec := { name := "polynomialCountsKnownRoots", fn := fun _ => fun
  | [d1, d2, d3, d4] => { results := [.lit (.bool true)], args := [d1, d2, d3, d4] }
  | _ => none }
def polynomialCountsKnownRootsRow : OpenClaim := { program := "ytlphlodailailaagreat", sum := "36d60a1404dd575c2c753e32859fc2837de702d90ef8a1c32a752f0bd733c449", func := "robuststats/robuststatslaw05.PolynomialCountsKnownRoots", spec := "polynomialCountsKnownRoots", unfollowed := true, recurses := true, named := ["math/bits.overflowError"], apart := false }
def PolynomialCountsKnownRootsSaid : Prop := polynomialCountsKnownRootsRow.holds Tryz.pinned (OpenSpec.ofChange polynomialCountsKnownRootsSpec)

/-- ITS FALSE NEIGHBOUR: 'it returns false'. Refute it at one input. -/
def polynomialCountsKnownRootsWrong : ChangeSpec := { name := "polynomialCountsKnownRoots", fn := fun _ => fun
  | [d1, d2, d3, d4] => { results := [.lit (.bool false)], args := [d1, d2, d3, d4] }
  | _ => none }
def PolynomialCountsKnownRootsWrongFalsely : Prop := polynomialCountsKnownRootsRow.holds Tryz.pinned (OpenSpec.ofChange polynomialCountsKnownRootsWrong)

/-- 'robuststatslaw05.PolynomialDivisorIsGreatest': WHATEVER THE INPUT: true; the input reads as it did. -/
def polynomialDivisorIsGreatestSpec : ChangeSpec := { name := "polynomialDivisorIsGreatest", fn := fun _ => fun
  | [d1, d2, d3] => { results := [.lit (.bool true)], args := [d1, d2, d3] }
  | _ => none }
def polynomialDivisorIsGreatestRow : OpenClaim := { program := "ytlphlodailailaagreat", sum := "36d60a1404dd575c2c753e32859fc2837de702d90ef8a1c32a752f0bd733c449", func := "robuststats/robuststatslaw05.PolynomialDivisorIsGreatest", spec := "polynomialDivisorIsGreatest", unfollowed := true, recurses := true, named := ["math/bits.overflowError"], apart := false }
def PolynomialDivisorIsGreatestSaid : Prop := polynomialDivisorIsGreatestRow.holds Tryz.pinned (OpenSpec.ofChange polynomialDivisorIsGreatestSpec)

/-- ITS FALSE NEIGHBOUR: 'it returns false'. Refute it at one input. -/
def polynomialDivisorIsGreatestWrong : ChangeSpec := { name := "polynomialDivisorIsGreatest", fn := fun _ => fun
  | [d1, d2, d3] => { results := [.lit (.bool false)], args := [d1, d2, d3] }
  | _ => none }
def PolynomialDivisorIsGreatestWrongFalsely : Prop := polynomialDivisorIsGreatestRow.holds Tryz.pinned (OpenSpec.ofChange polynomialDivisorIsGreatestWrong)

/-- 'robuststatslaw05.PolynomialEvaluatesLikeARing': WHATEVER THE INPUT: true; the input reads as it did. -/
def polynomialEvaluatesLikeARingSpec : ChangeSpec := { name := "polynomialEvaluatesLikeARing", fn := fun _ => fun
  | [d1, d2, d3] => { results := [.lit (.bool true)], args := [d1, d2, d3] }
  | _ => none }
def polynomialEvaluatesLikeARingRow : OpenClaim := { program := "ytlphlodailailaagreat", sum := "36d60a1404dd575c2c753e32859fc2837de702d90ef8a1c32a752f0bd733c449", func := "robuststats/robuststatslaw05.PolynomialEvaluatesLikeARing", spec := "polynomialEvaluatesLikeARing", unfollowed := true, recurses := true, named := ["math/bits.overflowError"], apart := false }
def PolynomialEvaluatesLikeARingSaid : Prop := polynomialEvaluatesLikeARingRow.holds Tryz.pinned (OpenSpec.ofChange polynomialEvaluatesLikeARingSpec)

/-- ITS FALSE NEIGHBOUR: 'it returns false'. Refute it at one input. -/
def polynomialEvaluatesLikeARingWrong : ChangeSpec := { name := "polynomialEvaluatesLikeARing", fn := fun _ => fun
  | [d1, d2, d3] => { results := [.lit (.bool false)], args := [d1, d2, d3] }
  | _ => none }
def PolynomialEvaluatesLikeARingWrongFalsely : Prop := polynomialEvaluatesLikeARingRow.holds Tryz.pinned (OpenSpec.ofChange polynomialEvaluatesLikeARingWrong)

/-- 'robuststatslaw05.PolynomialDividesBack': WHATEVER THE INPUT: true; the input reads as it did. -/
def polynomialDividesBackSpec : ChangeSpec := { name := "polynomialDividesBack", fn := fun _ => fun
  | [d1, d2] => { results := [.lit (.bool true)], args := [d1, d2] }
  | _ => none }
def polynomialDividesBackRow : OpenClaim := { program := "ytlphlodailailaagreat", sum := "36d60a1404dd575c2c753e32859fc2837de702d90ef8a1c32a752f0bd733c449", func := "robuststats/robuststatslaw05.PolynomialDividesBack", spec := "polynomialDividesBack", unfollowed := true, recurses := true, named := ["math/bits.overflowError"], apart := false }
def PolynomialDividesBackSaid : Prop := polynomialDividesBackRow.holds Tryz.pinned (OpenSpec.ofChange polynomialDividesBackSpec)

/-- ITS FALSE NEIGHBOUR: 'it returns false'. Refute it at one input. -/
def polynomialDividesBackWrong : ChangeSpec := { name := "polynomialDividesBack", fn := fun _ => fun
  | [d1, d2] => { results := [.lit (.bool false)], args := [d1, d2] }
  | _ => none }
def PolynomialDividesBackWrongFalsely : Prop := polynomialDividesBackRow.holds Tryz.pinned (OpenSpec.ofChange polynomialDividesBackWrong)

/-- 'robuststatslaw05.PolynomialEnclosesValues': WHATEVER THE INPUT: true; the input reads as it did. -/
def polynomialEnclosesValuesSpec : ChangeSpec := { name := "polynomialEnclosesValues", fn := fun _ => fun
  | [d1, d2, d3] => { results := [.lit (.bool true)], args := [d1, d2, d3] }
  | _ => none }
def polynomialEnclosesValuesRow : OpenClaim := { program := "ytlphlodailailaagreat", sum := "36d60a1404dd575c2c753e32859fc2837de702d90ef8a1c32a752f0bd733c449", func := "robuststats/robuststatslaw05.PolynomialEnclosesValues", spec := "polynomialEnclosesValues", unfollowed := true, recurses := true, named := ["math/bits.overflowError"], apart := false }
def PolynomialEnclosesValuesSaid : Prop := polynomialEnclosesValuesRow.holds Tryz.pinned (OpenSpec.ofChange polynomialEnclosesValuesSpec)

/-- ITS FALSE NEIGHBOUR: 'it returns false'. Refute it at one input. -/
def polynomialEnclosesValuesWrong : ChangeSpec := { name := "polynomialEnclosesValues", fn := fun _ => fun
  | [d1, d2, d3] => { results := [.lit (.bool false)], args := [d1, d2, d3] }
  | _ => none }
def PolynomialEnclosesValuesWrongFalsely : Prop := polynomialEnclosesValuesRow.holds Tryz.pinned (OpenSpec.ofChange polynomialEnclosesValuesWrong)

/-- 'robuststatslaw05.PolynomialIsolatesRoots': WHATEVER THE INPUT: true; the input reads as it did. -/
def polynomialIsolatesRootsSpec : ChangeSpec := { name := "polynomialIsolatesRoots", fn := fun _ => fun
  | [d1, d2, d3] => { results := [.lit (.bool true)], args := [d1, d2, d3] }
  | _ => none }
def polynomialIsolatesRootsRow : OpenClaim := { program := "ytlphlodailailaagreat", sum := "36d60a1404dd575c2c753e32859fc2837de702d90ef8a1c32a752f0bd733c449", func := "robuststats/robuststatslaw05.PolynomialIsolatesRoots", spec := "polynomialIsolatesRoots", unfollowed := true, recurses := true, named := ["math/bits.overflowError"], apart := false }
def PolynomialIsolatesRootsSaid : Prop := polynomialIsolatesRootsRow.holds Tryz.pinned (OpenSpec.ofChange polynomialIsolatesRootsSpec)

/-- ITS FALSE NEIGHBOUR: 'it returns false'. Refute it at one input. -/
def polynomialIsolatesRootsWrong : ChangeSpec := { name := "polynomialIsolatesRoots", fn := fun _ => fun
  | [d1, d2, d3] => { results := [.lit (.bool false)], args := [d1, d2, d3] }
  | _ => none }
def PolynomialIsolatesRootsWrongFalsely : Prop := polynomialIsolatesRootsRow.holds Tryz.pinned (OpenSpec.ofChange polynomialIsolatesRootsWrong)

/-- 'robuststatslaw05.PolynomialIsolatesKnownRoots': WHATEVER THE INPUT: true; the input reads as it did. -/
def polynomialIsolatesKnownRootsSpec : ChangeSpec := { name := "polynomialIsolatesKnownRoots", fn := fun _ => fun
  | [d1, d2, d3] => { results := [.lit (.bool true)], args := [d1, d2, d3] }
  | _ => none }
def polynomialIsolatesKnownRootsRow : OpenClaim := { program := "ytlphlodailailaagreat", sum := "36d60a1404dd575c2c753e32859fc2837de702d90ef8a1c32a752f0bd733c449", func := "robuststats/robuststatslaw05.PolynomialIsolatesKnownRoots", spec := "polynomialIsolatesKnownRoots", unfollowed := true, recurses := true, named := ["math/bits.overflowError"], apart := false }
def PolynomialIsolatesKnownRootsSaid : Prop := polynomialIsolatesKnownRootsRow.holds Tryz.pinned (OpenSpec.ofChange polynomialIsolatesKnownRootsSpec)

/-- ITS FALSE NEIGHBOUR: 'it returns false'. Refute it at one input. -/
def polynomialIsolatesKnownRootsWrong : ChangeSpec := { name := "polynomialIsolatesKnownRoots", fn := fun _ => fun
  | [d1, d2, d3] => { results := [.lit (.bool false)], args := [d1, d2, d3] }
  | _ => none }
def PolynomialIsolatesKnownRootsWrongFalsely : Prop := polynomialIsolatesKnownRootsRow.holds Tryz.pinned (OpenSpec.ofChange polynomialIsolatesKnownRootsWrong)

/-- 'robuststatslaw05.PolynomialRefinesRoots': WHATEVER THE INPUT: true; the input reads as it did. -/
def polynomialRefinesRootsSpec : ChangeSpec := { name := "polynomialRefinesRoots", fn := fun _ => fun
  | [d1, d2, d3, d4] => { results := [.lit (.bool true)], args := [d1, d2, d3, d4] }
  | _ => none }
def polynomialRefinesRootsRow : OpenClaim := { program := "ytlphlodailailaagreat", sum := "36d60a1404dd575c2c753e32859fc2837de702d90ef8a1c32a752f0bd733c449", func := "robuststats/robuststatslaw05.PolynomialRefinesRoots", spec := "polynomialRefinesRoots", unfollowed := true, recurses := true, named := ["math/bits.overflowError"], apart := false }
def PolynomialRefinesRootsSaid : Prop := polynomialRefinesRootsRow.holds Tryz.pinned (OpenSpec.ofChange polynomialRefinesRootsSpec)

/-- ITS FALSE NEIGHBOUR: 'it returns false'. Refute it at one input. -/
def polynomialRefinesRootsWrong : ChangeSpec := { name := "polynomialRefinesRoots", fn := fun _ => fun
  | [d1, d2, d3, d4] => { results := [.lit (.bool false)], args := [d1, d2, d3, d4] }
  | _ => none }
def PolynomialRefinesRootsWrongFalsely : Prop := polynomialRefinesRootsRow.holds Tryz.pinned (OpenSpec.ofChange polynomialRefinesRootsWrong)

/-- 'robuststatslaw05.PolynomialHasALimit': WHATEVER THE INPUT: true; the input reads as it did. -/
def polynomialHasALimitSpec : ChangeSpec := { name := "polynomialHasALimit", fn := fun _ => fun
  | [d1, d2] => { results := [.lit (.bool true)], args := [d1, d2] }
  | _ => none }
def polynomialHasALimitRow : OpenClaim := { program := "ytlphlodailailaagreat", sum := "36d60a1404dd575c2c753e32859fc2837de702d90ef8a1c32a752f0bd733c449", func := "robuststats/robuststatslaw05.PolynomialHasALimit", spec := "polynomialHasALimit", unfollowed := true, recurses := true, named := ["math/bits.overflowError"], apart := false }
def PolynomialHasALimitSaid : Prop := polynomialHasALimitRow.holds Tryz.pinned (OpenSpec.ofChange polynomialHasALimitSpec)

/-- ITS FALSE NEIGHBOUR: 'it returns false'. Refute it at one input. -/
def polynomialHasALimitWrong : ChangeSpec := { name := "polynomialHasALimit", fn := fun _ => fun
  | [d1, d2] => { results := [.lit (.bool false)], args := [d1, d2] }
  | _ => none }
def PolynomialHasALimitWrongFalsely : Prop := polynomialHasALimitRow.holds Tryz.pinned (OpenSpec.ofChange polynomialHasALimitWrong)

/- THE SECOND FORM. 'bulk': how many values and letters a reading holds, each counted each time it is reached (what is shared counts as often as it is met; a slice's spare places count too). A statement '..UptoSaid' is the law's where the arguments, and the package variables that the reading takes, are together of bulk at most 1048576: NARROWER than '..Said'. Prove '..Said' where nothing that the law and all that it calls make is longer than what came in: it says more and counts as full. Else prove '..UptoSaid'. A law counts once. -/
mutual
def uptoBulk {H : Type} : DataW H → Nat
  | .lit (.string bytes) => bytes.length + 1
  | .lit _ => 1
  | .nil => 1
  | .ptr d => uptoBulk d + 1
  | .slice elems spare => uptoBulkAll elems + uptoBulkAll spare + 1
  | .agg parts => uptoBulkAll parts + 1
  | .iface _ d => uptoBulk d + 1
  | .map entries => uptoBulkEntries entries + 1
  | .held _ => 1
def uptoBulkAll {H : Type} : List (DataW H) → Nat
  | [] => 0
  | d :: r => uptoBulk d + uptoBulkAll r
def uptoBulkEntries {H : Type} : List (Lit × DataW H) → Nat
  | [] => 0
  | x :: r => uptoBulkEntry x + uptoBulkEntries r
def uptoBulkEntry {H : Type} : Lit × DataW H → Nat
  | (.string bytes, d) => bytes.length + uptoBulk d + 1
  | (_, d) => uptoBulk d + 1
 end
def uptoSmall : (H : Type) → List (DataW H) → Bool := fun _ ds => decide (uptoBulkAll ds ≤ 1048576)
def OpenSpec.upto (s : _root_.Go.ChangeSpec) : _root_.Go.OpenSpec := { _root_.Go.OpenSpec.ofChange s with cond := some uptoSmall }

/-- 'robuststatslaw05.PolynomialDividesAndChains', WHERE WHAT IT READS IS OF BULK AT MOST 1048576: true; the input reads as it did. -/
def polynomialDividesAndChainsUptoRow : OpenClaim := { program := "ytlphlodailailaagreat", sum := "36d60a1404dd575c2c753e32859fc2837de702d90ef8a1c32a752f0bd733c449", func := "robuststats/robuststatslaw05.PolynomialDividesAndChains", spec := "polynomialDividesAndChains", unfollowed := true, recurses := true, named := ["math/bits.overflowError"], apart := false, narrowed := true }
def PolynomialDividesAndChainsUptoSaid : Prop := polynomialDividesAndChainsUptoRow.holds Tryz.pinned (OpenSpec.upto polynomialDividesAndChainsSpec)

/-- 'robuststatslaw05.PolynomialCountsKnownRoots', WHERE WHAT IT READS IS OF BULK AT MOST 1048576: true; the input reads as it did. -/
def polynomialCountsKnownRootsUptoRow : OpenClaim := { program := "ytlphlodailailaagreat", sum := "36d60a1404dd575c2c753e32859fc2837de702d90ef8a1c32a752f0bd733c449", func := "robuststats/robuststatslaw05.PolynomialCountsKnownRoots", spec := "polynomialCountsKnownRoots", unfollowed := true, recurses := true, named := ["math/bits.overflowError"], apart := false, narrowed := true }
def PolynomialCountsKnownRootsUptoSaid : Prop := polynomialCountsKnownRootsUptoRow.holds Tryz.pinned (OpenSpec.upto polynomialCountsKnownRootsSpec)

/-- 'robuststatslaw05.PolynomialDivisorIsGreatest', WHERE WHAT IT READS IS OF BULK AT MOST 1048576: true; the input reads as it did. -/
def polynomialDivisorIsGreatestUptoRow : OpenClaim := { program := "ytlphlodailailaagreat", sum := "36d60a1404dd575c2c753e32859fc2837de702d90ef8a1c32a752f0bd733c449", func := "robuststats/robuststatslaw05.PolynomialDivisorIsGreatest", spec := "polynomialDivisorIsGreatest", unfollowed := true, recurses := true, named := ["math/bits.overflowError"], apart := false, narrowed := true }
def PolynomialDivisorIsGreatestUptoSaid : Prop := polynomialDivisorIsGreatestUptoRow.holds Tryz.pinned (OpenSpec.upto polynomialDivisorIsGreatestSpec)

/-- 'robuststatslaw05.PolynomialEvaluatesLikeARing', WHERE WHAT IT READS IS OF BULK AT MOST 1048576: true; the input reads as it did. -/
def polynomialEvaluatesLikeARingUptoRow : OpenClaim := { program := "ytlphlodailailaagreat", sum := "36d60a1404dd575c2c753e32859fc2837de702d90ef8a1c32a752f0bd733c449", func := "robuststats/robuststatslaw05.PolynomialEvaluatesLikeARing", spec := "polynomialEvaluatesLikeARing", unfollowed := true, recurses := true, named := ["math/bits.overflowError"], apart := false, narrowed := true }
def PolynomialEvaluatesLikeARingUptoSaid : Prop := polynomialEvaluatesLikeARingUptoRow.holds Tryz.pinned (OpenSpec.upto polynomialEvaluatesLikeARingSpec)

/-- 'robuststatslaw05.PolynomialDividesBack', WHERE WHAT IT READS IS OF BULK AT MOST 1048576: true; the input reads as it did. -/
def polynomialDividesBackUptoRow : OpenClaim := { program := "ytlphlodailailaagreat", sum := "36d60a1404dd575c2c753e32859fc2837de702d90ef8a1c32a752f0bd733c449", func := "robuststats/robuststatslaw05.PolynomialDividesBack", spec := "polynomialDividesBack", unfollowed := true, recurses := true, named := ["math/bits.overflowError"], apart := false, narrowed := true }
def PolynomialDividesBackUptoSaid : Prop := polynomialDividesBackUptoRow.holds Tryz.pinned (OpenSpec.upto polynomialDividesBackSpec)

/-- 'robuststatslaw05.PolynomialEnclosesValues', WHERE WHAT IT READS IS OF BULK AT MOST 1048576: true; the input reads as it did. -/
def polynomialEnclosesValuesUptoRow : OpenClaim := { program := "ytlphlodailailaagreat", sum := "36d60a1404dd575c2c753e32859fc2837de702d90ef8a1c32a752f0bd733c449", func := "robuststats/robuststatslaw05.PolynomialEnclosesValues", spec := "polynomialEnclosesValues", unfollowed := true, recurses := true, named := ["math/bits.overflowError"], apart := false, narrowed := true }
def PolynomialEnclosesValuesUptoSaid : Prop := polynomialEnclosesValuesUptoRow.holds Tryz.pinned (OpenSpec.upto polynomialEnclosesValuesSpec)

/-- 'robuststatslaw05.PolynomialIsolatesRoots', WHERE WHAT IT READS IS OF BULK AT MOST 1048576: true; the input reads as it did. -/
def polynomialIsolatesRootsUptoRow : OpenClaim := { program := "ytlphlodailailaagreat", sum := "36d60a1404dd575c2c753e32859fc2837de702d90ef8a1c32a752f0bd733c449", func := "robuststats/robuststatslaw05.PolynomialIsolatesRoots", spec := "polynomialIsolatesRoots", unfollowed := true, recurses := true, named := ["math/bits.overflowError"], apart := false, narrowed := true }
def PolynomialIsolatesRootsUptoSaid : Prop := polynomialIsolatesRootsUptoRow.holds Tryz.pinned (OpenSpec.upto polynomialIsolatesRootsSpec)

/-- 'robuststatslaw05.PolynomialIsolatesKnownRoots', WHERE WHAT IT READS IS OF BULK AT MOST 1048576: true; the input reads as it did. -/
def polynomialIsolatesKnownRootsUptoRow : OpenClaim := { program := "ytlphlodailailaagreat", sum := "36d60a1404dd575c2c753e32859fc2837de702d90ef8a1c32a752f0bd733c449", func := "robuststats/robuststatslaw05.PolynomialIsolatesKnownRoots", spec := "polynomialIsolatesKnownRoots", unfollowed := true, recurses := true, named := ["math/bits.overflowError"], apart := false, narrowed := true }
def PolynomialIsolatesKnownRootsUptoSaid : Prop := polynomialIsolatesKnownRootsUptoRow.holds Tryz.pinned (OpenSpec.upto polynomialIsolatesKnownRootsSpec)

/-- 'robuststatslaw05.PolynomialRefinesRoots', WHERE WHAT IT READS IS OF BULK AT MOST 1048576: true; the input reads as it did. -/
def polynomialRefinesRootsUptoRow : OpenClaim := { program := "ytlphlodailailaagreat", sum := "36d60a1404dd575c2c753e32859fc2837de702d90ef8a1c32a752f0bd733c449", func := "robuststats/robuststatslaw05.PolynomialRefinesRoots", spec := "polynomialRefinesRoots", unfollowed := true, recurses := true, named := ["math/bits.overflowError"], apart := false, narrowed := true }
def PolynomialRefinesRootsUptoSaid : Prop := polynomialRefinesRootsUptoRow.holds Tryz.pinned (OpenSpec.upto polynomialRefinesRootsSpec)

/-- 'robuststatslaw05.PolynomialHasALimit', WHERE WHAT IT READS IS OF BULK AT MOST 1048576: true; the input reads as it did. -/
def polynomialHasALimitUptoRow : OpenClaim := { program := "ytlphlodailailaagreat", sum := "36d60a1404dd575c2c753e32859fc2837de702d90ef8a1c32a752f0bd733c449", func := "robuststats/robuststatslaw05.PolynomialHasALimit", spec := "polynomialHasALimit", unfollowed := true, recurses := true, named := ["math/bits.overflowError"], apart := false, narrowed := true }
def PolynomialHasALimitUptoSaid : Prop := polynomialHasALimitUptoRow.holds Tryz.pinned (OpenSpec.upto polynomialHasALimitSpec)

end Rows
end Go.Proofs.YtlphlodailailaaGreat
