/-
  No cell of these rows narrows 'for every input' (looked for: loops, veiled, ifaces, maps, wideKeys, modest, calm, conditions, laid).
  DERIVED. THE GIVEN ROWS OF THIS SEAT. 7 by the template 'for every input the law returns true; each argument reads behind the call as it read before'; 0 by the template 'total and deterministic' (their statements: YtjjefhbceoeibaaGreatTotals.lean).
  GIVEN WITH THE SEED: the statements are not yours to turn. If you find one false, say at which input.
  Laid BY PROGRAM, IN A SANDBOX (cutbox-rows.mjs): the forced cells as the released guide's own fill.sh prints them over the translation d46a969595bbba29… (all of the seat's roots in one cut). By AI agents, Wed Nov 11 2026. No macro, syntax, notation, axiom, sorry.
-/
import Derived.Test.YtjjefhbceoeibaaGreatChecked
import GoSem.Claim
import GoSem.ClaimJoined
import GoSem.ClaimMapViews
import Derived.JoinedTies
import Derived.KernelRfl
namespace Go.Proofs.YtjjefhbceoeibaaGreat
/- THE CELL 'sum', in the pinned program and in every row, IS THE sha256 OF THE DUMP (.gsa) THAT YtjjefhbceoeibaaGreatProg.lean LOADS. Nothing in Lean hashes anything: it is a label: what it is worth is what the hold of that sum in a sandbox is worth. -/
noncomputable def Tryz.pinned : Pinned := { name := "ytjjefhbceoeibaagreat", sum := "d46a969595bbba296d0fc71671fc37e2820b0ffe6fc47f1e5b0df0dc85bf9692", checked := Tryz.checked }
namespace Rows
def none {H : Type} : Left H := { results := [], args := [] }

/-- 'robuststatslaw04.IntervalResultsAreLeast': WHATEVER THE INPUT: true; the input reads as it did. -/
def intervalResultsAreLeastSpec : ChangeSpec := { name := "intervalResultsAreLeast", fn := fun _ => fun
  | [d1, d2] => { results := [.lit (.bool true)], args := [d1, d2] }
  | _ => none }
def intervalResultsAreLeastRow : OpenClaim := { program := "ytjjefhbceoeibaagreat", sum := "d46a969595bbba296d0fc71671fc37e2820b0ffe6fc47f1e5b0df0dc85bf9692", func := "robuststats/robuststatslaw04.IntervalResultsAreLeast", spec := "intervalResultsAreLeast", named := ["math/bits.overflowError"], apart := false }
def IntervalResultsAreLeastSaid : Prop := intervalResultsAreLeastRow.holds Tryz.pinned (OpenSpec.ofChange intervalResultsAreLeastSpec)

/-- ITS FALSE NEIGHBOUR: 'it returns false'. Refute it at one input. -/
def intervalResultsAreLeastWrong : ChangeSpec := { name := "intervalResultsAreLeast", fn := fun _ => fun
  | [d1, d2] => { results := [.lit (.bool false)], args := [d1, d2] }
  | _ => none }
def IntervalResultsAreLeastWrongFalsely : Prop := intervalResultsAreLeastRow.holds Tryz.pinned (OpenSpec.ofChange intervalResultsAreLeastWrong)

/-- 'robuststatslaw04.IntervalContainsRoots': WHATEVER THE INPUT: true; the input reads as it did. -/
def intervalContainsRootsSpec : ChangeSpec := { name := "intervalContainsRoots", fn := fun _ => fun
  | [d1, d2] => { results := [.lit (.bool true)], args := [d1, d2] }
  | _ => none }
def intervalContainsRootsRow : OpenClaim := { program := "ytjjefhbceoeibaagreat", sum := "d46a969595bbba296d0fc71671fc37e2820b0ffe6fc47f1e5b0df0dc85bf9692", func := "robuststats/robuststatslaw04.IntervalContainsRoots", spec := "intervalContainsRoots", named := ["math/bits.overflowError"], apart := false }
def IntervalContainsRootsSaid : Prop := intervalContainsRootsRow.holds Tryz.pinned (OpenSpec.ofChange intervalContainsRootsSpec)

/-- ITS FALSE NEIGHBOUR: 'it returns false'. Refute it at one input. -/
def intervalContainsRootsWrong : ChangeSpec := { name := "intervalContainsRoots", fn := fun _ => fun
  | [d1, d2] => { results := [.lit (.bool false)], args := [d1, d2] }
  | _ => none }
def IntervalContainsRootsWrongFalsely : Prop := intervalContainsRootsRow.holds Tryz.pinned (OpenSpec.ofChange intervalContainsRootsWrong)

/-- 'robuststatslaw04.IntervalKeepsWithin': WHATEVER THE INPUT: true; the input reads as it did. -/
def intervalKeepsWithinSpec : ChangeSpec := { name := "intervalKeepsWithin", fn := fun _ => fun
  | [d1, d2, d3] => { results := [.lit (.bool true)], args := [d1, d2, d3] }
  | _ => none }
def intervalKeepsWithinRow : OpenClaim := { program := "ytjjefhbceoeibaagreat", sum := "d46a969595bbba296d0fc71671fc37e2820b0ffe6fc47f1e5b0df0dc85bf9692", func := "robuststats/robuststatslaw04.IntervalKeepsWithin", spec := "intervalKeepsWithin", named := ["math/bits.overflowError"], apart := false }
def IntervalKeepsWithinSaid : Prop := intervalKeepsWithinRow.holds Tryz.pinned (OpenSpec.ofChange intervalKeepsWithinSpec)

/-- ITS FALSE NEIGHBOUR: 'it returns false'. Refute it at one input. -/
def intervalKeepsWithinWrong : ChangeSpec := { name := "intervalKeepsWithin", fn := fun _ => fun
  | [d1, d2, d3] => { results := [.lit (.bool false)], args := [d1, d2, d3] }
  | _ => none }
def IntervalKeepsWithinWrongFalsely : Prop := intervalKeepsWithinRow.holds Tryz.pinned (OpenSpec.ofChange intervalKeepsWithinWrong)

/-- 'robuststatslaw04.IntervalJoins': WHATEVER THE INPUT: true; the input reads as it did. -/
def intervalJoinsSpec : ChangeSpec := { name := "intervalJoins", fn := fun _ => fun
  | [d1, d2, d3, d4] => { results := [.lit (.bool true)], args := [d1, d2, d3, d4] }
  | _ => none }
def intervalJoinsRow : OpenClaim := { program := "ytjjefhbceoeibaagreat", sum := "d46a969595bbba296d0fc71671fc37e2820b0ffe6fc47f1e5b0df0dc85bf9692", func := "robuststats/robuststatslaw04.IntervalJoins", spec := "intervalJoins", named := ["math/bits.overflowError"], apart := false }
def IntervalJoinsSaid : Prop := intervalJoinsRow.holds Tryz.pinned (OpenSpec.ofChange intervalJoinsSpec)

/-- ITS FALSE NEIGHBOUR: 'it returns false'. Refute it at one input. -/
def intervalJoinsWrong : ChangeSpec := { name := "intervalJoins", fn := fun _ => fun
  | [d1, d2, d3, d4] => { results := [.lit (.bool false)], args := [d1, d2, d3, d4] }
  | _ => none }
def IntervalJoinsWrongFalsely : Prop := intervalJoinsRow.holds Tryz.pinned (OpenSpec.ofChange intervalJoinsWrong)

/-- 'robuststatslaw04.IntervalCalculates': WHATEVER THE INPUT: true; the input reads as it did. -/
def intervalCalculatesSpec : ChangeSpec := { name := "intervalCalculates", fn := fun _ => fun
  | [d1, d2] => { results := [.lit (.bool true)], args := [d1, d2] }
  | _ => none }
def intervalCalculatesRow : OpenClaim := { program := "ytjjefhbceoeibaagreat", sum := "d46a969595bbba296d0fc71671fc37e2820b0ffe6fc47f1e5b0df0dc85bf9692", func := "robuststats/robuststatslaw04.IntervalCalculates", spec := "intervalCalculates", named := ["math/bits.overflowError"], apart := false }
def IntervalCalculatesSaid : Prop := intervalCalculatesRow.holds Tryz.pinned (OpenSpec.ofChange intervalCalculatesSpec)

/-- ITS FALSE NEIGHBOUR: 'it returns false'. Refute it at one input. -/
def intervalCalculatesWrong : ChangeSpec := { name := "intervalCalculates", fn := fun _ => fun
  | [d1, d2] => { results := [.lit (.bool false)], args := [d1, d2] }
  | _ => none }
def IntervalCalculatesWrongFalsely : Prop := intervalCalculatesRow.holds Tryz.pinned (OpenSpec.ofChange intervalCalculatesWrong)

/-- 'robuststatslaw04.IntervalContainsResults': WHATEVER THE INPUT: true; the input reads as it did. -/
def intervalContainsResultsSpec : ChangeSpec := { name := "intervalContainsResults", fn := fun _ => fun
  | [d1, d2, d3, d4] => { results := [.lit (.bool true)], args := [d1, d2, d3, d4] }
  | _ => none }
def intervalContainsResultsRow : OpenClaim := { program := "ytjjefhbceoeibaagreat", sum := "d46a969595bbba296d0fc71671fc37e2820b0ffe6fc47f1e5b0df0dc85bf9692", func := "robuststats/robuststatslaw04.IntervalContainsResults", spec := "intervalContainsResults", named := ["math/bits.overflowError"], apart := false }
def IntervalContainsResultsSaid : Prop := intervalContainsResultsRow.holds Tryz.pinned (OpenSpec.ofChange intervalContainsResultsSpec)

/-- ITS FALSE NEIGHBOUR: 'it returns false'. Refute it at one input. -/
def intervalContainsResultsWrong : ChangeSpec := { name := "intervalContainsResults", fn := fun _ => fun
  | [d1, d2, d3, d4] => { results := [.lit (.bool false)], args := [d1, d2, d3, d4] }
  | _ => none }
def IntervalContainsResultsWrongFalsely : Prop := intervalContainsResultsRow.holds Tryz.pinned (OpenSpec.ofChange intervalContainsResultsWrong)

/-- 'robuststatslaw04.IntervalChecks': WHATEVER THE INPUT: true; the input reads as it did. -/
def intervalChecksSpec : ChangeSpec := { name := "intervalChecks", fn := fun _ => fun
  | [d1, d2, d3] => { results := [.lit (.bool true)], args := [d1, d2, d3] }
  | _ => none }
def intervalChecksRow : OpenClaim := { program := "ytjjefhbceoeibaagreat", sum := "d46a969595bbba296d0fc71671fc37e2820b0ffe6fc47f1e5b0df0dc85bf9692", func := "robuststats/robuststatslaw04.IntervalChecks", spec := "intervalChecks", named := ["math/bits.overflowError"], apart := false }
def IntervalChecksSaid : Prop := intervalChecksRow.holds Tryz.pinned (OpenSpec.ofChange intervalChecksSpec)

/-- ITS FALSE NEIGHBOUR: 'it returns false'. Refute it at one input. -/
def intervalChecksWrong : ChangeSpec := { name := "intervalChecks", fn := fun _ => fun
  | [d1, d2, d3] => { results := [.lit (.bool false)], args := [d1, d2, d3] }
  | _ => none }
def IntervalChecksWrongFalsely : Prop := intervalChecksRow.holds Tryz.pinned (OpenSpec.ofChange intervalChecksWrong)

/- THE SECOND FORM. 'bulk': how many values and letters a reading holds, each counted each time it is reached (what is shared counts as often as it is met; a slice's spare places count too). A statement '..UptoSaid' is the law's where the arguments, and the package variables that the reading takes, are together of bulk at most 1048576: NARROWER than '..Said'. Prove '..Said' where nothing that the law and all that it calls make is longer than what came in: it says more and counts as full. Else prove '..UptoSaid'. A law counts once. -/
mutual
def uptoBulk {H : Type} : DataW H → Nat
  | .lit (.string bytes) => bytes.length + 1
  | .lit _ => 1
  | .nil => 1
  | .ptr d => uptoBulk d + 1
  | .slice elems spare => uptoBulkAll elems + uptoBulkAll spare + 1
  | .agg parts => uptoBulkAll parts + 1
  | .iface _ d => uptoBulk d + 1
  | .map entries => uptoBulkEntries entries + 1
  | .held _ => 1
def uptoBulkAll {H : Type} : List (DataW H) → Nat
  | [] => 0
  | d :: r => uptoBulk d + uptoBulkAll r
def uptoBulkEntries {H : Type} : List (Lit × DataW H) → Nat
  | [] => 0
  | x :: r => uptoBulkEntry x + uptoBulkEntries r
def uptoBulkEntry {H : Type} : Lit × DataW H → Nat
  | (.string bytes, d) => bytes.length + uptoBulk d + 1
  | (_, d) => uptoBulk d + 1
 end
def uptoSmall : (H : Type) → List (DataW H) → Bool := fun _ ds => decide (uptoBulkAll ds ≤ 1048576)
def OpenSpec.upto (s : _root_.Go.ChangeSpec) : _root_.Go.OpenSpec := { _root_.Go.OpenSpec.ofChange s with cond := some uptoSmall }

/-- 'robuststatslaw04.IntervalResultsAreLeast', WHERE WHAT IT READS IS OF BULK AT MOST 1048576: true; the input reads as it did. -/
def intervalResultsAreLeastUptoRow : OpenClaim := { program := "ytjjefhbceoeibaagreat", sum := "d46a969595bbba296d0fc71671fc37e2820b0ffe6fc47f1e5b0df0dc85bf9692", func := "robuststats/robuststatslaw04.IntervalResultsAreLeast", spec := "intervalResultsAreLeast", named := ["math/bits.overflowError"], apart := false, narrowed := true }
def IntervalResultsAreLeastUptoSaid : Prop := intervalResultsAreLeastUptoRow.holds Tryz.pinned (OpenSpec.upto intervalResultsAreLeastSpec)

/-- 'robuststatslaw04.IntervalContainsRoots', WHERE WHAT IT READS IS OF BULK AT MOST 1048576: true; the input reads as it did. -/
def intervalContainsRootsUptoRow : OpenClaim := { program := "ytjjefhbceoeibaagreat", sum := "d46a969595bbba296d0fc71671fc37e2820b0ffe6fc47f1e5b0df0dc85bf9692", func := "robuststats/robuststatslaw04.IntervalContainsRoots", spec := "intervalContainsRoots", named := ["math/bits.overflowError"], apart := false, narrowed := true }
def IntervalContainsRootsUptoSaid : Prop := intervalContainsRootsUptoRow.holds Tryz.pinned (OpenSpec.upto intervalContainsRootsSpec)

/-- 'robuststatslaw04.IntervalKeepsWithin', WHERE WHAT IT READS IS OF BULK AT MOST 1048576: true; the input reads as it did. -/
def intervalKeepsWithinUptoRow : OpenClaim := { program := "ytjjefhbceoeibaagreat", sum := "d46a969595bbba296d0fc71671fc37e2820b0ffe6fc47f1e5b0df0dc85bf9692", func := "robuststats/robuststatslaw04.IntervalKeepsWithin", spec := "intervalKeepsWithin", named := ["math/bits.overflowError"], apart := false, narrowed := true }
def IntervalKeepsWithinUptoSaid : Prop := intervalKeepsWithinUptoRow.holds Tryz.pinned (OpenSpec.upto intervalKeepsWithinSpec)

/-- 'robuststatslaw04.IntervalJoins', WHERE WHAT IT READS IS OF BULK AT MOST 1048576: true; the input reads as it did. -/
def intervalJoinsUptoRow : OpenClaim := { program := "ytjjefhbceoeibaagreat", sum := "d46a969595bbba296d0fc71671fc37e2820b0ffe6fc47f1e5b0df0dc85bf9692", func := "robuststats/robuststatslaw04.IntervalJoins", spec := "intervalJoins", named := ["math/bits.overflowError"], apart := false, narrowed := true }
def IntervalJoinsUptoSaid : Prop := intervalJoinsUptoRow.holds Tryz.pinned (OpenSpec.upto intervalJoinsSpec)

/-- 'robuststatslaw04.IntervalCalculates', WHERE WHAT IT READS IS OF BULK AT MOST 1048576: true; the input reads as it did. -/
def intervalCalculatesUptoRow : OpenClaim := { program := "ytjjefhbceoeibaagreat", sum := "d46a969595bbba296d0fc71671fc37e2820b0ffe6fc47f1e5b0df0dc85bf9692", func := "robuststats/robuststatslaw04.IntervalCalculates", spec := "intervalCalculates", named := ["math/bits.overflowError"], apart := false, narrowed := true }
def IntervalCalculatesUptoSaid : Prop := intervalCalculatesUptoRow.holds Tryz.pinned (OpenSpec.upto intervalCalculatesSpec)

/-- 'robuststatslaw04.IntervalContainsResults', WHERE WHAT IT READS IS OF BULK AT MOST 1048576: true; the input reads as it did. -/
def intervalContainsResultsUptoRow : OpenClaim := { program := "ytjjefhbceoeibaagreat", sum := "d46a969595bbba296d0fc71671fc37e2820b0ffe6fc47f1e5b0df0dc85bf9692", func := "robuststats/robuststatslaw04.IntervalContainsResults", spec := "intervalContainsResults", named := ["math/bits.overflowError"], apart := false, narrowed := true }
def IntervalContainsResultsUptoSaid : Prop := intervalContainsResultsUptoRow.holds Tryz.pinned (OpenSpec.upto intervalContainsResultsSpec)

/-- 'robuststatslaw04.IntervalChecks', WHERE WHAT IT READS IS OF BULK AT MOST 1048576: true; the input reads as it did. -/
def intervalChecksUptoRow : OpenClaim := { program := "ytjjefhbceoeibaagreat", sum := "d46a969595bbba296d0fc71671fc37e2820b0ffe6fc47f1e5b0df0dc85bf9692", func := "robuststats/robuststatslaw04.IntervalChecks", spec := "intervalChecks", named := ["math/bits.overflowError"], apart := false, narrowed := true }
def IntervalChecksUptoSaid : Prop := intervalChecksUptoRow.holds Tryz.pinned (OpenSpec.upto intervalChecksSpec)

end Rows
end Go.Proofs.YtjjefhbceoeibaaGreat
