/-
  No cell of these rows narrows 'for every input' (looked for: loops, veiled, ifaces, maps, wideKeys, modest, calm, conditions, laid).
  DERIVED. THE GIVEN ROWS OF THIS SEAT. 5 by the template 'for every input the law returns true; each argument reads behind the call as it read before'; 0 by the template 'total and deterministic' (their statements: YtoppaphffnojdaaGreatTotals.lean).
  GIVEN WITH THE SEED: the statements are not yours to turn. If you find one false, say at which input.
  Laid BY PROGRAM, IN A SANDBOX (cutbox-rows.mjs): the forced cells as the released guide's own fill.sh prints them over the translation 881af0d5d04b62b5… (all of the seat's roots in one cut). By AI agents, Wed Nov 11 2026. No macro, syntax, notation, axiom, sorry.
-/
import Derived.Test.YtoppaphffnojdaaGreatChecked
import GoSem.Claim
import GoSem.ClaimJoined
import GoSem.ClaimMapViews
import Derived.JoinedTies
import Derived.KernelRfl
namespace Go.Proofs.YtoppaphffnojdaaGreat
/- THE CELL 'sum', in the pinned program and in every row, IS THE sha256 OF THE DUMP (.gsa) THAT YtoppaphffnojdaaGreatProg.lean LOADS. Nothing in Lean hashes anything: it is a label: what it is worth is what the hold of that sum in a sandbox is worth. -/
noncomputable def Tryz.pinned : Pinned := { name := "ytoppaphffnojdaagreat", sum := "881af0d5d04b62b5739828decd9725fb9b97cff3fdd5073a673d506e8fc57fe0", checked := Tryz.checked }
namespace Rows
def none {H : Type} : Left H := { results := [], args := [] }

/-- 'robuststatslaw40.PlotPlaces': WHATEVER THE INPUT: true; the input reads as it did. -/
def plotPlacesSpec : ChangeSpec := { name := "plotPlaces", fn := fun _ => fun
  | [d1, d2, d3, d4, d5] => { results := [.lit (.bool true)], args := [d1, d2, d3, d4, d5] }
  | _ => none }
def plotPlacesRow : OpenClaim := { program := "ytoppaphffnojdaagreat", sum := "881af0d5d04b62b5739828decd9725fb9b97cff3fdd5073a673d506e8fc57fe0", func := "robuststats/robuststatslaw40.PlotPlaces", spec := "plotPlaces", unfollowed := true, recurses := true, named := ["math/bits.overflowError"], apart := false }
def PlotPlacesSaid : Prop := plotPlacesRow.holds Tryz.pinned (OpenSpec.ofChange plotPlacesSpec)

/-- ITS FALSE NEIGHBOUR: 'it returns false'. Refute it at one input. -/
def plotPlacesWrong : ChangeSpec := { name := "plotPlaces", fn := fun _ => fun
  | [d1, d2, d3, d4, d5] => { results := [.lit (.bool false)], args := [d1, d2, d3, d4, d5] }
  | _ => none }
def PlotPlacesWrongFalsely : Prop := plotPlacesRow.holds Tryz.pinned (OpenSpec.ofChange plotPlacesWrong)

/-- 'robuststatslaw40.PlotCounts': WHATEVER THE INPUT: true; the input reads as it did. -/
def plotCountsSpec : ChangeSpec := { name := "plotCounts", fn := fun _ => fun
  | [d] => { results := [.lit (.bool true)], args := [d] }
  | _ => none }
def plotCountsRow : OpenClaim := { program := "ytoppaphffnojdaagreat", sum := "881af0d5d04b62b5739828decd9725fb9b97cff3fdd5073a673d506e8fc57fe0", func := "robuststats/robuststatslaw40.PlotCounts", spec := "plotCounts", unfollowed := true, recurses := true, named := ["math/bits.overflowError"], apart := false }
def PlotCountsSaid : Prop := plotCountsRow.holds Tryz.pinned (OpenSpec.ofChange plotCountsSpec)

/-- ITS FALSE NEIGHBOUR: 'it returns false'. Refute it at one input. -/
def plotCountsWrong : ChangeSpec := { name := "plotCounts", fn := fun _ => fun
  | [d] => { results := [.lit (.bool false)], args := [d] }
  | _ => none }
def PlotCountsWrongFalsely : Prop := plotCountsRow.holds Tryz.pinned (OpenSpec.ofChange plotCountsWrong)

/-- 'robuststatslaw40.PlotScatters': WHATEVER THE INPUT: true; the input reads as it did. -/
def plotScattersSpec : ChangeSpec := { name := "plotScatters", fn := fun _ => fun
  | [d1, d2, d3, d4, d5] => { results := [.lit (.bool true)], args := [d1, d2, d3, d4, d5] }
  | _ => none }
def plotScattersRow : OpenClaim := { program := "ytoppaphffnojdaagreat", sum := "881af0d5d04b62b5739828decd9725fb9b97cff3fdd5073a673d506e8fc57fe0", func := "robuststats/robuststatslaw40.PlotScatters", spec := "plotScatters", unfollowed := true, recurses := true, named := ["math/bits.overflowError"], apart := false }
def PlotScattersSaid : Prop := plotScattersRow.holds Tryz.pinned (OpenSpec.ofChange plotScattersSpec)

/-- ITS FALSE NEIGHBOUR: 'it returns false'. Refute it at one input. -/
def plotScattersWrong : ChangeSpec := { name := "plotScatters", fn := fun _ => fun
  | [d1, d2, d3, d4, d5] => { results := [.lit (.bool false)], args := [d1, d2, d3, d4, d5] }
  | _ => none }
def PlotScattersWrongFalsely : Prop := plotScattersRow.holds Tryz.pinned (OpenSpec.ofChange plotScattersWrong)

/-- 'robuststatslaw40.PlotMoves': WHATEVER THE INPUT: true; the input reads as it did. -/
def plotMovesSpec : ChangeSpec := { name := "plotMoves", fn := fun _ => fun
  | [d] => { results := [.lit (.bool true)], args := [d] }
  | _ => none }
def plotMovesRow : OpenClaim := { program := "ytoppaphffnojdaagreat", sum := "881af0d5d04b62b5739828decd9725fb9b97cff3fdd5073a673d506e8fc57fe0", func := "robuststats/robuststatslaw40.PlotMoves", spec := "plotMoves", unfollowed := true, recurses := true, named := ["math/bits.overflowError"], apart := false }
def PlotMovesSaid : Prop := plotMovesRow.holds Tryz.pinned (OpenSpec.ofChange plotMovesSpec)

/-- ITS FALSE NEIGHBOUR: 'it returns false'. Refute it at one input. -/
def plotMovesWrong : ChangeSpec := { name := "plotMoves", fn := fun _ => fun
  | [d] => { results := [.lit (.bool false)], args := [d] }
  | _ => none }
def PlotMovesWrongFalsely : Prop := plotMovesRow.holds Tryz.pinned (OpenSpec.ofChange plotMovesWrong)

/-- 'robuststatslaw40.PlotLines': WHATEVER THE INPUT: true; the input reads as it did. -/
def plotLinesSpec : ChangeSpec := { name := "plotLines", fn := fun _ => fun
  | [d1, d2, d3, d4, d5, d6] => { results := [.lit (.bool true)], args := [d1, d2, d3, d4, d5, d6] }
  | _ => none }
def plotLinesRow : OpenClaim := { program := "ytoppaphffnojdaagreat", sum := "881af0d5d04b62b5739828decd9725fb9b97cff3fdd5073a673d506e8fc57fe0", func := "robuststats/robuststatslaw40.PlotLines", spec := "plotLines", unfollowed := true, recurses := true, named := ["math/bits.overflowError"], apart := false }
def PlotLinesSaid : Prop := plotLinesRow.holds Tryz.pinned (OpenSpec.ofChange plotLinesSpec)

/-- ITS FALSE NEIGHBOUR: 'it returns false'. Refute it at one input. -/
def plotLinesWrong : ChangeSpec := { name := "plotLines", fn := fun _ => fun
  | [d1, d2, d3, d4, d5, d6] => { results := [.lit (.bool false)], args := [d1, d2, d3, d4, d5, d6] }
  | _ => none }
def PlotLinesWrongFalsely : Prop := plotLinesRow.holds Tryz.pinned (OpenSpec.ofChange plotLinesWrong)

/- THE SECOND FORM. 'bulk': how many values and letters a reading holds, each counted each time it is reached (what is shared counts as often as it is met; a slice's spare places count too). A statement '..UptoSaid' is the law's where the arguments, and the package variables that the reading takes, are together of bulk at most 1048576: NARROWER than '..Said'. Prove '..Said' where nothing that the law and all that it calls make is longer than what came in: it says more and counts as full. Else prove '..UptoSaid'. A law counts once. -/
mutual
def uptoBulk {H : Type} : DataW H → Nat
  | .lit (.string bytes) => bytes.length + 1
  | .lit _ => 1
  | .nil => 1
  | .ptr d => uptoBulk d + 1
  | .slice elems spare => uptoBulkAll elems + uptoBulkAll spare + 1
  | .agg parts => uptoBulkAll parts + 1
  | .iface _ d => uptoBulk d + 1
  | .map entries => uptoBulkEntries entries + 1
  | .held _ => 1
def uptoBulkAll {H : Type} : List (DataW H) → Nat
  | [] => 0
  | d :: r => uptoBulk d + uptoBulkAll r
def uptoBulkEntries {H : Type} : List (Lit × DataW H) → Nat
  | [] => 0
  | x :: r => uptoBulkEntry x + uptoBulkEntries r
def uptoBulkEntry {H : Type} : Lit × DataW H → Nat
  | (.string bytes, d) => bytes.length + uptoBulk d + 1
  | (_, d) => uptoBulk d + 1
 end
def uptoSmall : (H : Type) → List (DataW H) → Bool := fun _ ds => decide (uptoBulkAll ds ≤ 1048576)
def OpenSpec.upto (s : _root_.Go.ChangeSpec) : _root_.Go.OpenSpec := { _root_.Go.OpenSpec.ofChange s with cond := some uptoSmall }

/-- 'robuststatslaw40.PlotPlaces', WHERE WHAT IT READS IS OF BULK AT MOST 1048576: true; the input reads as it did. -/
def plotPlacesUptoRow : OpenClaim := { program := "ytoppaphffnojdaagreat", sum := "881af0d5d04b62b5739828decd9725fb9b97cff3fdd5073a673d506e8fc57fe0", func := "robuststats/robuststatslaw40.PlotPlaces", spec := "plotPlaces", unfollowed := true, recurses := true, named := ["math/bits.overflowError"], apart := false, narrowed := true }
def PlotPlacesUptoSaid : Prop := plotPlacesUptoRow.holds Tryz.pinned (OpenSpec.upto plotPlacesSpec)

/-- 'robuststatslaw40.PlotCounts', WHERE WHAT IT READS IS OF BULK AT MOST 1048576: true; the input reads as it did. -/
def plotCountsUptoRow : OpenClaim := { program := "ytoppaphffnojdaagreat", sum := "881af0d5d04b62b5739828decd9725fb9b97cff3fdd5073a673d506e8fc57fe0", func := "robuststats/robuststatslaw40.PlotCounts", spec := "plotCounts", unfollowed := true, recurses := true, named := ["math/bits.overflowError"], apart := false, narrowed := true }
def PlotCountsUptoSaid : Prop := plotCountsUptoRow.holds Tryz.pinned (OpenSpec.upto plotCountsSpec)

/-- 'robuststatslaw40.PlotScatters', WHERE WHAT IT READS IS OF BULK AT MOST 1048576: true; the input reads as it did. -/
def plotScattersUptoRow : OpenClaim := { program := "ytoppaphffnojdaagreat", sum := "881af0d5d04b62b5739828decd9725fb9b97cff3fdd5073a673d506e8fc57fe0", func := "robuststats/robuststatslaw40.PlotScatters", spec := "plotScatters", unfollowed := true, recurses := true, named := ["math/bits.overflowError"], apart := false, narrowed := true }
def PlotScattersUptoSaid : Prop := plotScattersUptoRow.holds Tryz.pinned (OpenSpec.upto plotScattersSpec)

/-- 'robuststatslaw40.PlotMoves', WHERE WHAT IT READS IS OF BULK AT MOST 1048576: true; the input reads as it did. -/
def plotMovesUptoRow : OpenClaim := { program := "ytoppaphffnojdaagreat", sum := "881af0d5d04b62b5739828decd9725fb9b97cff3fdd5073a673d506e8fc57fe0", func := "robuststats/robuststatslaw40.PlotMoves", spec := "plotMoves", unfollowed := true, recurses := true, named := ["math/bits.overflowError"], apart := false, narrowed := true }
def PlotMovesUptoSaid : Prop := plotMovesUptoRow.holds Tryz.pinned (OpenSpec.upto plotMovesSpec)

/-- 'robuststatslaw40.PlotLines', WHERE WHAT IT READS IS OF BULK AT MOST 1048576: true; the input reads as it did. -/
def plotLinesUptoRow : OpenClaim := { program := "ytoppaphffnojdaagreat", sum := "881af0d5d04b62b5739828decd9725fb9b97cff3fdd5073a673d506e8fc57fe0", func := "robuststats/robuststatslaw40.PlotLines", spec := "plotLines", unfollowed := true, recurses := true, named := ["math/bits.overflowError"], apart := false, narrowed := true }
def PlotLinesUptoSaid : Prop := plotLinesUptoRow.holds Tryz.pinned (OpenSpec.upto plotLinesSpec)

end Rows
end Go.Proofs.YtoppaphffnojdaaGreat
