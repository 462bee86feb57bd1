/-
  No cell of these rows narrows 'for every input' (looked for: loops, veiled, ifaces, maps, wideKeys, modest, calm, conditions, laid).
  DERIVED. THE GIVEN ROWS OF THIS SEAT. 9 by the template 'for every input the law returns true; each argument reads behind the call as it read before'; 0 by the template 'total and deterministic' (their statements: YtfnckkfbnnbmkaaGreatTotals.lean).
  GIVEN WITH THE SEED: the statements are not yours to turn. If you find one false, say at which input.
  Laid BY PROGRAM, IN A SANDBOX (cutbox-rows.mjs): the forced cells as the released guide's own fill.sh prints them over the translation e1705bcabd4c6761… (all of the seat's roots in one cut). By AI agents, Wed Nov 11 2026. No macro, syntax, notation, axiom, sorry.
-/
import Derived.Test.YtfnckkfbnnbmkaaGreatChecked
import GoSem.Claim
import GoSem.ClaimJoined
import GoSem.ClaimMapViews
import Derived.JoinedTies
import Derived.KernelRfl
namespace Go.Proofs.YtfnckkfbnnbmkaaGreat
/- THE CELL 'sum', in the pinned program and in every row, IS THE sha256 OF THE DUMP (.gsa) THAT YtfnckkfbnnbmkaaGreatProg.lean LOADS. Nothing in Lean hashes anything: it is a label: what it is worth is what the hold of that sum in a sandbox is worth. -/
noncomputable def Tryz.pinned : Pinned := { name := "ytfnckkfbnnbmkaagreat", sum := "e1705bcabd4c67619997d9e097a75622a198eac13ec37276d178f4f8d68125ee", checked := Tryz.checked }
namespace Rows
def none {H : Type} : Left H := { results := [], args := [] }

/-- 'robuststatslaw16.OrderMediansAreNear': WHATEVER THE INPUT: true; the input reads as it did. -/
def orderMediansAreNearSpec : ChangeSpec := { name := "orderMediansAreNear", fn := fun _ => fun
  | [d1, d2, d3] => { results := [.lit (.bool true)], args := [d1, d2, d3] }
  | _ => none }
def orderMediansAreNearRow : OpenClaim := { program := "ytfnckkfbnnbmkaagreat", sum := "e1705bcabd4c67619997d9e097a75622a198eac13ec37276d178f4f8d68125ee", func := "robuststats/robuststatslaw16.OrderMediansAreNear", spec := "orderMediansAreNear", unfollowed := true, recurses := true, named := ["math/bits.overflowError"], apart := false }
def OrderMediansAreNearSaid : Prop := orderMediansAreNearRow.holds Tryz.pinned (OpenSpec.ofChange orderMediansAreNearSpec)

/-- ITS FALSE NEIGHBOUR: 'it returns false'. Refute it at one input. -/
def orderMediansAreNearWrong : ChangeSpec := { name := "orderMediansAreNear", fn := fun _ => fun
  | [d1, d2, d3] => { results := [.lit (.bool false)], args := [d1, d2, d3] }
  | _ => none }
def OrderMediansAreNearWrongFalsely : Prop := orderMediansAreNearRow.holds Tryz.pinned (OpenSpec.ofChange orderMediansAreNearWrong)

/-- 'robuststatslaw16.OrderResistsReplacing': WHATEVER THE INPUT: true; the input reads as it did. -/
def orderResistsReplacingSpec : ChangeSpec := { name := "orderResistsReplacing", fn := fun _ => fun
  | [d1, d2, d3, d4] => { results := [.lit (.bool true)], args := [d1, d2, d3, d4] }
  | _ => none }
def orderResistsReplacingRow : OpenClaim := { program := "ytfnckkfbnnbmkaagreat", sum := "e1705bcabd4c67619997d9e097a75622a198eac13ec37276d178f4f8d68125ee", func := "robuststats/robuststatslaw16.OrderResistsReplacing", spec := "orderResistsReplacing", unfollowed := true, recurses := true, named := ["math/bits.overflowError"], apart := false }
def OrderResistsReplacingSaid : Prop := orderResistsReplacingRow.holds Tryz.pinned (OpenSpec.ofChange orderResistsReplacingSpec)

/-- ITS FALSE NEIGHBOUR: 'it returns false'. Refute it at one input. -/
def orderResistsReplacingWrong : ChangeSpec := { name := "orderResistsReplacing", fn := fun _ => fun
  | [d1, d2, d3, d4] => { results := [.lit (.bool false)], args := [d1, d2, d3, d4] }
  | _ => none }
def OrderResistsReplacingWrongFalsely : Prop := orderResistsReplacingRow.holds Tryz.pinned (OpenSpec.ofChange orderResistsReplacingWrong)

/-- 'robuststatslaw16.OrderQuantilesSplit': WHATEVER THE INPUT: true; the input reads as it did. -/
def orderQuantilesSplitSpec : ChangeSpec := { name := "orderQuantilesSplit", fn := fun _ => fun
  | [d1, d2, d3] => { results := [.lit (.bool true)], args := [d1, d2, d3] }
  | _ => none }
def orderQuantilesSplitRow : OpenClaim := { program := "ytfnckkfbnnbmkaagreat", sum := "e1705bcabd4c67619997d9e097a75622a198eac13ec37276d178f4f8d68125ee", func := "robuststats/robuststatslaw16.OrderQuantilesSplit", spec := "orderQuantilesSplit", unfollowed := true, recurses := true, named := ["math/bits.overflowError"], apart := false }
def OrderQuantilesSplitSaid : Prop := orderQuantilesSplitRow.holds Tryz.pinned (OpenSpec.ofChange orderQuantilesSplitSpec)

/-- ITS FALSE NEIGHBOUR: 'it returns false'. Refute it at one input. -/
def orderQuantilesSplitWrong : ChangeSpec := { name := "orderQuantilesSplit", fn := fun _ => fun
  | [d1, d2, d3] => { results := [.lit (.bool false)], args := [d1, d2, d3] }
  | _ => none }
def OrderQuantilesSplitWrongFalsely : Prop := orderQuantilesSplitRow.holds Tryz.pinned (OpenSpec.ofChange orderQuantilesSplitWrong)

/-- 'robuststatslaw16.OrderEstimates': WHATEVER THE INPUT: true; the input reads as it did. -/
def orderEstimatesSpec : ChangeSpec := { name := "orderEstimates", fn := fun _ => fun
  | [d1, d2] => { results := [.lit (.bool true)], args := [d1, d2] }
  | _ => none }
def orderEstimatesRow : OpenClaim := { program := "ytfnckkfbnnbmkaagreat", sum := "e1705bcabd4c67619997d9e097a75622a198eac13ec37276d178f4f8d68125ee", func := "robuststats/robuststatslaw16.OrderEstimates", spec := "orderEstimates", unfollowed := true, recurses := true, named := ["math/bits.overflowError"], apart := false }
def OrderEstimatesSaid : Prop := orderEstimatesRow.holds Tryz.pinned (OpenSpec.ofChange orderEstimatesSpec)

/-- ITS FALSE NEIGHBOUR: 'it returns false'. Refute it at one input. -/
def orderEstimatesWrong : ChangeSpec := { name := "orderEstimates", fn := fun _ => fun
  | [d1, d2] => { results := [.lit (.bool false)], args := [d1, d2] }
  | _ => none }
def OrderEstimatesWrongFalsely : Prop := orderEstimatesRow.holds Tryz.pinned (OpenSpec.ofChange orderEstimatesWrong)

/-- 'robuststatslaw16.OrderSorts': WHATEVER THE INPUT: true; the input reads as it did. -/
def orderSortsSpec : ChangeSpec := { name := "orderSorts", fn := fun _ => fun
  | [d1, d2] => { results := [.lit (.bool true)], args := [d1, d2] }
  | _ => none }
def orderSortsRow : OpenClaim := { program := "ytfnckkfbnnbmkaagreat", sum := "e1705bcabd4c67619997d9e097a75622a198eac13ec37276d178f4f8d68125ee", func := "robuststats/robuststatslaw16.OrderSorts", spec := "orderSorts", unfollowed := true, recurses := true, named := ["math/bits.overflowError"], apart := false }
def OrderSortsSaid : Prop := orderSortsRow.holds Tryz.pinned (OpenSpec.ofChange orderSortsSpec)

/-- ITS FALSE NEIGHBOUR: 'it returns false'. Refute it at one input. -/
def orderSortsWrong : ChangeSpec := { name := "orderSorts", fn := fun _ => fun
  | [d1, d2] => { results := [.lit (.bool false)], args := [d1, d2] }
  | _ => none }
def OrderSortsWrongFalsely : Prop := orderSortsRow.holds Tryz.pinned (OpenSpec.ofChange orderSortsWrong)

/-- 'robuststatslaw16.OrderHasALimit': WHATEVER THE INPUT: true; the input reads as it did. -/
def orderHasALimitSpec : ChangeSpec := { name := "orderHasALimit", fn := fun _ => fun
  | [d] => { results := [.lit (.bool true)], args := [d] }
  | _ => none }
def orderHasALimitRow : OpenClaim := { program := "ytfnckkfbnnbmkaagreat", sum := "e1705bcabd4c67619997d9e097a75622a198eac13ec37276d178f4f8d68125ee", func := "robuststats/robuststatslaw16.OrderHasALimit", spec := "orderHasALimit", unfollowed := true, recurses := true, named := ["math/bits.overflowError"], apart := false }
def OrderHasALimitSaid : Prop := orderHasALimitRow.holds Tryz.pinned (OpenSpec.ofChange orderHasALimitSpec)

/-- ITS FALSE NEIGHBOUR: 'it returns false'. Refute it at one input. -/
def orderHasALimitWrong : ChangeSpec := { name := "orderHasALimit", fn := fun _ => fun
  | [d] => { results := [.lit (.bool false)], args := [d] }
  | _ => none }
def OrderHasALimitWrongFalsely : Prop := orderHasALimitRow.holds Tryz.pinned (OpenSpec.ofChange orderHasALimitWrong)

/-- 'robuststatslaw16.OrderIgnoresOrder': WHATEVER THE INPUT: true; the input reads as it did. -/
def orderIgnoresOrderSpec : ChangeSpec := { name := "orderIgnoresOrder", fn := fun _ => fun
  | [d1, d2, d3, d4] => { results := [.lit (.bool true)], args := [d1, d2, d3, d4] }
  | _ => none }
def orderIgnoresOrderRow : OpenClaim := { program := "ytfnckkfbnnbmkaagreat", sum := "e1705bcabd4c67619997d9e097a75622a198eac13ec37276d178f4f8d68125ee", func := "robuststats/robuststatslaw16.OrderIgnoresOrder", spec := "orderIgnoresOrder", unfollowed := true, recurses := true, named := ["math/bits.overflowError"], apart := false }
def OrderIgnoresOrderSaid : Prop := orderIgnoresOrderRow.holds Tryz.pinned (OpenSpec.ofChange orderIgnoresOrderSpec)

/-- ITS FALSE NEIGHBOUR: 'it returns false'. Refute it at one input. -/
def orderIgnoresOrderWrong : ChangeSpec := { name := "orderIgnoresOrder", fn := fun _ => fun
  | [d1, d2, d3, d4] => { results := [.lit (.bool false)], args := [d1, d2, d3, d4] }
  | _ => none }
def OrderIgnoresOrderWrongFalsely : Prop := orderIgnoresOrderRow.holds Tryz.pinned (OpenSpec.ofChange orderIgnoresOrderWrong)

/-- 'robuststatslaw16.OrderIsEquivariant': WHATEVER THE INPUT: true; the input reads as it did. -/
def orderIsEquivariantSpec : ChangeSpec := { name := "orderIsEquivariant", fn := fun _ => fun
  | [d1, d2, d3, d4, d5] => { results := [.lit (.bool true)], args := [d1, d2, d3, d4, d5] }
  | _ => none }
def orderIsEquivariantRow : OpenClaim := { program := "ytfnckkfbnnbmkaagreat", sum := "e1705bcabd4c67619997d9e097a75622a198eac13ec37276d178f4f8d68125ee", func := "robuststats/robuststatslaw16.OrderIsEquivariant", spec := "orderIsEquivariant", unfollowed := true, recurses := true, named := ["math/bits.overflowError"], apart := false }
def OrderIsEquivariantSaid : Prop := orderIsEquivariantRow.holds Tryz.pinned (OpenSpec.ofChange orderIsEquivariantSpec)

/-- ITS FALSE NEIGHBOUR: 'it returns false'. Refute it at one input. -/
def orderIsEquivariantWrong : ChangeSpec := { name := "orderIsEquivariant", fn := fun _ => fun
  | [d1, d2, d3, d4, d5] => { results := [.lit (.bool false)], args := [d1, d2, d3, d4, d5] }
  | _ => none }
def OrderIsEquivariantWrongFalsely : Prop := orderIsEquivariantRow.holds Tryz.pinned (OpenSpec.ofChange orderIsEquivariantWrong)

/-- 'robuststatslaw16.OrderStaysInside': WHATEVER THE INPUT: true; the input reads as it did. -/
def orderStaysInsideSpec : ChangeSpec := { name := "orderStaysInside", fn := fun _ => fun
  | [d1, d2, d3] => { results := [.lit (.bool true)], args := [d1, d2, d3] }
  | _ => none }
def orderStaysInsideRow : OpenClaim := { program := "ytfnckkfbnnbmkaagreat", sum := "e1705bcabd4c67619997d9e097a75622a198eac13ec37276d178f4f8d68125ee", func := "robuststats/robuststatslaw16.OrderStaysInside", spec := "orderStaysInside", unfollowed := true, recurses := true, named := ["math/bits.overflowError"], apart := false }
def OrderStaysInsideSaid : Prop := orderStaysInsideRow.holds Tryz.pinned (OpenSpec.ofChange orderStaysInsideSpec)

/-- ITS FALSE NEIGHBOUR: 'it returns false'. Refute it at one input. -/
def orderStaysInsideWrong : ChangeSpec := { name := "orderStaysInside", fn := fun _ => fun
  | [d1, d2, d3] => { results := [.lit (.bool false)], args := [d1, d2, d3] }
  | _ => none }
def OrderStaysInsideWrongFalsely : Prop := orderStaysInsideRow.holds Tryz.pinned (OpenSpec.ofChange orderStaysInsideWrong)

/- THE SECOND FORM. 'bulk': how many values and letters a reading holds, each counted each time it is reached (what is shared counts as often as it is met; a slice's spare places count too). A statement '..UptoSaid' is the law's where the arguments, and the package variables that the reading takes, are together of bulk at most 1048576: NARROWER than '..Said'. Prove '..Said' where nothing that the law and all that it calls make is longer than what came in: it says more and counts as full. Else prove '..UptoSaid'. A law counts once. -/
mutual
def uptoBulk {H : Type} : DataW H → Nat
  | .lit (.string bytes) => bytes.length + 1
  | .lit _ => 1
  | .nil => 1
  | .ptr d => uptoBulk d + 1
  | .slice elems spare => uptoBulkAll elems + uptoBulkAll spare + 1
  | .agg parts => uptoBulkAll parts + 1
  | .iface _ d => uptoBulk d + 1
  | .map entries => uptoBulkEntries entries + 1
  | .held _ => 1
def uptoBulkAll {H : Type} : List (DataW H) → Nat
  | [] => 0
  | d :: r => uptoBulk d + uptoBulkAll r
def uptoBulkEntries {H : Type} : List (Lit × DataW H) → Nat
  | [] => 0
  | x :: r => uptoBulkEntry x + uptoBulkEntries r
def uptoBulkEntry {H : Type} : Lit × DataW H → Nat
  | (.string bytes, d) => bytes.length + uptoBulk d + 1
  | (_, d) => uptoBulk d + 1
 end
def uptoSmall : (H : Type) → List (DataW H) → Bool := fun _ ds => decide (uptoBulkAll ds ≤ 1048576)
def OpenSpec.upto (s : _root_.Go.ChangeSpec) : _root_.Go.OpenSpec := { _root_.Go.OpenSpec.ofChange s with cond := some uptoSmall }

/-- 'robuststatslaw16.OrderMediansAreNear', WHERE WHAT IT READS IS OF BULK AT MOST 1048576: true; the input reads as it did. -/
def orderMediansAreNearUptoRow : OpenClaim := { program := "ytfnckkfbnnbmkaagreat", sum := "e1705bcabd4c67619997d9e097a75622a198eac13ec37276d178f4f8d68125ee", func := "robuststats/robuststatslaw16.OrderMediansAreNear", spec := "orderMediansAreNear", unfollowed := true, recurses := true, named := ["math/bits.overflowError"], apart := false, narrowed := true }
def OrderMediansAreNearUptoSaid : Prop := orderMediansAreNearUptoRow.holds Tryz.pinned (OpenSpec.upto orderMediansAreNearSpec)

/-- 'robuststatslaw16.OrderResistsReplacing', WHERE WHAT IT READS IS OF BULK AT MOST 1048576: true; the input reads as it did. -/
def orderResistsReplacingUptoRow : OpenClaim := { program := "ytfnckkfbnnbmkaagreat", sum := "e1705bcabd4c67619997d9e097a75622a198eac13ec37276d178f4f8d68125ee", func := "robuststats/robuststatslaw16.OrderResistsReplacing", spec := "orderResistsReplacing", unfollowed := true, recurses := true, named := ["math/bits.overflowError"], apart := false, narrowed := true }
def OrderResistsReplacingUptoSaid : Prop := orderResistsReplacingUptoRow.holds Tryz.pinned (OpenSpec.upto orderResistsReplacingSpec)

/-- 'robuststatslaw16.OrderQuantilesSplit', WHERE WHAT IT READS IS OF BULK AT MOST 1048576: true; the input reads as it did. -/
def orderQuantilesSplitUptoRow : OpenClaim := { program := "ytfnckkfbnnbmkaagreat", sum := "e1705bcabd4c67619997d9e097a75622a198eac13ec37276d178f4f8d68125ee", func := "robuststats/robuststatslaw16.OrderQuantilesSplit", spec := "orderQuantilesSplit", unfollowed := true, recurses := true, named := ["math/bits.overflowError"], apart := false, narrowed := true }
def OrderQuantilesSplitUptoSaid : Prop := orderQuantilesSplitUptoRow.holds Tryz.pinned (OpenSpec.upto orderQuantilesSplitSpec)

/-- 'robuststatslaw16.OrderEstimates', WHERE WHAT IT READS IS OF BULK AT MOST 1048576: true; the input reads as it did. -/
def orderEstimatesUptoRow : OpenClaim := { program := "ytfnckkfbnnbmkaagreat", sum := "e1705bcabd4c67619997d9e097a75622a198eac13ec37276d178f4f8d68125ee", func := "robuststats/robuststatslaw16.OrderEstimates", spec := "orderEstimates", unfollowed := true, recurses := true, named := ["math/bits.overflowError"], apart := false, narrowed := true }
def OrderEstimatesUptoSaid : Prop := orderEstimatesUptoRow.holds Tryz.pinned (OpenSpec.upto orderEstimatesSpec)

/-- 'robuststatslaw16.OrderSorts', WHERE WHAT IT READS IS OF BULK AT MOST 1048576: true; the input reads as it did. -/
def orderSortsUptoRow : OpenClaim := { program := "ytfnckkfbnnbmkaagreat", sum := "e1705bcabd4c67619997d9e097a75622a198eac13ec37276d178f4f8d68125ee", func := "robuststats/robuststatslaw16.OrderSorts", spec := "orderSorts", unfollowed := true, recurses := true, named := ["math/bits.overflowError"], apart := false, narrowed := true }
def OrderSortsUptoSaid : Prop := orderSortsUptoRow.holds Tryz.pinned (OpenSpec.upto orderSortsSpec)

/-- 'robuststatslaw16.OrderHasALimit', WHERE WHAT IT READS IS OF BULK AT MOST 1048576: true; the input reads as it did. -/
def orderHasALimitUptoRow : OpenClaim := { program := "ytfnckkfbnnbmkaagreat", sum := "e1705bcabd4c67619997d9e097a75622a198eac13ec37276d178f4f8d68125ee", func := "robuststats/robuststatslaw16.OrderHasALimit", spec := "orderHasALimit", unfollowed := true, recurses := true, named := ["math/bits.overflowError"], apart := false, narrowed := true }
def OrderHasALimitUptoSaid : Prop := orderHasALimitUptoRow.holds Tryz.pinned (OpenSpec.upto orderHasALimitSpec)

/-- 'robuststatslaw16.OrderIgnoresOrder', WHERE WHAT IT READS IS OF BULK AT MOST 1048576: true; the input reads as it did. -/
def orderIgnoresOrderUptoRow : OpenClaim := { program := "ytfnckkfbnnbmkaagreat", sum := "e1705bcabd4c67619997d9e097a75622a198eac13ec37276d178f4f8d68125ee", func := "robuststats/robuststatslaw16.OrderIgnoresOrder", spec := "orderIgnoresOrder", unfollowed := true, recurses := true, named := ["math/bits.overflowError"], apart := false, narrowed := true }
def OrderIgnoresOrderUptoSaid : Prop := orderIgnoresOrderUptoRow.holds Tryz.pinned (OpenSpec.upto orderIgnoresOrderSpec)

/-- 'robuststatslaw16.OrderIsEquivariant', WHERE WHAT IT READS IS OF BULK AT MOST 1048576: true; the input reads as it did. -/
def orderIsEquivariantUptoRow : OpenClaim := { program := "ytfnckkfbnnbmkaagreat", sum := "e1705bcabd4c67619997d9e097a75622a198eac13ec37276d178f4f8d68125ee", func := "robuststats/robuststatslaw16.OrderIsEquivariant", spec := "orderIsEquivariant", unfollowed := true, recurses := true, named := ["math/bits.overflowError"], apart := false, narrowed := true }
def OrderIsEquivariantUptoSaid : Prop := orderIsEquivariantUptoRow.holds Tryz.pinned (OpenSpec.upto orderIsEquivariantSpec)

/-- 'robuststatslaw16.OrderStaysInside', WHERE WHAT IT READS IS OF BULK AT MOST 1048576: true; the input reads as it did. -/
def orderStaysInsideUptoRow : OpenClaim := { program := "ytfnckkfbnnbmkaagreat", sum := "e1705bcabd4c67619997d9e097a75622a198eac13ec37276d178f4f8d68125ee", func := "robuststats/robuststatslaw16.OrderStaysInside", spec := "orderStaysInside", unfollowed := true, recurses := true, named := ["math/bits.overflowError"], apart := false, narrowed := true }
def OrderStaysInsideUptoSaid : Prop := orderStaysInsideUptoRow.holds Tryz.pinned (OpenSpec.upto orderStaysInsideSpec)

end Rows
end Go.Proofs.YtfnckkfbnnbmkaaGreat
